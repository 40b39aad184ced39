-- written by the session's program wip/print/patch.py (a turned copy of the print) over contracts that the session proved by hand
import Derived.Test.YtemachlhoanngaaPPatchLapsx0
import Derived.Test.YtemachlhoanngaaPPatchLapsx1
import Derived.Test.YtemachlhoanngaaPPatchLapsx2
namespace Go.Proofs.Ytemachlhoanngaa.PPatchLaps
open Go.Proofs.Ytemachlhoanngaa.Given
open Go.RowKit Go.Proofs.YtemachlhoanngaaW.PrintWords Go.Proofs.YtemachlhoanngaaW.PrintLast Go.Proofs.YtemachlhoanngaaW.PrintMore
attribute [local go_sem] max2_int min2_int max_two min_two max_three min_three max_four min_four   -- for this text's walks alone
set_option linter.unusedVariables false
set_option linter.unusedSimpArgs false

end Go.Proofs.Ytemachlhoanngaa.PPatchLaps
