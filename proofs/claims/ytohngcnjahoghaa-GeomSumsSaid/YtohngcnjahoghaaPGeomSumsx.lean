-- written by the session's program wip/print/patch.py (a turned copy of the print) over contracts that the session proved by hand
import Derived.Test.YtohngcnjahoghaaPGeomSumsx0
import Derived.Test.YtohngcnjahoghaaPGeomSumsx1
import Derived.Test.YtohngcnjahoghaaPGeomSumsx2
import Derived.Test.YtohngcnjahoghaaPGeomSumsx3
namespace Go.Proofs.Ytohngcnjahoghaa.PGeomSums
open Go.Proofs.Ytohngcnjahoghaa.Given
open Go.RowKit Go.Proofs.YtohngcnjahoghaaW.PrintWords Go.Proofs.YtohngcnjahoghaaW.PrintLast Go.Proofs.YtohngcnjahoghaaW.PrintMore
attribute [local go_sem] max2_int min2_int max_two min_two max_three min_three max_four min_four   -- for this text's walks alone
set_option linter.unusedVariables false
set_option linter.unusedSimpArgs false

end Go.Proofs.Ytohngcnjahoghaa.PGeomSums
