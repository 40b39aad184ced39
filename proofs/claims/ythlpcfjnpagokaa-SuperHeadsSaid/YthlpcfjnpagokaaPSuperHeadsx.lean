-- written by the session's program wip/print/patch.py (a turned copy of the print) over contracts that the session proved by hand
import Derived.Test.YthlpcfjnpagokaaPSuperHeadsx0
import Derived.Test.YthlpcfjnpagokaaPSuperHeadsx1
namespace Go.Proofs.Ythlpcfjnpagokaa.PSuperHeads
open Go.Proofs.Ythlpcfjnpagokaa.Given Go.Proofs.Ythlpcfjnpagokaa.PCheck Go.Proofs.Ythlpcfjnpagokaa.PNum Go.Proofs.Ythlpcfjnpagokaa.PHeadFns
open Go.RowKit Go.Proofs.YthlpcfjnpagokaaW.PrintWords Go.Proofs.YthlpcfjnpagokaaW.PrintLast Go.Proofs.YthlpcfjnpagokaaW.PrintMore
attribute [local go_sem] max2_int min2_int max_two min_two max_three min_three max_four min_four   -- for this text's walks alone
set_option linter.unusedVariables false
set_option linter.unusedSimpArgs false

end Go.Proofs.Ythlpcfjnpagokaa.PSuperHeads
