-- written by the session's program wip/print/patch.py (a turned copy of the print) over contracts that the session proved by hand
import Derived.Test.YthlpcfjnpagokaaProg
import Derived.Below
import Derived.Deep.Draws
import Derived.Deep.AppendLies
import Derived.Maps.AppendAt
import Derived.OwnWalk
import Derived.Laws.BytesArg
import Derived.Laws.MakeOwn
import Derived.Laws.OwnMore
import Derived.Deep.OwnRows
import Derived.Tactics
import Derived.Lib.ConvBytes
import Derived.Laws.Slices
import Derived.WalkKit
import Derived.KernelRfl
import Derived.RowKit3
import Derived.Deep.LoopGhost
import Derived.Deep.QuietTactic
import Derived.BigQuiet
import Derived.WideLaws
import Derived.Deep.DeepCutAuto
import Derived.Deep.CutBlock
import Derived.Deep.RegionHeld3
import Derived.Laws.Rows
import Derived.Lib.AppendStr
import Derived.ArgAppend
import Derived.Laws.IdiomCopy
import Derived.OrdersHeld
import Derived.Laws.BitsLemmas
import Derived.RowKit
import Derived.Test.YthlpcfjnpagokaaWWords
import Derived.Test.YthlpcfjnpagokaaWLast
import Derived.Test.YthlpcfjnpagokaaWTab
import Derived.Test.YthlpcfjnpagokaaWFour
import Derived.Test.YthlpcfjnpagokaaWQPut
import Derived.Test.YthlpcfjnpagokaaWApart
import Derived.Test.YthlpcfjnpagokaaWArr
import Derived.Test.YthlpcfjnpagokaaWZeros
import Derived.Test.YthlpcfjnpagokaaWFoot
import Derived.Test.YthlpcfjnpagokaaWKept
import Derived.Test.YthlpcfjnpagokaaWShare
import Derived.Test.YthlpcfjnpagokaaWN
import Derived.Test.YthlpcfjnpagokaaWFootNe
import Derived.Test.YthlpcfjnpagokaaWAt
import Derived.Test.YthlpcfjnpagokaaWEqStruct
import Derived.Test.YthlpcfjnpagokaaWRepsOne
import Derived.Test.YthlpcfjnpagokaaWInv
import Derived.Test.YthlpcfjnpagokaaWInvWords
import Derived.Test.YthlpcfjnpagokaaWGuard
import Derived.Test.YthlpcfjnpagokaaWNEv
import Derived.Test.YthlpcfjnpagokaaWMore
namespace Go.Proofs.Ythlpcfjnpagokaa.PNum
open Go.RowKit Go.Proofs.YthlpcfjnpagokaaW.PrintWords Go.Proofs.YthlpcfjnpagokaaW.PrintLast Go.Proofs.YthlpcfjnpagokaaW.PrintMore
attribute [local go_sem] max2_int min2_int max_two min_two max_three min_three max_four min_four   -- for this text's walks alone
set_option linter.unusedVariables false
set_option linter.unusedSimpArgs false



def errW : Option Int → Value
  | none => .nilIface
  | some c => .iface 0 (.int .i64 c)
theorem errW_none : errW none = .nilIface := rfl
theorem errW_some (c : Int) : errW (some c) = .iface 0 (.int .i64 c) := rfl

theorem info5 : (Try.prog.info? 5).map (fun i => (i.zero, i.size, i.bytes)) = some (some (.int .u8 0), 1, 1) := by kernel_rfl
-- the values' own types

end Go.Proofs.Ythlpcfjnpagokaa.PNum
