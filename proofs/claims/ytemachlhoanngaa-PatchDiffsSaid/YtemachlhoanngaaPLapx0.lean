-- written by the session's program wip/print/patch.py (a turned copy of the print) over contracts that the session proved by hand
import Derived.Test.YtemachlhoanngaaProg
import Derived.Below
import Derived.Deep.Draws
import Derived.Deep.AppendLies
import Derived.Maps.AppendAt
import Derived.OwnWalk
import Derived.Laws.BytesArg
import Derived.Laws.MakeOwn
import Derived.Laws.OwnMore
import Derived.Deep.OwnRows
import Derived.Tactics
import Derived.Lib.ConvBytes
import Derived.Laws.Slices
import Derived.WalkKit
import Derived.KernelRfl
import Derived.RowKit3
import Derived.Deep.LoopGhost
import Derived.Deep.QuietTactic
import Derived.BigQuiet
import Derived.WideLaws
import Derived.Deep.DeepCutAuto
import Derived.Deep.CutBlock
import Derived.Deep.RegionHeld3
import Derived.Laws.Rows
import Derived.Lib.AppendStr
import Derived.ArgAppend
import Derived.Laws.IdiomCopy
import Derived.OrdersHeld
import Derived.Laws.BitsLemmas
import Derived.RowKit
import Derived.Test.YtemachlhoanngaaKinds
import Derived.Test.YtemachlhoanngaaWWords
import Derived.Test.YtemachlhoanngaaWLast
import Derived.Test.YtemachlhoanngaaWTab
import Derived.Test.YtemachlhoanngaaWFour
import Derived.Test.YtemachlhoanngaaWQPut
import Derived.Test.YtemachlhoanngaaWApart
import Derived.Test.YtemachlhoanngaaWArr
import Derived.Test.YtemachlhoanngaaWZeros
import Derived.Test.YtemachlhoanngaaWFoot
import Derived.Test.YtemachlhoanngaaWKept
import Derived.Test.YtemachlhoanngaaWShare
import Derived.Test.YtemachlhoanngaaWN
import Derived.Test.YtemachlhoanngaaWFootNe
import Derived.Test.YtemachlhoanngaaWAt
import Derived.Test.YtemachlhoanngaaWEqStruct
import Derived.Test.YtemachlhoanngaaWRepsOne
import Derived.Test.YtemachlhoanngaaWInv
import Derived.Test.YtemachlhoanngaaWInvWords
import Derived.Test.YtemachlhoanngaaWGuard
import Derived.Test.YtemachlhoanngaaWNEv
import Derived.Test.YtemachlhoanngaaWMore
namespace Go.Proofs.Ytemachlhoanngaa.PLap
open Go.Proofs.Ytemachlhoanngaa.Given
open Go.RowKit Go.Proofs.YtemachlhoanngaaW.PrintWords Go.Proofs.YtemachlhoanngaaW.PrintLast Go.Proofs.YtemachlhoanngaaW.PrintMore
attribute [local go_sem] max2_int min2_int max_two min_two max_three min_three max_four min_four   -- for this text's walks alone
set_option linter.unusedVariables false
set_option linter.unusedSimpArgs false



def errW : Option Int → Value
  | none => .nilIface
  | some c => .iface 0 (.int .i64 c)
theorem errW_none : errW none = .nilIface := rfl
theorem errW_some (c : Int) : errW (some c) = .iface 0 (.int .i64 c) := rfl

-- the values' own types

end Go.Proofs.Ytemachlhoanngaa.PLap
