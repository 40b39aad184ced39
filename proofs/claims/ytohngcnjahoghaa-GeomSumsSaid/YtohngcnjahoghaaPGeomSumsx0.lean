-- written by the session's program wip/print/patch.py (a turned copy of the print) over contracts that the session proved by hand
import Derived.Test.YtohngcnjahoghaaProg
import Derived.Below
import Derived.Deep.Draws
import Derived.Deep.AppendLies
import Derived.Maps.AppendAt
import Derived.OwnWalk
import Derived.Laws.BytesArg
import Derived.Laws.MakeOwn
import Derived.Laws.OwnMore
import Derived.Deep.OwnRows
import Derived.Tactics
import Derived.Lib.ConvBytes
import Derived.Laws.Slices
import Derived.WalkKit
import Derived.KernelRfl
import Derived.RowKit3
import Derived.Deep.LoopGhost
import Derived.Deep.QuietTactic
import Derived.BigQuiet
import Derived.WideLaws
import Derived.Deep.DeepCutAuto
import Derived.Deep.CutBlock
import Derived.Deep.RegionHeld3
import Derived.Laws.Rows
import Derived.Lib.AppendStr
import Derived.ArgAppend
import Derived.Laws.IdiomCopy
import Derived.OrdersHeld
import Derived.Laws.BitsLemmas
import Derived.RowKit
import Derived.Test.YtohngcnjahoghaaGiven
import Derived.Test.YtohngcnjahoghaaWWords
import Derived.Test.YtohngcnjahoghaaWLast
import Derived.Test.YtohngcnjahoghaaWTab
import Derived.Test.YtohngcnjahoghaaWFour
import Derived.Test.YtohngcnjahoghaaWQPut
import Derived.Test.YtohngcnjahoghaaWApart
import Derived.Test.YtohngcnjahoghaaWArr
import Derived.Test.YtohngcnjahoghaaWZeros
import Derived.Test.YtohngcnjahoghaaWFoot
import Derived.Test.YtohngcnjahoghaaWKept
import Derived.Test.YtohngcnjahoghaaWShare
import Derived.Test.YtohngcnjahoghaaWN
import Derived.Test.YtohngcnjahoghaaWFootNe
import Derived.Test.YtohngcnjahoghaaWAt
import Derived.Test.YtohngcnjahoghaaWEqStruct
import Derived.Test.YtohngcnjahoghaaWRepsOne
import Derived.Test.YtohngcnjahoghaaWInv
import Derived.Test.YtohngcnjahoghaaWInvWords
import Derived.Test.YtohngcnjahoghaaWGuard
import Derived.Test.YtohngcnjahoghaaWNEv
import Derived.Test.YtohngcnjahoghaaWMore
namespace Go.Proofs.Ytohngcnjahoghaa.PGeomSums
open Go.Proofs.Ytohngcnjahoghaa.Given
open Go.RowKit Go.Proofs.YtohngcnjahoghaaW.PrintWords Go.Proofs.YtohngcnjahoghaaW.PrintLast Go.Proofs.YtohngcnjahoghaaW.PrintMore
attribute [local go_sem] max2_int min2_int max_two min_two max_three min_three max_four min_four   -- for this text's walks alone
set_option linter.unusedVariables false
set_option linter.unusedSimpArgs false



def errW : Option Int → Value
  | none => .nilIface
  | some c => .iface 0 (.int .i64 c)
theorem errW_none : errW none = .nilIface := rfl
theorem errW_some (c : Int) : errW (some c) = .iface 0 (.int .i64 c) := rfl

-- the values' own types

end Go.Proofs.Ytohngcnjahoghaa.PGeomSums
