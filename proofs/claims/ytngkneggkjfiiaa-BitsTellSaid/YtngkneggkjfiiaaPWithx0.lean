-- written by the session's program wip/print/patch.py (a turned copy of the print) over contracts that the session proved by hand
import Derived.Test.YtngkneggkjfiiaaProg
import Derived.Below
import Derived.Deep.Draws
import Derived.Deep.AppendLies
import Derived.Maps.AppendAt
import Derived.OwnWalk
import Derived.Laws.BytesArg
import Derived.Laws.MakeOwn
import Derived.Laws.OwnMore
import Derived.Deep.OwnRows
import Derived.Tactics
import Derived.Lib.ConvBytes
import Derived.Laws.Slices
import Derived.WalkKit
import Derived.KernelRfl
import Derived.RowKit3
import Derived.Deep.LoopGhost
import Derived.Deep.QuietTactic
import Derived.BigQuiet
import Derived.WideLaws
import Derived.Deep.DeepCutAuto
import Derived.Deep.CutBlock
import Derived.Deep.RegionHeld3
import Derived.Laws.Rows
import Derived.Lib.AppendStr
import Derived.ArgAppend
import Derived.Laws.IdiomCopy
import Derived.OrdersHeld
import Derived.Laws.BitsLemmas
import Derived.RowKit
import Derived.Test.YtngkneggkjfiiaaG1
import Derived.Test.YtngkneggkjfiiaaWWords
import Derived.Test.YtngkneggkjfiiaaWLast
import Derived.Test.YtngkneggkjfiiaaWTab
import Derived.Test.YtngkneggkjfiiaaWFour
import Derived.Test.YtngkneggkjfiiaaWQPut
import Derived.Test.YtngkneggkjfiiaaWApart
import Derived.Test.YtngkneggkjfiiaaWArr
import Derived.Test.YtngkneggkjfiiaaWZeros
import Derived.Test.YtngkneggkjfiiaaWFoot
import Derived.Test.YtngkneggkjfiiaaWKept
import Derived.Test.YtngkneggkjfiiaaWShare
import Derived.Test.YtngkneggkjfiiaaWN
import Derived.Test.YtngkneggkjfiiaaWFootNe
import Derived.Test.YtngkneggkjfiiaaWAt
import Derived.Test.YtngkneggkjfiiaaWEqStruct
import Derived.Test.YtngkneggkjfiiaaWRepsOne
import Derived.Test.YtngkneggkjfiiaaWInv
import Derived.Test.YtngkneggkjfiiaaWInvWords
import Derived.Test.YtngkneggkjfiiaaWGuard
import Derived.Test.YtngkneggkjfiiaaWNEv
import Derived.Test.YtngkneggkjfiiaaWMore
namespace Go.Proofs.Ytngkneggkjfiiaa.PWith
open Go.Proofs.Ytngkneggkjfiiaa.Given Go.Proofs.Ytngkneggkjfiiaa.PGet
open Go.RowKit Go.Proofs.YtngkneggkjfiiaaW.PrintWords Go.Proofs.YtngkneggkjfiiaaW.PrintLast Go.Proofs.YtngkneggkjfiiaaW.PrintMore
attribute [local go_sem] max2_int min2_int max_two min_two max_three min_three max_four min_four   -- for this text's walks alone
set_option linter.unusedVariables false
set_option linter.unusedSimpArgs false



def errW : Option Int → Value
  | none => .nilIface
  | some c => .iface 0 (.int .i64 c)
theorem errW_none : errW none = .nilIface := rfl
theorem errW_some (c : Int) : errW (some c) = .iface 0 (.int .i64 c) := rfl

-- the values' own types

end Go.Proofs.Ytngkneggkjfiiaa.PWith
