-- written by the session's program wip/print/patch.py (a turned copy of the print) over contracts that the session proved by hand
import Derived.Test.YthhhklihggpldaaProg
import Derived.Below
import Derived.Deep.Draws
import Derived.Deep.AppendLies
import Derived.Maps.AppendAt
import Derived.OwnWalk
import Derived.Laws.BytesArg
import Derived.Laws.MakeOwn
import Derived.Laws.OwnMore
import Derived.Deep.OwnRows
import Derived.Tactics
import Derived.Lib.ConvBytes
import Derived.Laws.Slices
import Derived.WalkKit
import Derived.KernelRfl
import Derived.RowKit3
import Derived.Deep.LoopGhost
import Derived.Deep.QuietTactic
import Derived.BigQuiet
import Derived.WideLaws
import Derived.Deep.DeepCutAuto
import Derived.Deep.CutBlock
import Derived.Deep.RegionHeld3
import Derived.Laws.Rows
import Derived.Lib.AppendStr
import Derived.ArgAppend
import Derived.Laws.IdiomCopy
import Derived.OrdersHeld
import Derived.Laws.BitsLemmas
import Derived.RowKit
import Derived.Test.YthhhklihggpldaaGiven
import Derived.Test.YthhhklihggpldaaWWords
import Derived.Test.YthhhklihggpldaaWLast
import Derived.Test.YthhhklihggpldaaWTab
import Derived.Test.YthhhklihggpldaaWFour
import Derived.Test.YthhhklihggpldaaWQPut
import Derived.Test.YthhhklihggpldaaWApart
import Derived.Test.YthhhklihggpldaaWArr
import Derived.Test.YthhhklihggpldaaWZeros
import Derived.Test.YthhhklihggpldaaWFoot
import Derived.Test.YthhhklihggpldaaWKept
import Derived.Test.YthhhklihggpldaaWShare
import Derived.Test.YthhhklihggpldaaWN
import Derived.Test.YthhhklihggpldaaWFootNe
import Derived.Test.YthhhklihggpldaaWAt
import Derived.Test.YthhhklihggpldaaWEqStruct
import Derived.Test.YthhhklihggpldaaWRepsOne
import Derived.Test.YthhhklihggpldaaWInv
import Derived.Test.YthhhklihggpldaaWInvWords
import Derived.Test.YthhhklihggpldaaWGuard
import Derived.Test.YthhhklihggpldaaWNEv
import Derived.Test.YthhhklihggpldaaWMore
namespace Go.Proofs.Ythhhklihggpldaa.PEntryReads
open Go.Proofs.Ythhhklihggpldaa.Given
open Go.RowKit Go.Proofs.YthhhklihggpldaaW.PrintWords Go.Proofs.YthhhklihggpldaaW.PrintLast Go.Proofs.YthhhklihggpldaaW.PrintMore
attribute [local go_sem] max2_int min2_int max_two min_two max_three min_three max_four min_four   -- for this text's walks alone
set_option linter.unusedVariables false
set_option linter.unusedSimpArgs false



def errW : Option Int → Value
  | none => .nilIface
  | some c => .iface 0 (.int .i64 c)
theorem errW_none : errW none = .nilIface := rfl
theorem errW_some (c : Int) : errW (some c) = .iface 0 (.int .i64 c) := rfl

theorem info5 : (Try.prog.info? 5).map (fun i => (i.zero, i.size, i.bytes)) = some (some (.int .u8 0), 1, 1) := by kernel_rfl
-- the values' own types

end Go.Proofs.Ythhhklihggpldaa.PEntryReads
