-- written by the session's program wip/print/patch.py (a turned copy of the print) over contracts that the session proved by hand
import Derived.Test.YtppjeikkodjjhaaProg
import Derived.Below
import Derived.Deep.Draws
import Derived.Deep.AppendLies
import Derived.Maps.AppendAt
import Derived.OwnWalk
import Derived.Laws.BytesArg
import Derived.Laws.MakeOwn
import Derived.Laws.OwnMore
import Derived.Deep.OwnRows
import Derived.Tactics
import Derived.Lib.ConvBytes
import Derived.Laws.Slices
import Derived.WalkKit
import Derived.KernelRfl
import Derived.RowKit3
import Derived.Deep.LoopGhost
import Derived.Deep.QuietTactic
import Derived.BigQuiet
import Derived.WideLaws
import Derived.Deep.DeepCutAuto
import Derived.Deep.CutBlock
import Derived.Deep.RegionHeld3
import Derived.Laws.Rows
import Derived.Lib.AppendStr
import Derived.ArgAppend
import Derived.Laws.IdiomCopy
import Derived.OrdersHeld
import Derived.Laws.BitsLemmas
import Derived.RowKit
import Derived.Test.YtppjeikkodjjhaaB1
import Derived.Test.YtppjeikkodjjhaaWWords
import Derived.Test.YtppjeikkodjjhaaWLast
import Derived.Test.YtppjeikkodjjhaaWTab
import Derived.Test.YtppjeikkodjjhaaWQPut
import Derived.Test.YtppjeikkodjjhaaWApart
import Derived.Test.YtppjeikkodjjhaaWArr
import Derived.Test.YtppjeikkodjjhaaWZeros
import Derived.Test.YtppjeikkodjjhaaWFoot
import Derived.Test.YtppjeikkodjjhaaWKept
import Derived.Test.YtppjeikkodjjhaaWShare
import Derived.Test.YtppjeikkodjjhaaWN
import Derived.Test.YtppjeikkodjjhaaWNEv
import Derived.Test.YtppjeikkodjjhaaWMore
namespace Go.Proofs.Ytppjeikkodjjhaa.PWith
open Go.Proofs.Ytppjeikkodjjhaa.Given Go.Proofs.Ytppjeikkodjjhaa.PGet
open Go.RowKit Go.Proofs.YtppjeikkodjjhaaW.PrintWords Go.Proofs.YtppjeikkodjjhaaW.PrintLast Go.Proofs.YtppjeikkodjjhaaW.PrintMore
attribute [local go_sem] max2_int min2_int max_two min_two max_three min_three max_four min_four   -- for this text's walks alone
set_option linter.unusedVariables false
set_option linter.unusedSimpArgs false



def errW : Option Int → Value
  | none => .nilIface
  | some c => .iface 0 (.int .i64 c)
theorem errW_none : errW none = .nilIface := rfl
theorem errW_some (c : Int) : errW (some c) = .iface 0 (.int .i64 c) := rfl

-- the values' own types

end Go.Proofs.Ytppjeikkodjjhaa.PWith
