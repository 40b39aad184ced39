/-
  No cell of these rows narrows 'for every input' (looked for: loops, veiled, ifaces, maps, wideKeys, modest, calm, conditions, laid).
  DERIVED. THE GIVEN ROWS OF THIS SEAT. 5 by the template 'for every input the law returns true; each argument reads behind the call as it read before'; 0 by the template 'total and deterministic' (their statements: YtdjncafofcpoiaaTotals.lean).
  GIVEN WITH THE SEED: the statements are not yours to turn. If you find one false, say at which input.
  Laid BY PROGRAM, IN A SANDBOX (cutbox-rows.mjs): the forced cells as the released guide's own fill.sh prints them over the translation 57c0358d07650556… (all of the seat's roots in one cut). By AI agents, Wed Nov 11 2026. No macro, syntax, notation, axiom, sorry.
-/
import Derived.Test.YtdjncafofcpoiaaChecked
import GoSem.Claim
import GoSem.ClaimJoined
import GoSem.ClaimMapViews
import Derived.JoinedTies
import Derived.KernelRfl
namespace Go.Proofs.Ytdjncafofcpoiaa
/- THE CELL 'sum', in the pinned program and in every row, IS THE sha256 OF THE DUMP (.gsa) THAT YtdjncafofcpoiaaProg.lean LOADS. Nothing in Lean hashes anything: it is a label: what it is worth is what the hold of that sum in a sandbox is worth. -/
noncomputable def Try.pinned : Pinned := { name := "ytdjncafofcpoiaa", sum := "57c0358d0765055660910b251c9d0385f60754b4dbaaa671fa65e4320974b92e", checked := Try.checked }
namespace Rows
def none {H : Type} : Left H := { results := [], args := [] }

/-- 'lockgatelaw5.DinodePacks': WHATEVER THE INPUT: true; the input reads as it did. -/
def dinodePacksSpec : ChangeSpec := { name := "dinodePacks", fn := fun _ => fun
  | [d] => { results := [.lit (.bool true)], args := [d] }
  | _ => none }
def dinodePacksRow : OpenClaim := { program := "ytdjncafofcpoiaa", sum := "57c0358d0765055660910b251c9d0385f60754b4dbaaa671fa65e4320974b92e", func := "lockgate/lockgatelaw5.DinodePacks", spec := "dinodePacks", apart := false }
def DinodePacksSaid : Prop := dinodePacksRow.holds Try.pinned (OpenSpec.ofChange dinodePacksSpec)

/-- ITS FALSE NEIGHBOUR: 'it returns false'. Refute it at one input. -/
def dinodePacksWrong : ChangeSpec := { name := "dinodePacks", fn := fun _ => fun
  | [d] => { results := [.lit (.bool false)], args := [d] }
  | _ => none }
def DinodePacksWrongFalsely : Prop := dinodePacksRow.holds Try.pinned (OpenSpec.ofChange dinodePacksWrong)

/-- 'lockgatelaw5.DinodeReads': WHATEVER THE INPUT: true; the input reads as it did. -/
def dinodeReadsSpec : ChangeSpec := { name := "dinodeReads", fn := fun _ => fun
  | [d] => { results := [.lit (.bool true)], args := [d] }
  | _ => none }
def dinodeReadsRow : OpenClaim := { program := "ytdjncafofcpoiaa", sum := "57c0358d0765055660910b251c9d0385f60754b4dbaaa671fa65e4320974b92e", func := "lockgate/lockgatelaw5.DinodeReads", spec := "dinodeReads", apart := false }
def DinodeReadsSaid : Prop := dinodeReadsRow.holds Try.pinned (OpenSpec.ofChange dinodeReadsSpec)

/-- ITS FALSE NEIGHBOUR: 'it returns false'. Refute it at one input. -/
def dinodeReadsWrong : ChangeSpec := { name := "dinodeReads", fn := fun _ => fun
  | [d] => { results := [.lit (.bool false)], args := [d] }
  | _ => none }
def DinodeReadsWrongFalsely : Prop := dinodeReadsRow.holds Try.pinned (OpenSpec.ofChange dinodeReadsWrong)

/-- 'lockgatelaw5.DinodeEnds': WHATEVER THE INPUT: true; the input reads as it did. -/
def dinodeEndsSpec : ChangeSpec := { name := "dinodeEnds", fn := fun _ => fun
  | [d1, d2] => { results := [.lit (.bool true)], args := [d1, d2] }
  | _ => none }
def dinodeEndsRow : OpenClaim := { program := "ytdjncafofcpoiaa", sum := "57c0358d0765055660910b251c9d0385f60754b4dbaaa671fa65e4320974b92e", func := "lockgate/lockgatelaw5.DinodeEnds", spec := "dinodeEnds", apart := false }
def DinodeEndsSaid : Prop := dinodeEndsRow.holds Try.pinned (OpenSpec.ofChange dinodeEndsSpec)

/-- ITS FALSE NEIGHBOUR: 'it returns false'. Refute it at one input. -/
def dinodeEndsWrong : ChangeSpec := { name := "dinodeEnds", fn := fun _ => fun
  | [d1, d2] => { results := [.lit (.bool false)], args := [d1, d2] }
  | _ => none }
def DinodeEndsWrongFalsely : Prop := dinodeEndsRow.holds Try.pinned (OpenSpec.ofChange dinodeEndsWrong)

/-- 'lockgatelaw5.DinodeFree': WHATEVER THE INPUT: true; the input reads as it did. -/
def dinodeFreeSpec : ChangeSpec := { name := "dinodeFree", fn := fun _ => fun
  | [d1, d2] => { results := [.lit (.bool true)], args := [d1, d2] }
  | _ => none }
def dinodeFreeRow : OpenClaim := { program := "ytdjncafofcpoiaa", sum := "57c0358d0765055660910b251c9d0385f60754b4dbaaa671fa65e4320974b92e", func := "lockgate/lockgatelaw5.DinodeFree", spec := "dinodeFree", apart := false }
def DinodeFreeSaid : Prop := dinodeFreeRow.holds Try.pinned (OpenSpec.ofChange dinodeFreeSpec)

/-- ITS FALSE NEIGHBOUR: 'it returns false'. Refute it at one input. -/
def dinodeFreeWrong : ChangeSpec := { name := "dinodeFree", fn := fun _ => fun
  | [d1, d2] => { results := [.lit (.bool false)], args := [d1, d2] }
  | _ => none }
def DinodeFreeWrongFalsely : Prop := dinodeFreeRow.holds Try.pinned (OpenSpec.ofChange dinodeFreeWrong)

/-- 'lockgatelaw5.DinodePointers': WHATEVER THE INPUT: true; the input reads as it did. -/
def dinodePointersSpec : ChangeSpec := { name := "dinodePointers", fn := fun _ => fun
  | [d1, d2] => { results := [.lit (.bool true)], args := [d1, d2] }
  | _ => none }
def dinodePointersRow : OpenClaim := { program := "ytdjncafofcpoiaa", sum := "57c0358d0765055660910b251c9d0385f60754b4dbaaa671fa65e4320974b92e", func := "lockgate/lockgatelaw5.DinodePointers", spec := "dinodePointers", apart := false }
def DinodePointersSaid : Prop := dinodePointersRow.holds Try.pinned (OpenSpec.ofChange dinodePointersSpec)

/-- ITS FALSE NEIGHBOUR: 'it returns false'. Refute it at one input. -/
def dinodePointersWrong : ChangeSpec := { name := "dinodePointers", fn := fun _ => fun
  | [d1, d2] => { results := [.lit (.bool false)], args := [d1, d2] }
  | _ => none }
def DinodePointersWrongFalsely : Prop := dinodePointersRow.holds Try.pinned (OpenSpec.ofChange dinodePointersWrong)

/- THE SECOND FORM. 'bulk': how many values and letters a reading holds, each counted each time it is reached (what is shared counts as often as it is met; a slice's spare places count too). A statement '..UptoSaid' is the law's where the arguments, and the package variables that the reading takes, are together of bulk at most 1048576: NARROWER than '..Said'. Prove '..Said' where nothing that the law and all that it calls make is longer than what came in: it says more and counts as full. Else prove '..UptoSaid'. A law counts once. -/
mutual
def uptoBulk {H : Type} : DataW H → Nat
  | .lit (.string bytes) => bytes.length + 1
  | .lit _ => 1
  | .nil => 1
  | .ptr d => uptoBulk d + 1
  | .slice elems spare => uptoBulkAll elems + uptoBulkAll spare + 1
  | .agg parts => uptoBulkAll parts + 1
  | .iface _ d => uptoBulk d + 1
  | .map entries => uptoBulkEntries entries + 1
  | .held _ => 1
def uptoBulkAll {H : Type} : List (DataW H) → Nat
  | [] => 0
  | d :: r => uptoBulk d + uptoBulkAll r
def uptoBulkEntries {H : Type} : List (Lit × DataW H) → Nat
  | [] => 0
  | x :: r => uptoBulkEntry x + uptoBulkEntries r
def uptoBulkEntry {H : Type} : Lit × DataW H → Nat
  | (.string bytes, d) => bytes.length + uptoBulk d + 1
  | (_, d) => uptoBulk d + 1
 end
def uptoSmall : (H : Type) → List (DataW H) → Bool := fun _ ds => decide (uptoBulkAll ds ≤ 1048576)
def OpenSpec.upto (s : _root_.Go.ChangeSpec) : _root_.Go.OpenSpec := { _root_.Go.OpenSpec.ofChange s with cond := some uptoSmall }

/-- 'lockgatelaw5.DinodePacks', WHERE WHAT IT READS IS OF BULK AT MOST 1048576: true; the input reads as it did. -/
def dinodePacksUptoRow : OpenClaim := { program := "ytdjncafofcpoiaa", sum := "57c0358d0765055660910b251c9d0385f60754b4dbaaa671fa65e4320974b92e", func := "lockgate/lockgatelaw5.DinodePacks", spec := "dinodePacks", apart := false, narrowed := true }
def DinodePacksUptoSaid : Prop := dinodePacksUptoRow.holds Try.pinned (OpenSpec.upto dinodePacksSpec)

/-- 'lockgatelaw5.DinodeReads', WHERE WHAT IT READS IS OF BULK AT MOST 1048576: true; the input reads as it did. -/
def dinodeReadsUptoRow : OpenClaim := { program := "ytdjncafofcpoiaa", sum := "57c0358d0765055660910b251c9d0385f60754b4dbaaa671fa65e4320974b92e", func := "lockgate/lockgatelaw5.DinodeReads", spec := "dinodeReads", apart := false, narrowed := true }
def DinodeReadsUptoSaid : Prop := dinodeReadsUptoRow.holds Try.pinned (OpenSpec.upto dinodeReadsSpec)

/-- 'lockgatelaw5.DinodeEnds', WHERE WHAT IT READS IS OF BULK AT MOST 1048576: true; the input reads as it did. -/
def dinodeEndsUptoRow : OpenClaim := { program := "ytdjncafofcpoiaa", sum := "57c0358d0765055660910b251c9d0385f60754b4dbaaa671fa65e4320974b92e", func := "lockgate/lockgatelaw5.DinodeEnds", spec := "dinodeEnds", apart := false, narrowed := true }
def DinodeEndsUptoSaid : Prop := dinodeEndsUptoRow.holds Try.pinned (OpenSpec.upto dinodeEndsSpec)

/-- 'lockgatelaw5.DinodeFree', WHERE WHAT IT READS IS OF BULK AT MOST 1048576: true; the input reads as it did. -/
def dinodeFreeUptoRow : OpenClaim := { program := "ytdjncafofcpoiaa", sum := "57c0358d0765055660910b251c9d0385f60754b4dbaaa671fa65e4320974b92e", func := "lockgate/lockgatelaw5.DinodeFree", spec := "dinodeFree", apart := false, narrowed := true }
def DinodeFreeUptoSaid : Prop := dinodeFreeUptoRow.holds Try.pinned (OpenSpec.upto dinodeFreeSpec)

/-- 'lockgatelaw5.DinodePointers', WHERE WHAT IT READS IS OF BULK AT MOST 1048576: true; the input reads as it did. -/
def dinodePointersUptoRow : OpenClaim := { program := "ytdjncafofcpoiaa", sum := "57c0358d0765055660910b251c9d0385f60754b4dbaaa671fa65e4320974b92e", func := "lockgate/lockgatelaw5.DinodePointers", spec := "dinodePointers", apart := false, narrowed := true }
def DinodePointersUptoSaid : Prop := dinodePointersUptoRow.holds Try.pinned (OpenSpec.upto dinodePointersSpec)

end Rows
end Go.Proofs.Ytdjncafofcpoiaa
