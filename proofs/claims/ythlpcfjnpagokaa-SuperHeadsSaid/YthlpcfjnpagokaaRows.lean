/-
  No cell of these rows narrows 'for every input' (looked for: loops, veiled, ifaces, maps, wideKeys, modest, calm, conditions, laid).
  DERIVED. THE GIVEN ROWS OF THIS SEAT. 3 by the template 'for every input the law returns true; each argument reads behind the call as it read before'; 0 by the template 'total and deterministic' (their statements: YthlpcfjnpagokaaTotals.lean).
  GIVEN WITH THE SEED: the statements are not yours to turn. If you find one false, say at which input.
  Laid BY PROGRAM, IN A SANDBOX (cutbox-rows.mjs): the forced cells as the released guide's own fill.sh prints them over the translation c010b9c48e489911… (all of the seat's roots in one cut). By AI agents, Wed Nov 11 2026. No macro, syntax, notation, axiom, sorry.
-/
import Derived.Test.YthlpcfjnpagokaaChecked
import GoSem.Claim
import GoSem.ClaimJoined
import GoSem.ClaimMapViews
import Derived.JoinedTies
import Derived.KernelRfl
namespace Go.Proofs.Ythlpcfjnpagokaa
/- THE CELL 'sum', in the pinned program and in every row, IS THE sha256 OF THE DUMP (.gsa) THAT YthlpcfjnpagokaaProg.lean LOADS. Nothing in Lean hashes anything: it is a label: what it is worth is what the hold of that sum in a sandbox is worth. -/
noncomputable def Try.pinned : Pinned := { name := "ythlpcfjnpagokaa", sum := "c010b9c48e48991164e39b78e0c114bd1fc6647b9d8cd6debd1a746680c765a4", checked := Try.checked }
namespace Rows
def none {H : Type} : Left H := { results := [], args := [] }

/-- 'lockgatelaw4.SuperPacks': WHATEVER THE INPUT: true; the input reads as it did. -/
def superPacksSpec : ChangeSpec := { name := "superPacks", fn := fun _ => fun
  | [d] => { results := [.lit (.bool true)], args := [d] }
  | _ => none }
def superPacksRow : OpenClaim := { program := "ythlpcfjnpagokaa", sum := "c010b9c48e48991164e39b78e0c114bd1fc6647b9d8cd6debd1a746680c765a4", func := "lockgate/lockgatelaw4.SuperPacks", spec := "superPacks", apart := false }
def SuperPacksSaid : Prop := superPacksRow.holds Try.pinned (OpenSpec.ofChange superPacksSpec)

/-- ITS FALSE NEIGHBOUR: 'it returns false'. Refute it at one input. -/
def superPacksWrong : ChangeSpec := { name := "superPacks", fn := fun _ => fun
  | [d] => { results := [.lit (.bool false)], args := [d] }
  | _ => none }
def SuperPacksWrongFalsely : Prop := superPacksRow.holds Try.pinned (OpenSpec.ofChange superPacksWrong)

/-- 'lockgatelaw4.SuperReads': WHATEVER THE INPUT: true; the input reads as it did. -/
def superReadsSpec : ChangeSpec := { name := "superReads", fn := fun _ => fun
  | [d1, d2, d3, d4] => { results := [.lit (.bool true)], args := [d1, d2, d3, d4] }
  | _ => none }
def superReadsRow : OpenClaim := { program := "ythlpcfjnpagokaa", sum := "c010b9c48e48991164e39b78e0c114bd1fc6647b9d8cd6debd1a746680c765a4", func := "lockgate/lockgatelaw4.SuperReads", spec := "superReads", apart := false }
def SuperReadsSaid : Prop := superReadsRow.holds Try.pinned (OpenSpec.ofChange superReadsSpec)

/-- ITS FALSE NEIGHBOUR: 'it returns false'. Refute it at one input. -/
def superReadsWrong : ChangeSpec := { name := "superReads", fn := fun _ => fun
  | [d1, d2, d3, d4] => { results := [.lit (.bool false)], args := [d1, d2, d3, d4] }
  | _ => none }
def SuperReadsWrongFalsely : Prop := superReadsRow.holds Try.pinned (OpenSpec.ofChange superReadsWrong)

/-- 'lockgatelaw4.SuperHeads': WHATEVER THE INPUT: true; the input reads as it did. -/
def superHeadsSpec : ChangeSpec := { name := "superHeads", fn := fun _ => fun
  | [d1, d2, d3, d4, d5] => { results := [.lit (.bool true)], args := [d1, d2, d3, d4, d5] }
  | _ => none }
def superHeadsRow : OpenClaim := { program := "ythlpcfjnpagokaa", sum := "c010b9c48e48991164e39b78e0c114bd1fc6647b9d8cd6debd1a746680c765a4", func := "lockgate/lockgatelaw4.SuperHeads", spec := "superHeads", apart := false }
def SuperHeadsSaid : Prop := superHeadsRow.holds Try.pinned (OpenSpec.ofChange superHeadsSpec)

/-- ITS FALSE NEIGHBOUR: 'it returns false'. Refute it at one input. -/
def superHeadsWrong : ChangeSpec := { name := "superHeads", fn := fun _ => fun
  | [d1, d2, d3, d4, d5] => { results := [.lit (.bool false)], args := [d1, d2, d3, d4, d5] }
  | _ => none }
def SuperHeadsWrongFalsely : Prop := superHeadsRow.holds Try.pinned (OpenSpec.ofChange superHeadsWrong)

/- THE SECOND FORM. 'bulk': how many values and letters a reading holds, each counted each time it is reached (what is shared counts as often as it is met; a slice's spare places count too). A statement '..UptoSaid' is the law's where the arguments, and the package variables that the reading takes, are together of bulk at most 1048576: NARROWER than '..Said'. Prove '..Said' where nothing that the law and all that it calls make is longer than what came in: it says more and counts as full. Else prove '..UptoSaid'. A law counts once. -/
mutual
def uptoBulk {H : Type} : DataW H → Nat
  | .lit (.string bytes) => bytes.length + 1
  | .lit _ => 1
  | .nil => 1
  | .ptr d => uptoBulk d + 1
  | .slice elems spare => uptoBulkAll elems + uptoBulkAll spare + 1
  | .agg parts => uptoBulkAll parts + 1
  | .iface _ d => uptoBulk d + 1
  | .map entries => uptoBulkEntries entries + 1
  | .held _ => 1
def uptoBulkAll {H : Type} : List (DataW H) → Nat
  | [] => 0
  | d :: r => uptoBulk d + uptoBulkAll r
def uptoBulkEntries {H : Type} : List (Lit × DataW H) → Nat
  | [] => 0
  | x :: r => uptoBulkEntry x + uptoBulkEntries r
def uptoBulkEntry {H : Type} : Lit × DataW H → Nat
  | (.string bytes, d) => bytes.length + uptoBulk d + 1
  | (_, d) => uptoBulk d + 1
 end
def uptoSmall : (H : Type) → List (DataW H) → Bool := fun _ ds => decide (uptoBulkAll ds ≤ 1048576)
def OpenSpec.upto (s : _root_.Go.ChangeSpec) : _root_.Go.OpenSpec := { _root_.Go.OpenSpec.ofChange s with cond := some uptoSmall }

/-- 'lockgatelaw4.SuperPacks', WHERE WHAT IT READS IS OF BULK AT MOST 1048576: true; the input reads as it did. -/
def superPacksUptoRow : OpenClaim := { program := "ythlpcfjnpagokaa", sum := "c010b9c48e48991164e39b78e0c114bd1fc6647b9d8cd6debd1a746680c765a4", func := "lockgate/lockgatelaw4.SuperPacks", spec := "superPacks", apart := false, narrowed := true }
def SuperPacksUptoSaid : Prop := superPacksUptoRow.holds Try.pinned (OpenSpec.upto superPacksSpec)

/-- 'lockgatelaw4.SuperReads', WHERE WHAT IT READS IS OF BULK AT MOST 1048576: true; the input reads as it did. -/
def superReadsUptoRow : OpenClaim := { program := "ythlpcfjnpagokaa", sum := "c010b9c48e48991164e39b78e0c114bd1fc6647b9d8cd6debd1a746680c765a4", func := "lockgate/lockgatelaw4.SuperReads", spec := "superReads", apart := false, narrowed := true }
def SuperReadsUptoSaid : Prop := superReadsUptoRow.holds Try.pinned (OpenSpec.upto superReadsSpec)

/-- 'lockgatelaw4.SuperHeads', WHERE WHAT IT READS IS OF BULK AT MOST 1048576: true; the input reads as it did. -/
def superHeadsUptoRow : OpenClaim := { program := "ythlpcfjnpagokaa", sum := "c010b9c48e48991164e39b78e0c114bd1fc6647b9d8cd6debd1a746680c765a4", func := "lockgate/lockgatelaw4.SuperHeads", spec := "superHeads", apart := false, narrowed := true }
def SuperHeadsUptoSaid : Prop := superHeadsUptoRow.holds Try.pinned (OpenSpec.upto superHeadsSpec)

end Rows
end Go.Proofs.Ythlpcfjnpagokaa
