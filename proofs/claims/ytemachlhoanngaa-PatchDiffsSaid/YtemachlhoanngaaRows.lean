/-
  No cell of these rows narrows 'for every input' (looked for: loops, veiled, ifaces, maps, wideKeys, modest, calm, conditions, laid).
  DERIVED. THE GIVEN ROWS OF THIS SEAT. 6 by the template 'for every input the law returns true; each argument reads behind the call as it read before'; 0 by the template 'total and deterministic' (their statements: YtemachlhoanngaaTotals.lean).
  GIVEN WITH THE SEED: the statements are not yours to turn. If you find one false, say at which input.
  Laid BY PROGRAM, IN A SANDBOX (cutbox-rows.mjs): the forced cells as the released guide's own fill.sh prints them over the translation 64a76b1f2b09785c… (all of the seat's roots in one cut). By AI agents, Wed Nov 11 2026. No macro, syntax, notation, axiom, sorry.
-/
import Derived.Test.YtemachlhoanngaaChecked
import GoSem.Claim
import GoSem.ClaimJoined
import GoSem.ClaimMapViews
import Derived.JoinedTies
import Derived.KernelRfl
namespace Go.Proofs.Ytemachlhoanngaa
/- THE CELL 'sum', in the pinned program and in every row, IS THE sha256 OF THE DUMP (.gsa) THAT YtemachlhoanngaaProg.lean LOADS. Nothing in Lean hashes anything: it is a label: what it is worth is what the hold of that sum in a sandbox is worth. -/
noncomputable def Try.pinned : Pinned := { name := "ytemachlhoanngaa", sum := "64a76b1f2b09785c6ca848df30e46e2244e4ec17ab16dbda6861a70b49e6bb14", checked := Try.checked }
namespace Rows
def none {H : Type} : Left H := { results := [], args := [] }

/-- 'lockgatelaw14.PatchLaps': WHATEVER THE INPUT: true; the input reads as it did. -/
def patchLapsSpec : ChangeSpec := { name := "patchLaps", fn := fun _ => fun
  | [d1, d2] => { results := [.lit (.bool true)], args := [d1, d2] }
  | _ => none }
def patchLapsRow : OpenClaim := { program := "ytemachlhoanngaa", sum := "64a76b1f2b09785c6ca848df30e46e2244e4ec17ab16dbda6861a70b49e6bb14", func := "lockgate/lockgatelaw14.PatchLaps", spec := "patchLaps", apart := false }
def PatchLapsSaid : Prop := patchLapsRow.holds Try.pinned (OpenSpec.ofChange patchLapsSpec)

/-- ITS FALSE NEIGHBOUR: 'it returns false'. Refute it at one input. -/
def patchLapsWrong : ChangeSpec := { name := "patchLaps", fn := fun _ => fun
  | [d1, d2] => { results := [.lit (.bool false)], args := [d1, d2] }
  | _ => none }
def PatchLapsWrongFalsely : Prop := patchLapsRow.holds Try.pinned (OpenSpec.ofChange patchLapsWrong)

/-- 'lockgatelaw14.PatchDiffs': WHATEVER THE INPUT: true; the input reads as it did. -/
def patchDiffsSpec : ChangeSpec := { name := "patchDiffs", fn := fun _ => fun
  | [d1, d2] => { results := [.lit (.bool true)], args := [d1, d2] }
  | _ => none }
def patchDiffsRow : OpenClaim := { program := "ytemachlhoanngaa", sum := "64a76b1f2b09785c6ca848df30e46e2244e4ec17ab16dbda6861a70b49e6bb14", func := "lockgate/lockgatelaw14.PatchDiffs", spec := "patchDiffs", unfollowed := true, recurses := true, apart := false }
def PatchDiffsSaid : Prop := patchDiffsRow.holds Try.pinned (OpenSpec.ofChange patchDiffsSpec)

/-- ITS FALSE NEIGHBOUR: 'it returns false'. Refute it at one input. -/
def patchDiffsWrong : ChangeSpec := { name := "patchDiffs", fn := fun _ => fun
  | [d1, d2] => { results := [.lit (.bool false)], args := [d1, d2] }
  | _ => none }
def PatchDiffsWrongFalsely : Prop := patchDiffsRow.holds Try.pinned (OpenSpec.ofChange patchDiffsWrong)

/-- 'lockgatelaw14.PatchEnds': WHATEVER THE INPUT: true; the input reads as it did. -/
def patchEndsSpec : ChangeSpec := { name := "patchEnds", fn := fun _ => fun
  | [d1, d2, d3] => { results := [.lit (.bool true)], args := [d1, d2, d3] }
  | _ => none }
def patchEndsRow : OpenClaim := { program := "ytemachlhoanngaa", sum := "64a76b1f2b09785c6ca848df30e46e2244e4ec17ab16dbda6861a70b49e6bb14", func := "lockgate/lockgatelaw14.PatchEnds", spec := "patchEnds", unfollowed := true, recurses := true, apart := false }
def PatchEndsSaid : Prop := patchEndsRow.holds Try.pinned (OpenSpec.ofChange patchEndsSpec)

/-- ITS FALSE NEIGHBOUR: 'it returns false'. Refute it at one input. -/
def patchEndsWrong : ChangeSpec := { name := "patchEnds", fn := fun _ => fun
  | [d1, d2, d3] => { results := [.lit (.bool false)], args := [d1, d2, d3] }
  | _ => none }
def PatchEndsWrongFalsely : Prop := patchEndsRow.holds Try.pinned (OpenSpec.ofChange patchEndsWrong)

/-- 'lockgatelaw14.PatchOver': WHATEVER THE INPUT: true; the input reads as it did. -/
def patchOverSpec : ChangeSpec := { name := "patchOver", fn := fun _ => fun
  | [d1, d2] => { results := [.lit (.bool true)], args := [d1, d2] }
  | _ => none }
def patchOverRow : OpenClaim := { program := "ytemachlhoanngaa", sum := "64a76b1f2b09785c6ca848df30e46e2244e4ec17ab16dbda6861a70b49e6bb14", func := "lockgate/lockgatelaw14.PatchOver", spec := "patchOver", unfollowed := true, recurses := true, apart := false }
def PatchOverSaid : Prop := patchOverRow.holds Try.pinned (OpenSpec.ofChange patchOverSpec)

/-- ITS FALSE NEIGHBOUR: 'it returns false'. Refute it at one input. -/
def patchOverWrong : ChangeSpec := { name := "patchOver", fn := fun _ => fun
  | [d1, d2] => { results := [.lit (.bool false)], args := [d1, d2] }
  | _ => none }
def PatchOverWrongFalsely : Prop := patchOverRow.holds Try.pinned (OpenSpec.ofChange patchOverWrong)

/-- 'lockgatelaw14.PatchApplies': WHATEVER THE INPUT: true; the input reads as it did. -/
def patchAppliesSpec : ChangeSpec := { name := "patchApplies", fn := fun _ => fun
  | [d1, d2, d3] => { results := [.lit (.bool true)], args := [d1, d2, d3] }
  | _ => none }
def patchAppliesRow : OpenClaim := { program := "ytemachlhoanngaa", sum := "64a76b1f2b09785c6ca848df30e46e2244e4ec17ab16dbda6861a70b49e6bb14", func := "lockgate/lockgatelaw14.PatchApplies", spec := "patchApplies", unfollowed := true, recurses := true, apart := false }
def PatchAppliesSaid : Prop := patchAppliesRow.holds Try.pinned (OpenSpec.ofChange patchAppliesSpec)

/-- ITS FALSE NEIGHBOUR: 'it returns false'. Refute it at one input. -/
def patchAppliesWrong : ChangeSpec := { name := "patchApplies", fn := fun _ => fun
  | [d1, d2, d3] => { results := [.lit (.bool false)], args := [d1, d2, d3] }
  | _ => none }
def PatchAppliesWrongFalsely : Prop := patchAppliesRow.holds Try.pinned (OpenSpec.ofChange patchAppliesWrong)

/-- 'lockgatelaw14.PatchLater': WHATEVER THE INPUT: true; the input reads as it did. -/
def patchLaterSpec : ChangeSpec := { name := "patchLater", fn := fun _ => fun
  | [d1, d2, d3] => { results := [.lit (.bool true)], args := [d1, d2, d3] }
  | _ => none }
def patchLaterRow : OpenClaim := { program := "ytemachlhoanngaa", sum := "64a76b1f2b09785c6ca848df30e46e2244e4ec17ab16dbda6861a70b49e6bb14", func := "lockgate/lockgatelaw14.PatchLater", spec := "patchLater", unfollowed := true, recurses := true, apart := false }
def PatchLaterSaid : Prop := patchLaterRow.holds Try.pinned (OpenSpec.ofChange patchLaterSpec)

/-- ITS FALSE NEIGHBOUR: 'it returns false'. Refute it at one input. -/
def patchLaterWrong : ChangeSpec := { name := "patchLater", fn := fun _ => fun
  | [d1, d2, d3] => { results := [.lit (.bool false)], args := [d1, d2, d3] }
  | _ => none }
def PatchLaterWrongFalsely : Prop := patchLaterRow.holds Try.pinned (OpenSpec.ofChange patchLaterWrong)

/- THE SECOND FORM. 'bulk': how many values and letters a reading holds, each counted each time it is reached (what is shared counts as often as it is met; a slice's spare places count too). A statement '..UptoSaid' is the law's where the arguments, and the package variables that the reading takes, are together of bulk at most 1048576: NARROWER than '..Said'. Prove '..Said' where nothing that the law and all that it calls make is longer than what came in: it says more and counts as full. Else prove '..UptoSaid'. A law counts once. -/
mutual
def uptoBulk {H : Type} : DataW H → Nat
  | .lit (.string bytes) => bytes.length + 1
  | .lit _ => 1
  | .nil => 1
  | .ptr d => uptoBulk d + 1
  | .slice elems spare => uptoBulkAll elems + uptoBulkAll spare + 1
  | .agg parts => uptoBulkAll parts + 1
  | .iface _ d => uptoBulk d + 1
  | .map entries => uptoBulkEntries entries + 1
  | .held _ => 1
def uptoBulkAll {H : Type} : List (DataW H) → Nat
  | [] => 0
  | d :: r => uptoBulk d + uptoBulkAll r
def uptoBulkEntries {H : Type} : List (Lit × DataW H) → Nat
  | [] => 0
  | x :: r => uptoBulkEntry x + uptoBulkEntries r
def uptoBulkEntry {H : Type} : Lit × DataW H → Nat
  | (.string bytes, d) => bytes.length + uptoBulk d + 1
  | (_, d) => uptoBulk d + 1
 end
def uptoSmall : (H : Type) → List (DataW H) → Bool := fun _ ds => decide (uptoBulkAll ds ≤ 1048576)
def OpenSpec.upto (s : _root_.Go.ChangeSpec) : _root_.Go.OpenSpec := { _root_.Go.OpenSpec.ofChange s with cond := some uptoSmall }

/-- 'lockgatelaw14.PatchLaps', WHERE WHAT IT READS IS OF BULK AT MOST 1048576: true; the input reads as it did. -/
def patchLapsUptoRow : OpenClaim := { program := "ytemachlhoanngaa", sum := "64a76b1f2b09785c6ca848df30e46e2244e4ec17ab16dbda6861a70b49e6bb14", func := "lockgate/lockgatelaw14.PatchLaps", spec := "patchLaps", apart := false, narrowed := true }
def PatchLapsUptoSaid : Prop := patchLapsUptoRow.holds Try.pinned (OpenSpec.upto patchLapsSpec)

/-- 'lockgatelaw14.PatchDiffs', WHERE WHAT IT READS IS OF BULK AT MOST 1048576: true; the input reads as it did. -/
def patchDiffsUptoRow : OpenClaim := { program := "ytemachlhoanngaa", sum := "64a76b1f2b09785c6ca848df30e46e2244e4ec17ab16dbda6861a70b49e6bb14", func := "lockgate/lockgatelaw14.PatchDiffs", spec := "patchDiffs", unfollowed := true, recurses := true, apart := false, narrowed := true }
def PatchDiffsUptoSaid : Prop := patchDiffsUptoRow.holds Try.pinned (OpenSpec.upto patchDiffsSpec)

/-- 'lockgatelaw14.PatchEnds', WHERE WHAT IT READS IS OF BULK AT MOST 1048576: true; the input reads as it did. -/
def patchEndsUptoRow : OpenClaim := { program := "ytemachlhoanngaa", sum := "64a76b1f2b09785c6ca848df30e46e2244e4ec17ab16dbda6861a70b49e6bb14", func := "lockgate/lockgatelaw14.PatchEnds", spec := "patchEnds", unfollowed := true, recurses := true, apart := false, narrowed := true }
def PatchEndsUptoSaid : Prop := patchEndsUptoRow.holds Try.pinned (OpenSpec.upto patchEndsSpec)

/-- 'lockgatelaw14.PatchOver', WHERE WHAT IT READS IS OF BULK AT MOST 1048576: true; the input reads as it did. -/
def patchOverUptoRow : OpenClaim := { program := "ytemachlhoanngaa", sum := "64a76b1f2b09785c6ca848df30e46e2244e4ec17ab16dbda6861a70b49e6bb14", func := "lockgate/lockgatelaw14.PatchOver", spec := "patchOver", unfollowed := true, recurses := true, apart := false, narrowed := true }
def PatchOverUptoSaid : Prop := patchOverUptoRow.holds Try.pinned (OpenSpec.upto patchOverSpec)

/-- 'lockgatelaw14.PatchApplies', WHERE WHAT IT READS IS OF BULK AT MOST 1048576: true; the input reads as it did. -/
def patchAppliesUptoRow : OpenClaim := { program := "ytemachlhoanngaa", sum := "64a76b1f2b09785c6ca848df30e46e2244e4ec17ab16dbda6861a70b49e6bb14", func := "lockgate/lockgatelaw14.PatchApplies", spec := "patchApplies", unfollowed := true, recurses := true, apart := false, narrowed := true }
def PatchAppliesUptoSaid : Prop := patchAppliesUptoRow.holds Try.pinned (OpenSpec.upto patchAppliesSpec)

/-- 'lockgatelaw14.PatchLater', WHERE WHAT IT READS IS OF BULK AT MOST 1048576: true; the input reads as it did. -/
def patchLaterUptoRow : OpenClaim := { program := "ytemachlhoanngaa", sum := "64a76b1f2b09785c6ca848df30e46e2244e4ec17ab16dbda6861a70b49e6bb14", func := "lockgate/lockgatelaw14.PatchLater", spec := "patchLater", unfollowed := true, recurses := true, apart := false, narrowed := true }
def PatchLaterUptoSaid : Prop := patchLaterUptoRow.holds Try.pinned (OpenSpec.upto patchLaterSpec)

end Rows
end Go.Proofs.Ytemachlhoanngaa
