/-
  No cell of these rows narrows 'for every input' (looked for: loops, veiled, ifaces, maps, wideKeys, modest, calm, conditions, laid).
  DERIVED. THE GIVEN ROWS OF THIS SEAT. 3 by the template 'for every input the law returns true; each argument reads behind the call as it read before'; 0 by the template 'total and deterministic' (their statements: YtngkneggkjfiiaaTotals.lean).
  GIVEN WITH THE SEED: the statements are not yours to turn. If you find one false, say at which input.
  Laid BY PROGRAM, IN A SANDBOX (cutbox-rows.mjs): the forced cells as the released guide's own fill.sh prints them over the translation 32eee78489e0d45f… (all of the seat's roots in one cut). By AI agents, Wed Nov 11 2026. No macro, syntax, notation, axiom, sorry.
-/
import Derived.Test.YtngkneggkjfiiaaChecked
import GoSem.Claim
import GoSem.ClaimJoined
import GoSem.ClaimMapViews
import Derived.JoinedTies
import Derived.KernelRfl
namespace Go.Proofs.Ytngkneggkjfiiaa
/- THE CELL 'sum', in the pinned program and in every row, IS THE sha256 OF THE DUMP (.gsa) THAT YtngkneggkjfiiaaProg.lean LOADS. Nothing in Lean hashes anything: it is a label: what it is worth is what the hold of that sum in a sandbox is worth. -/
noncomputable def Try.pinned : Pinned := { name := "ytngkneggkjfiiaa", sum := "32eee78489e0d45f270bf7c86cfc3bcc4f1340bbcf9aeda5ed171fb034e4f81f", checked := Try.checked }
namespace Rows
def none {H : Type} : Left H := { results := [], args := [] }

/-- 'lockgatelaw2.BitsTell': WHATEVER THE INPUT: true; the input reads as it did. -/
def bitsTellSpec : ChangeSpec := { name := "bitsTell", fn := fun _ => fun
  | [d1, d2, d3, d4, d5] => { results := [.lit (.bool true)], args := [d1, d2, d3, d4, d5] }
  | _ => none }
def bitsTellRow : OpenClaim := { program := "ytngkneggkjfiiaa", sum := "32eee78489e0d45f270bf7c86cfc3bcc4f1340bbcf9aeda5ed171fb034e4f81f", func := "lockgate/lockgatelaw2.BitsTell", spec := "bitsTell", unfollowed := true, recurses := true, apart := false }
def BitsTellSaid : Prop := bitsTellRow.holds Try.pinned (OpenSpec.ofChange bitsTellSpec)

/-- ITS FALSE NEIGHBOUR: 'it returns false'. Refute it at one input. -/
def bitsTellWrong : ChangeSpec := { name := "bitsTell", fn := fun _ => fun
  | [d1, d2, d3, d4, d5] => { results := [.lit (.bool false)], args := [d1, d2, d3, d4, d5] }
  | _ => none }
def BitsTellWrongFalsely : Prop := bitsTellRow.holds Try.pinned (OpenSpec.ofChange bitsTellWrong)

/-- 'lockgatelaw2.BitsTurn': WHATEVER THE INPUT: true; the input reads as it did. -/
def bitsTurnSpec : ChangeSpec := { name := "bitsTurn", fn := fun _ => fun
  | [d1, d2, d3, d4] => { results := [.lit (.bool true)], args := [d1, d2, d3, d4] }
  | _ => none }
def bitsTurnRow : OpenClaim := { program := "ytngkneggkjfiiaa", sum := "32eee78489e0d45f270bf7c86cfc3bcc4f1340bbcf9aeda5ed171fb034e4f81f", func := "lockgate/lockgatelaw2.BitsTurn", spec := "bitsTurn", unfollowed := true, recurses := true, apart := false }
def BitsTurnSaid : Prop := bitsTurnRow.holds Try.pinned (OpenSpec.ofChange bitsTurnSpec)

/-- ITS FALSE NEIGHBOUR: 'it returns false'. Refute it at one input. -/
def bitsTurnWrong : ChangeSpec := { name := "bitsTurn", fn := fun _ => fun
  | [d1, d2, d3, d4] => { results := [.lit (.bool false)], args := [d1, d2, d3, d4] }
  | _ => none }
def BitsTurnWrongFalsely : Prop := bitsTurnRow.holds Try.pinned (OpenSpec.ofChange bitsTurnWrong)

/-- 'lockgatelaw2.BitsFill': WHATEVER THE INPUT: true; the input reads as it did. -/
def bitsFillSpec : ChangeSpec := { name := "bitsFill", fn := fun _ => fun
  | [d1, d2] => { results := [.lit (.bool true)], args := [d1, d2] }
  | _ => none }
def bitsFillRow : OpenClaim := { program := "ytngkneggkjfiiaa", sum := "32eee78489e0d45f270bf7c86cfc3bcc4f1340bbcf9aeda5ed171fb034e4f81f", func := "lockgate/lockgatelaw2.BitsFill", spec := "bitsFill", unfollowed := true, recurses := true, apart := false }
def BitsFillSaid : Prop := bitsFillRow.holds Try.pinned (OpenSpec.ofChange bitsFillSpec)

/-- ITS FALSE NEIGHBOUR: 'it returns false'. Refute it at one input. -/
def bitsFillWrong : ChangeSpec := { name := "bitsFill", fn := fun _ => fun
  | [d1, d2] => { results := [.lit (.bool false)], args := [d1, d2] }
  | _ => none }
def BitsFillWrongFalsely : Prop := bitsFillRow.holds Try.pinned (OpenSpec.ofChange bitsFillWrong)

/- THE SECOND FORM. 'bulk': how many values and letters a reading holds, each counted each time it is reached (what is shared counts as often as it is met; a slice's spare places count too). A statement '..UptoSaid' is the law's where the arguments, and the package variables that the reading takes, are together of bulk at most 1048576: NARROWER than '..Said'. Prove '..Said' where nothing that the law and all that it calls make is longer than what came in: it says more and counts as full. Else prove '..UptoSaid'. A law counts once. -/
mutual
def uptoBulk {H : Type} : DataW H → Nat
  | .lit (.string bytes) => bytes.length + 1
  | .lit _ => 1
  | .nil => 1
  | .ptr d => uptoBulk d + 1
  | .slice elems spare => uptoBulkAll elems + uptoBulkAll spare + 1
  | .agg parts => uptoBulkAll parts + 1
  | .iface _ d => uptoBulk d + 1
  | .map entries => uptoBulkEntries entries + 1
  | .held _ => 1
def uptoBulkAll {H : Type} : List (DataW H) → Nat
  | [] => 0
  | d :: r => uptoBulk d + uptoBulkAll r
def uptoBulkEntries {H : Type} : List (Lit × DataW H) → Nat
  | [] => 0
  | x :: r => uptoBulkEntry x + uptoBulkEntries r
def uptoBulkEntry {H : Type} : Lit × DataW H → Nat
  | (.string bytes, d) => bytes.length + uptoBulk d + 1
  | (_, d) => uptoBulk d + 1
 end
def uptoSmall : (H : Type) → List (DataW H) → Bool := fun _ ds => decide (uptoBulkAll ds ≤ 1048576)
def OpenSpec.upto (s : _root_.Go.ChangeSpec) : _root_.Go.OpenSpec := { _root_.Go.OpenSpec.ofChange s with cond := some uptoSmall }

/-- 'lockgatelaw2.BitsTell', WHERE WHAT IT READS IS OF BULK AT MOST 1048576: true; the input reads as it did. -/
def bitsTellUptoRow : OpenClaim := { program := "ytngkneggkjfiiaa", sum := "32eee78489e0d45f270bf7c86cfc3bcc4f1340bbcf9aeda5ed171fb034e4f81f", func := "lockgate/lockgatelaw2.BitsTell", spec := "bitsTell", unfollowed := true, recurses := true, apart := false, narrowed := true }
def BitsTellUptoSaid : Prop := bitsTellUptoRow.holds Try.pinned (OpenSpec.upto bitsTellSpec)

/-- 'lockgatelaw2.BitsTurn', WHERE WHAT IT READS IS OF BULK AT MOST 1048576: true; the input reads as it did. -/
def bitsTurnUptoRow : OpenClaim := { program := "ytngkneggkjfiiaa", sum := "32eee78489e0d45f270bf7c86cfc3bcc4f1340bbcf9aeda5ed171fb034e4f81f", func := "lockgate/lockgatelaw2.BitsTurn", spec := "bitsTurn", unfollowed := true, recurses := true, apart := false, narrowed := true }
def BitsTurnUptoSaid : Prop := bitsTurnUptoRow.holds Try.pinned (OpenSpec.upto bitsTurnSpec)

/-- 'lockgatelaw2.BitsFill', WHERE WHAT IT READS IS OF BULK AT MOST 1048576: true; the input reads as it did. -/
def bitsFillUptoRow : OpenClaim := { program := "ytngkneggkjfiiaa", sum := "32eee78489e0d45f270bf7c86cfc3bcc4f1340bbcf9aeda5ed171fb034e4f81f", func := "lockgate/lockgatelaw2.BitsFill", spec := "bitsFill", unfollowed := true, recurses := true, apart := false, narrowed := true }
def BitsFillUptoSaid : Prop := bitsFillUptoRow.holds Try.pinned (OpenSpec.upto bitsFillSpec)

end Rows
end Go.Proofs.Ytngkneggkjfiiaa
