/-
  No cell of these rows narrows 'for every input' (looked for: loops, veiled, ifaces, maps, wideKeys, modest, calm, conditions, laid).
  DERIVED. THE GIVEN ROWS OF THIS SEAT. 4 by the template 'for every input the law returns true; each argument reads behind the call as it read before'; 0 by the template 'total and deterministic' (their statements: YtppjeikkodjjhaaTotals.lean).
  GIVEN WITH THE SEED: the statements are not yours to turn. If you find one false, say at which input.
  Laid BY PROGRAM, IN A SANDBOX (cutbox-rows.mjs): the forced cells as the released guide's own fill.sh prints them over the translation 7c2107478b293b76… (all of the seat's roots in one cut). By AI agents, Wed Nov 11 2026. No macro, syntax, notation, axiom, sorry.
-/
import Derived.Test.YtppjeikkodjjhaaChecked
import GoSem.Claim
import GoSem.ClaimJoined
import GoSem.ClaimMapViews
import Derived.JoinedTies
import Derived.KernelRfl
namespace Go.Proofs.Ytppjeikkodjjhaa
/- THE CELL 'sum', in the pinned program and in every row, IS THE sha256 OF THE DUMP (.gsa) THAT YtppjeikkodjjhaaProg.lean LOADS. Nothing in Lean hashes anything: it is a label: what it is worth is what the hold of that sum in a sandbox is worth. -/
noncomputable def Try.pinned : Pinned := { name := "ytppjeikkodjjhaa", sum := "7c2107478b293b763e3afceb511d91ff96b14c1bf0beadb75fe6da080c6b77fb", checked := Try.checked }
namespace Rows
def none {H : Type} : Left H := { results := [], args := [] }

/-- 'lockgatelaw11.AllocGroups': WHATEVER THE INPUT: true; the input reads as it did. -/
def allocGroupsSpec : ChangeSpec := { name := "allocGroups", fn := fun _ => fun
  | [d1, d2] => { results := [.lit (.bool true)], args := [d1, d2] }
  | _ => none }
def allocGroupsRow : OpenClaim := { program := "ytppjeikkodjjhaa", sum := "7c2107478b293b763e3afceb511d91ff96b14c1bf0beadb75fe6da080c6b77fb", func := "lockgate/lockgatelaw11.AllocGroups", spec := "allocGroups", unfollowed := true, recurses := true, apart := false }
def AllocGroupsSaid : Prop := allocGroupsRow.holds Try.pinned (OpenSpec.ofChange allocGroupsSpec)

/-- ITS FALSE NEIGHBOUR: 'it returns false'. Refute it at one input. -/
def allocGroupsWrong : ChangeSpec := { name := "allocGroups", fn := fun _ => fun
  | [d1, d2] => { results := [.lit (.bool false)], args := [d1, d2] }
  | _ => none }
def AllocGroupsWrongFalsely : Prop := allocGroupsRow.holds Try.pinned (OpenSpec.ofChange allocGroupsWrong)

/-- 'lockgatelaw11.AllocAll': WHATEVER THE INPUT: true; the input reads as it did. -/
def allocAllSpec : ChangeSpec := { name := "allocAll", fn := fun _ => fun
  | [d1, d2] => { results := [.lit (.bool true)], args := [d1, d2] }
  | _ => none }
def allocAllRow : OpenClaim := { program := "ytppjeikkodjjhaa", sum := "7c2107478b293b763e3afceb511d91ff96b14c1bf0beadb75fe6da080c6b77fb", func := "lockgate/lockgatelaw11.AllocAll", spec := "allocAll", unfollowed := true, recurses := true, apart := false }
def AllocAllSaid : Prop := allocAllRow.holds Try.pinned (OpenSpec.ofChange allocAllSpec)

/-- ITS FALSE NEIGHBOUR: 'it returns false'. Refute it at one input. -/
def allocAllWrong : ChangeSpec := { name := "allocAll", fn := fun _ => fun
  | [d1, d2] => { results := [.lit (.bool false)], args := [d1, d2] }
  | _ => none }
def AllocAllWrongFalsely : Prop := allocAllRow.holds Try.pinned (OpenSpec.ofChange allocAllWrong)

/-- 'lockgatelaw11.AllocBack': WHATEVER THE INPUT: true; the input reads as it did. -/
def allocBackSpec : ChangeSpec := { name := "allocBack", fn := fun _ => fun
  | [d1, d2] => { results := [.lit (.bool true)], args := [d1, d2] }
  | _ => none }
def allocBackRow : OpenClaim := { program := "ytppjeikkodjjhaa", sum := "7c2107478b293b763e3afceb511d91ff96b14c1bf0beadb75fe6da080c6b77fb", func := "lockgate/lockgatelaw11.AllocBack", spec := "allocBack", unfollowed := true, recurses := true, apart := false }
def AllocBackSaid : Prop := allocBackRow.holds Try.pinned (OpenSpec.ofChange allocBackSpec)

/-- ITS FALSE NEIGHBOUR: 'it returns false'. Refute it at one input. -/
def allocBackWrong : ChangeSpec := { name := "allocBack", fn := fun _ => fun
  | [d1, d2] => { results := [.lit (.bool false)], args := [d1, d2] }
  | _ => none }
def AllocBackWrongFalsely : Prop := allocBackRow.holds Try.pinned (OpenSpec.ofChange allocBackWrong)

/-- 'lockgatelaw11.AllocPlays': WHATEVER THE INPUT: true; the input reads as it did. -/
def allocPlaysSpec : ChangeSpec := { name := "allocPlays", fn := fun _ => fun
  | [d1, d2] => { results := [.lit (.bool true)], args := [d1, d2] }
  | _ => none }
def allocPlaysRow : OpenClaim := { program := "ytppjeikkodjjhaa", sum := "7c2107478b293b763e3afceb511d91ff96b14c1bf0beadb75fe6da080c6b77fb", func := "lockgate/lockgatelaw11.AllocPlays", spec := "allocPlays", unfollowed := true, recurses := true, apart := false }
def AllocPlaysSaid : Prop := allocPlaysRow.holds Try.pinned (OpenSpec.ofChange allocPlaysSpec)

/-- ITS FALSE NEIGHBOUR: 'it returns false'. Refute it at one input. -/
def allocPlaysWrong : ChangeSpec := { name := "allocPlays", fn := fun _ => fun
  | [d1, d2] => { results := [.lit (.bool false)], args := [d1, d2] }
  | _ => none }
def AllocPlaysWrongFalsely : Prop := allocPlaysRow.holds Try.pinned (OpenSpec.ofChange allocPlaysWrong)

/- THE SECOND FORM. 'bulk': how many values and letters a reading holds, each counted each time it is reached (what is shared counts as often as it is met; a slice's spare places count too). A statement '..UptoSaid' is the law's where the arguments, and the package variables that the reading takes, are together of bulk at most 1048576: NARROWER than '..Said'. Prove '..Said' where nothing that the law and all that it calls make is longer than what came in: it says more and counts as full. Else prove '..UptoSaid'. A law counts once. -/
mutual
def uptoBulk {H : Type} : DataW H → Nat
  | .lit (.string bytes) => bytes.length + 1
  | .lit _ => 1
  | .nil => 1
  | .ptr d => uptoBulk d + 1
  | .slice elems spare => uptoBulkAll elems + uptoBulkAll spare + 1
  | .agg parts => uptoBulkAll parts + 1
  | .iface _ d => uptoBulk d + 1
  | .map entries => uptoBulkEntries entries + 1
  | .held _ => 1
def uptoBulkAll {H : Type} : List (DataW H) → Nat
  | [] => 0
  | d :: r => uptoBulk d + uptoBulkAll r
def uptoBulkEntries {H : Type} : List (Lit × DataW H) → Nat
  | [] => 0
  | x :: r => uptoBulkEntry x + uptoBulkEntries r
def uptoBulkEntry {H : Type} : Lit × DataW H → Nat
  | (.string bytes, d) => bytes.length + uptoBulk d + 1
  | (_, d) => uptoBulk d + 1
 end
def uptoSmall : (H : Type) → List (DataW H) → Bool := fun _ ds => decide (uptoBulkAll ds ≤ 1048576)
def OpenSpec.upto (s : _root_.Go.ChangeSpec) : _root_.Go.OpenSpec := { _root_.Go.OpenSpec.ofChange s with cond := some uptoSmall }

/-- 'lockgatelaw11.AllocGroups', WHERE WHAT IT READS IS OF BULK AT MOST 1048576: true; the input reads as it did. -/
def allocGroupsUptoRow : OpenClaim := { program := "ytppjeikkodjjhaa", sum := "7c2107478b293b763e3afceb511d91ff96b14c1bf0beadb75fe6da080c6b77fb", func := "lockgate/lockgatelaw11.AllocGroups", spec := "allocGroups", unfollowed := true, recurses := true, apart := false, narrowed := true }
def AllocGroupsUptoSaid : Prop := allocGroupsUptoRow.holds Try.pinned (OpenSpec.upto allocGroupsSpec)

/-- 'lockgatelaw11.AllocAll', WHERE WHAT IT READS IS OF BULK AT MOST 1048576: true; the input reads as it did. -/
def allocAllUptoRow : OpenClaim := { program := "ytppjeikkodjjhaa", sum := "7c2107478b293b763e3afceb511d91ff96b14c1bf0beadb75fe6da080c6b77fb", func := "lockgate/lockgatelaw11.AllocAll", spec := "allocAll", unfollowed := true, recurses := true, apart := false, narrowed := true }
def AllocAllUptoSaid : Prop := allocAllUptoRow.holds Try.pinned (OpenSpec.upto allocAllSpec)

/-- 'lockgatelaw11.AllocBack', WHERE WHAT IT READS IS OF BULK AT MOST 1048576: true; the input reads as it did. -/
def allocBackUptoRow : OpenClaim := { program := "ytppjeikkodjjhaa", sum := "7c2107478b293b763e3afceb511d91ff96b14c1bf0beadb75fe6da080c6b77fb", func := "lockgate/lockgatelaw11.AllocBack", spec := "allocBack", unfollowed := true, recurses := true, apart := false, narrowed := true }
def AllocBackUptoSaid : Prop := allocBackUptoRow.holds Try.pinned (OpenSpec.upto allocBackSpec)

/-- 'lockgatelaw11.AllocPlays', WHERE WHAT IT READS IS OF BULK AT MOST 1048576: true; the input reads as it did. -/
def allocPlaysUptoRow : OpenClaim := { program := "ytppjeikkodjjhaa", sum := "7c2107478b293b763e3afceb511d91ff96b14c1bf0beadb75fe6da080c6b77fb", func := "lockgate/lockgatelaw11.AllocPlays", spec := "allocPlays", unfollowed := true, recurses := true, apart := false, narrowed := true }
def AllocPlaysUptoSaid : Prop := allocPlaysUptoRow.holds Try.pinned (OpenSpec.upto allocPlaysSpec)

end Rows
end Go.Proofs.Ytppjeikkodjjhaa
