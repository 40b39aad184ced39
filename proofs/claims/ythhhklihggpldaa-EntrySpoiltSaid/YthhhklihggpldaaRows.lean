/-
  No cell of these rows narrows 'for every input' (looked for: loops, veiled, ifaces, maps, wideKeys, modest, calm, conditions, laid).
  DERIVED. THE GIVEN ROWS OF THIS SEAT. 5 by the template 'for every input the law returns true; each argument reads behind the call as it read before'; 0 by the template 'total and deterministic' (their statements: YthhhklihggpldaaTotals.lean).
  GIVEN WITH THE SEED: the statements are not yours to turn. If you find one false, say at which input.
  Laid BY PROGRAM, IN A SANDBOX (cutbox-rows.mjs): the forced cells as the released guide's own fill.sh prints them over the translation 311c33e8f382c933… (all of the seat's roots in one cut). By AI agents, Wed Nov 11 2026. No macro, syntax, notation, axiom, sorry.
-/
import Derived.Test.YthhhklihggpldaaChecked
import GoSem.Claim
import GoSem.ClaimJoined
import GoSem.ClaimMapViews
import Derived.JoinedTies
import Derived.KernelRfl
namespace Go.Proofs.Ythhhklihggpldaa
/- THE CELL 'sum', in the pinned program and in every row, IS THE sha256 OF THE DUMP (.gsa) THAT YthhhklihggpldaaProg.lean LOADS. Nothing in Lean hashes anything: it is a label: what it is worth is what the hold of that sum in a sandbox is worth. -/
noncomputable def Try.pinned : Pinned := { name := "ythhhklihggpldaa", sum := "311c33e8f382c933535ccd4a77d72b67dac667552a01dc8fb3035e7b7746fdb1", checked := Try.checked }
namespace Rows
def none {H : Type} : Left H := { results := [], args := [] }

/-- 'lockgatelaw6.EntryNames': WHATEVER THE INPUT: true; the input reads as it did. -/
def entryNamesSpec : ChangeSpec := { name := "entryNames", fn := fun _ => fun
  | [d1, d2, d3] => { results := [.lit (.bool true)], args := [d1, d2, d3] }
  | _ => none }
def entryNamesRow : OpenClaim := { program := "ythhhklihggpldaa", sum := "311c33e8f382c933535ccd4a77d72b67dac667552a01dc8fb3035e7b7746fdb1", func := "lockgate/lockgatelaw6.EntryNames", spec := "entryNames", inPlace := ["internal/bytealg.IndexByteString"], apart := false }
def EntryNamesSaid : Prop := entryNamesRow.holds Try.pinned (OpenSpec.ofChange entryNamesSpec)

/-- ITS FALSE NEIGHBOUR: 'it returns false'. Refute it at one input. -/
def entryNamesWrong : ChangeSpec := { name := "entryNames", fn := fun _ => fun
  | [d1, d2, d3] => { results := [.lit (.bool false)], args := [d1, d2, d3] }
  | _ => none }
def EntryNamesWrongFalsely : Prop := entryNamesRow.holds Try.pinned (OpenSpec.ofChange entryNamesWrong)

/-- 'lockgatelaw6.EntryPacks': WHATEVER THE INPUT: true; the input reads as it did. -/
def entryPacksSpec : ChangeSpec := { name := "entryPacks", fn := fun _ => fun
  | [d] => { results := [.lit (.bool true)], args := [d] }
  | _ => none }
def entryPacksRow : OpenClaim := { program := "ythhhklihggpldaa", sum := "311c33e8f382c933535ccd4a77d72b67dac667552a01dc8fb3035e7b7746fdb1", func := "lockgate/lockgatelaw6.EntryPacks", spec := "entryPacks", inPlace := ["internal/bytealg.IndexByteString"], apart := false }
def EntryPacksSaid : Prop := entryPacksRow.holds Try.pinned (OpenSpec.ofChange entryPacksSpec)

/-- ITS FALSE NEIGHBOUR: 'it returns false'. Refute it at one input. -/
def entryPacksWrong : ChangeSpec := { name := "entryPacks", fn := fun _ => fun
  | [d] => { results := [.lit (.bool false)], args := [d] }
  | _ => none }
def EntryPacksWrongFalsely : Prop := entryPacksRow.holds Try.pinned (OpenSpec.ofChange entryPacksWrong)

/-- 'lockgatelaw6.EntryReads': WHATEVER THE INPUT: true; the input reads as it did. -/
def entryReadsSpec : ChangeSpec := { name := "entryReads", fn := fun _ => fun
  | [d] => { results := [.lit (.bool true)], args := [d] }
  | _ => none }
def entryReadsRow : OpenClaim := { program := "ythhhklihggpldaa", sum := "311c33e8f382c933535ccd4a77d72b67dac667552a01dc8fb3035e7b7746fdb1", func := "lockgate/lockgatelaw6.EntryReads", spec := "entryReads", inPlace := ["internal/bytealg.IndexByteString"], apart := false }
def EntryReadsSaid : Prop := entryReadsRow.holds Try.pinned (OpenSpec.ofChange entryReadsSpec)

/-- ITS FALSE NEIGHBOUR: 'it returns false'. Refute it at one input. -/
def entryReadsWrong : ChangeSpec := { name := "entryReads", fn := fun _ => fun
  | [d] => { results := [.lit (.bool false)], args := [d] }
  | _ => none }
def EntryReadsWrongFalsely : Prop := entryReadsRow.holds Try.pinned (OpenSpec.ofChange entryReadsWrong)

/-- 'lockgatelaw6.EntrySpoilt': WHATEVER THE INPUT: true; the input reads as it did. -/
def entrySpoiltSpec : ChangeSpec := { name := "entrySpoilt", fn := fun _ => fun
  | [d1, d2, d3] => { results := [.lit (.bool true)], args := [d1, d2, d3] }
  | _ => none }
def entrySpoiltRow : OpenClaim := { program := "ythhhklihggpldaa", sum := "311c33e8f382c933535ccd4a77d72b67dac667552a01dc8fb3035e7b7746fdb1", func := "lockgate/lockgatelaw6.EntrySpoilt", spec := "entrySpoilt", inPlace := ["internal/bytealg.IndexByteString"], unfollowed := true, recurses := true, apart := false }
def EntrySpoiltSaid : Prop := entrySpoiltRow.holds Try.pinned (OpenSpec.ofChange entrySpoiltSpec)

/-- ITS FALSE NEIGHBOUR: 'it returns false'. Refute it at one input. -/
def entrySpoiltWrong : ChangeSpec := { name := "entrySpoilt", fn := fun _ => fun
  | [d1, d2, d3] => { results := [.lit (.bool false)], args := [d1, d2, d3] }
  | _ => none }
def EntrySpoiltWrongFalsely : Prop := entrySpoiltRow.holds Try.pinned (OpenSpec.ofChange entrySpoiltWrong)

/-- 'lockgatelaw6.EntryBlocks': WHATEVER THE INPUT: true; the input reads as it did. -/
def entryBlocksSpec : ChangeSpec := { name := "entryBlocks", fn := fun _ => fun
  | [d1, d2] => { results := [.lit (.bool true)], args := [d1, d2] }
  | _ => none }
def entryBlocksRow : OpenClaim := { program := "ythhhklihggpldaa", sum := "311c33e8f382c933535ccd4a77d72b67dac667552a01dc8fb3035e7b7746fdb1", func := "lockgate/lockgatelaw6.EntryBlocks", spec := "entryBlocks", inPlace := ["internal/bytealg.IndexByteString"], unfollowed := true, recurses := true, apart := false }
def EntryBlocksSaid : Prop := entryBlocksRow.holds Try.pinned (OpenSpec.ofChange entryBlocksSpec)

/-- ITS FALSE NEIGHBOUR: 'it returns false'. Refute it at one input. -/
def entryBlocksWrong : ChangeSpec := { name := "entryBlocks", fn := fun _ => fun
  | [d1, d2] => { results := [.lit (.bool false)], args := [d1, d2] }
  | _ => none }
def EntryBlocksWrongFalsely : Prop := entryBlocksRow.holds Try.pinned (OpenSpec.ofChange entryBlocksWrong)

/- THE SECOND FORM. 'bulk': how many values and letters a reading holds, each counted each time it is reached (what is shared counts as often as it is met; a slice's spare places count too). A statement '..UptoSaid' is the law's where the arguments, and the package variables that the reading takes, are together of bulk at most 1048576: NARROWER than '..Said'. Prove '..Said' where nothing that the law and all that it calls make is longer than what came in: it says more and counts as full. Else prove '..UptoSaid'. A law counts once. -/
mutual
def uptoBulk {H : Type} : DataW H → Nat
  | .lit (.string bytes) => bytes.length + 1
  | .lit _ => 1
  | .nil => 1
  | .ptr d => uptoBulk d + 1
  | .slice elems spare => uptoBulkAll elems + uptoBulkAll spare + 1
  | .agg parts => uptoBulkAll parts + 1
  | .iface _ d => uptoBulk d + 1
  | .map entries => uptoBulkEntries entries + 1
  | .held _ => 1
def uptoBulkAll {H : Type} : List (DataW H) → Nat
  | [] => 0
  | d :: r => uptoBulk d + uptoBulkAll r
def uptoBulkEntries {H : Type} : List (Lit × DataW H) → Nat
  | [] => 0
  | x :: r => uptoBulkEntry x + uptoBulkEntries r
def uptoBulkEntry {H : Type} : Lit × DataW H → Nat
  | (.string bytes, d) => bytes.length + uptoBulk d + 1
  | (_, d) => uptoBulk d + 1
 end
def uptoSmall : (H : Type) → List (DataW H) → Bool := fun _ ds => decide (uptoBulkAll ds ≤ 1048576)
def OpenSpec.upto (s : _root_.Go.ChangeSpec) : _root_.Go.OpenSpec := { _root_.Go.OpenSpec.ofChange s with cond := some uptoSmall }

/-- 'lockgatelaw6.EntryNames', WHERE WHAT IT READS IS OF BULK AT MOST 1048576: true; the input reads as it did. -/
def entryNamesUptoRow : OpenClaim := { program := "ythhhklihggpldaa", sum := "311c33e8f382c933535ccd4a77d72b67dac667552a01dc8fb3035e7b7746fdb1", func := "lockgate/lockgatelaw6.EntryNames", spec := "entryNames", inPlace := ["internal/bytealg.IndexByteString"], apart := false, narrowed := true }
def EntryNamesUptoSaid : Prop := entryNamesUptoRow.holds Try.pinned (OpenSpec.upto entryNamesSpec)

/-- 'lockgatelaw6.EntryPacks', WHERE WHAT IT READS IS OF BULK AT MOST 1048576: true; the input reads as it did. -/
def entryPacksUptoRow : OpenClaim := { program := "ythhhklihggpldaa", sum := "311c33e8f382c933535ccd4a77d72b67dac667552a01dc8fb3035e7b7746fdb1", func := "lockgate/lockgatelaw6.EntryPacks", spec := "entryPacks", inPlace := ["internal/bytealg.IndexByteString"], apart := false, narrowed := true }
def EntryPacksUptoSaid : Prop := entryPacksUptoRow.holds Try.pinned (OpenSpec.upto entryPacksSpec)

/-- 'lockgatelaw6.EntryReads', WHERE WHAT IT READS IS OF BULK AT MOST 1048576: true; the input reads as it did. -/
def entryReadsUptoRow : OpenClaim := { program := "ythhhklihggpldaa", sum := "311c33e8f382c933535ccd4a77d72b67dac667552a01dc8fb3035e7b7746fdb1", func := "lockgate/lockgatelaw6.EntryReads", spec := "entryReads", inPlace := ["internal/bytealg.IndexByteString"], apart := false, narrowed := true }
def EntryReadsUptoSaid : Prop := entryReadsUptoRow.holds Try.pinned (OpenSpec.upto entryReadsSpec)

/-- 'lockgatelaw6.EntrySpoilt', WHERE WHAT IT READS IS OF BULK AT MOST 1048576: true; the input reads as it did. -/
def entrySpoiltUptoRow : OpenClaim := { program := "ythhhklihggpldaa", sum := "311c33e8f382c933535ccd4a77d72b67dac667552a01dc8fb3035e7b7746fdb1", func := "lockgate/lockgatelaw6.EntrySpoilt", spec := "entrySpoilt", inPlace := ["internal/bytealg.IndexByteString"], unfollowed := true, recurses := true, apart := false, narrowed := true }
def EntrySpoiltUptoSaid : Prop := entrySpoiltUptoRow.holds Try.pinned (OpenSpec.upto entrySpoiltSpec)

/-- 'lockgatelaw6.EntryBlocks', WHERE WHAT IT READS IS OF BULK AT MOST 1048576: true; the input reads as it did. -/
def entryBlocksUptoRow : OpenClaim := { program := "ythhhklihggpldaa", sum := "311c33e8f382c933535ccd4a77d72b67dac667552a01dc8fb3035e7b7746fdb1", func := "lockgate/lockgatelaw6.EntryBlocks", spec := "entryBlocks", inPlace := ["internal/bytealg.IndexByteString"], unfollowed := true, recurses := true, apart := false, narrowed := true }
def EntryBlocksUptoSaid : Prop := entryBlocksUptoRow.holds Try.pinned (OpenSpec.upto entryBlocksSpec)

end Rows
end Go.Proofs.Ythhhklihggpldaa
