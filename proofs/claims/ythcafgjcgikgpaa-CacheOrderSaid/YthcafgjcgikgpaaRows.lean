/-
  No cell of these rows narrows 'for every input' (looked for: loops, veiled, ifaces, maps, wideKeys, modest, calm, conditions, laid).
  DERIVED. THE GIVEN ROWS OF THIS SEAT. 5 by the template 'for every input the law returns true; each argument reads behind the call as it read before'; 0 by the template 'total and deterministic' (their statements: YthcafgjcgikgpaaTotals.lean).
  GIVEN WITH THE SEED: the statements are not yours to turn. If you find one false, say at which input.
  Laid BY PROGRAM, IN A SANDBOX (cutbox-rows.mjs): the forced cells as the released guide's own fill.sh prints them over the translation b1b2af3ad2b8b76f… (all of the seat's roots in one cut). By AI agents, Wed Nov 11 2026. No macro, syntax, notation, axiom, sorry.
-/
import Derived.Test.YthcafgjcgikgpaaChecked
import GoSem.Claim
import GoSem.ClaimJoined
import GoSem.ClaimMapViews
import Derived.JoinedTies
import Derived.KernelRfl
namespace Go.Proofs.Ythcafgjcgikgpaa
/- THE CELL 'sum', in the pinned program and in every row, IS THE sha256 OF THE DUMP (.gsa) THAT YthcafgjcgikgpaaProg.lean LOADS. Nothing in Lean hashes anything: it is a label: what it is worth is what the hold of that sum in a sandbox is worth. -/
noncomputable def Try.pinned : Pinned := { name := "ythcafgjcgikgpaa", sum := "b1b2af3ad2b8b76f317d0b4e18637871b74ef4f61d16c4036d84f0843754b68a", checked := Try.checked }
namespace Rows
def none {H : Type} : Left H := { results := [], args := [] }

/-- 'lockgatelaw12.CacheOrder': WHATEVER THE INPUT: true; the input reads as it did. -/
def cacheOrderSpec : ChangeSpec := { name := "cacheOrder", fn := fun _ => fun
  | [d1, d2] => { results := [.lit (.bool true)], args := [d1, d2] }
  | _ => none }
def cacheOrderRow : OpenClaim := { program := "ythcafgjcgikgpaa", sum := "b1b2af3ad2b8b76f317d0b4e18637871b74ef4f61d16c4036d84f0843754b68a", func := "lockgate/lockgatelaw12.CacheOrder", spec := "cacheOrder", unfollowed := true, recurses := true, apart := false }
def CacheOrderSaid : Prop := cacheOrderRow.holds Try.pinned (OpenSpec.ofChange cacheOrderSpec)

/-- ITS FALSE NEIGHBOUR: 'it returns false'. Refute it at one input. -/
def cacheOrderWrong : ChangeSpec := { name := "cacheOrder", fn := fun _ => fun
  | [d1, d2] => { results := [.lit (.bool false)], args := [d1, d2] }
  | _ => none }
def CacheOrderWrongFalsely : Prop := cacheOrderRow.holds Try.pinned (OpenSpec.ofChange cacheOrderWrong)

/-- 'lockgatelaw12.CacheReads': WHATEVER THE INPUT: true; the input reads as it did. -/
def cacheReadsSpec : ChangeSpec := { name := "cacheReads", fn := fun _ => fun
  | [d1, d2, d3] => { results := [.lit (.bool true)], args := [d1, d2, d3] }
  | _ => none }
def cacheReadsRow : OpenClaim := { program := "ythcafgjcgikgpaa", sum := "b1b2af3ad2b8b76f317d0b4e18637871b74ef4f61d16c4036d84f0843754b68a", func := "lockgate/lockgatelaw12.CacheReads", spec := "cacheReads", unfollowed := true, recurses := true, apart := false }
def CacheReadsSaid : Prop := cacheReadsRow.holds Try.pinned (OpenSpec.ofChange cacheReadsSpec)

/-- ITS FALSE NEIGHBOUR: 'it returns false'. Refute it at one input. -/
def cacheReadsWrong : ChangeSpec := { name := "cacheReads", fn := fun _ => fun
  | [d1, d2, d3] => { results := [.lit (.bool false)], args := [d1, d2, d3] }
  | _ => none }
def CacheReadsWrongFalsely : Prop := cacheReadsRow.holds Try.pinned (OpenSpec.ofChange cacheReadsWrong)

/-- 'lockgatelaw12.CacheNone': WHATEVER THE INPUT: true; the input reads as it did. -/
def cacheNoneSpec : ChangeSpec := { name := "cacheNone", fn := fun _ => fun
  | [d] => { results := [.lit (.bool true)], args := [d] }
  | _ => none }
def cacheNoneRow : OpenClaim := { program := "ythcafgjcgikgpaa", sum := "b1b2af3ad2b8b76f317d0b4e18637871b74ef4f61d16c4036d84f0843754b68a", func := "lockgate/lockgatelaw12.CacheNone", spec := "cacheNone", unfollowed := true, recurses := true, apart := false }
def CacheNoneSaid : Prop := cacheNoneRow.holds Try.pinned (OpenSpec.ofChange cacheNoneSpec)

/-- ITS FALSE NEIGHBOUR: 'it returns false'. Refute it at one input. -/
def cacheNoneWrong : ChangeSpec := { name := "cacheNone", fn := fun _ => fun
  | [d] => { results := [.lit (.bool false)], args := [d] }
  | _ => none }
def CacheNoneWrongFalsely : Prop := cacheNoneRow.holds Try.pinned (OpenSpec.ofChange cacheNoneWrong)

/-- 'lockgatelaw12.CachePlays': WHATEVER THE INPUT: true; the input reads as it did. -/
def cachePlaysSpec : ChangeSpec := { name := "cachePlays", fn := fun _ => fun
  | [d1, d2] => { results := [.lit (.bool true)], args := [d1, d2] }
  | _ => none }
def cachePlaysRow : OpenClaim := { program := "ythcafgjcgikgpaa", sum := "b1b2af3ad2b8b76f317d0b4e18637871b74ef4f61d16c4036d84f0843754b68a", func := "lockgate/lockgatelaw12.CachePlays", spec := "cachePlays", unfollowed := true, recurses := true, apart := false }
def CachePlaysSaid : Prop := cachePlaysRow.holds Try.pinned (OpenSpec.ofChange cachePlaysSpec)

/-- ITS FALSE NEIGHBOUR: 'it returns false'. Refute it at one input. -/
def cachePlaysWrong : ChangeSpec := { name := "cachePlays", fn := fun _ => fun
  | [d1, d2] => { results := [.lit (.bool false)], args := [d1, d2] }
  | _ => none }
def CachePlaysWrongFalsely : Prop := cachePlaysRow.holds Try.pinned (OpenSpec.ofChange cachePlaysWrong)

/-- 'lockgatelaw12.CacheDirty': WHATEVER THE INPUT: true; the input reads as it did. -/
def cacheDirtySpec : ChangeSpec := { name := "cacheDirty", fn := fun _ => fun
  | [d1, d2, d3] => { results := [.lit (.bool true)], args := [d1, d2, d3] }
  | _ => none }
def cacheDirtyRow : OpenClaim := { program := "ythcafgjcgikgpaa", sum := "b1b2af3ad2b8b76f317d0b4e18637871b74ef4f61d16c4036d84f0843754b68a", func := "lockgate/lockgatelaw12.CacheDirty", spec := "cacheDirty", unfollowed := true, recurses := true, apart := false }
def CacheDirtySaid : Prop := cacheDirtyRow.holds Try.pinned (OpenSpec.ofChange cacheDirtySpec)

/-- ITS FALSE NEIGHBOUR: 'it returns false'. Refute it at one input. -/
def cacheDirtyWrong : ChangeSpec := { name := "cacheDirty", fn := fun _ => fun
  | [d1, d2, d3] => { results := [.lit (.bool false)], args := [d1, d2, d3] }
  | _ => none }
def CacheDirtyWrongFalsely : Prop := cacheDirtyRow.holds Try.pinned (OpenSpec.ofChange cacheDirtyWrong)

/- THE SECOND FORM. 'bulk': how many values and letters a reading holds, each counted each time it is reached (what is shared counts as often as it is met; a slice's spare places count too). A statement '..UptoSaid' is the law's where the arguments, and the package variables that the reading takes, are together of bulk at most 1048576: NARROWER than '..Said'. Prove '..Said' where nothing that the law and all that it calls make is longer than what came in: it says more and counts as full. Else prove '..UptoSaid'. A law counts once. -/
mutual
def uptoBulk {H : Type} : DataW H → Nat
  | .lit (.string bytes) => bytes.length + 1
  | .lit _ => 1
  | .nil => 1
  | .ptr d => uptoBulk d + 1
  | .slice elems spare => uptoBulkAll elems + uptoBulkAll spare + 1
  | .agg parts => uptoBulkAll parts + 1
  | .iface _ d => uptoBulk d + 1
  | .map entries => uptoBulkEntries entries + 1
  | .held _ => 1
def uptoBulkAll {H : Type} : List (DataW H) → Nat
  | [] => 0
  | d :: r => uptoBulk d + uptoBulkAll r
def uptoBulkEntries {H : Type} : List (Lit × DataW H) → Nat
  | [] => 0
  | x :: r => uptoBulkEntry x + uptoBulkEntries r
def uptoBulkEntry {H : Type} : Lit × DataW H → Nat
  | (.string bytes, d) => bytes.length + uptoBulk d + 1
  | (_, d) => uptoBulk d + 1
 end
def uptoSmall : (H : Type) → List (DataW H) → Bool := fun _ ds => decide (uptoBulkAll ds ≤ 1048576)
def OpenSpec.upto (s : _root_.Go.ChangeSpec) : _root_.Go.OpenSpec := { _root_.Go.OpenSpec.ofChange s with cond := some uptoSmall }

/-- 'lockgatelaw12.CacheOrder', WHERE WHAT IT READS IS OF BULK AT MOST 1048576: true; the input reads as it did. -/
def cacheOrderUptoRow : OpenClaim := { program := "ythcafgjcgikgpaa", sum := "b1b2af3ad2b8b76f317d0b4e18637871b74ef4f61d16c4036d84f0843754b68a", func := "lockgate/lockgatelaw12.CacheOrder", spec := "cacheOrder", unfollowed := true, recurses := true, apart := false, narrowed := true }
def CacheOrderUptoSaid : Prop := cacheOrderUptoRow.holds Try.pinned (OpenSpec.upto cacheOrderSpec)

/-- 'lockgatelaw12.CacheReads', WHERE WHAT IT READS IS OF BULK AT MOST 1048576: true; the input reads as it did. -/
def cacheReadsUptoRow : OpenClaim := { program := "ythcafgjcgikgpaa", sum := "b1b2af3ad2b8b76f317d0b4e18637871b74ef4f61d16c4036d84f0843754b68a", func := "lockgate/lockgatelaw12.CacheReads", spec := "cacheReads", unfollowed := true, recurses := true, apart := false, narrowed := true }
def CacheReadsUptoSaid : Prop := cacheReadsUptoRow.holds Try.pinned (OpenSpec.upto cacheReadsSpec)

/-- 'lockgatelaw12.CacheNone', WHERE WHAT IT READS IS OF BULK AT MOST 1048576: true; the input reads as it did. -/
def cacheNoneUptoRow : OpenClaim := { program := "ythcafgjcgikgpaa", sum := "b1b2af3ad2b8b76f317d0b4e18637871b74ef4f61d16c4036d84f0843754b68a", func := "lockgate/lockgatelaw12.CacheNone", spec := "cacheNone", unfollowed := true, recurses := true, apart := false, narrowed := true }
def CacheNoneUptoSaid : Prop := cacheNoneUptoRow.holds Try.pinned (OpenSpec.upto cacheNoneSpec)

/-- 'lockgatelaw12.CachePlays', WHERE WHAT IT READS IS OF BULK AT MOST 1048576: true; the input reads as it did. -/
def cachePlaysUptoRow : OpenClaim := { program := "ythcafgjcgikgpaa", sum := "b1b2af3ad2b8b76f317d0b4e18637871b74ef4f61d16c4036d84f0843754b68a", func := "lockgate/lockgatelaw12.CachePlays", spec := "cachePlays", unfollowed := true, recurses := true, apart := false, narrowed := true }
def CachePlaysUptoSaid : Prop := cachePlaysUptoRow.holds Try.pinned (OpenSpec.upto cachePlaysSpec)

/-- 'lockgatelaw12.CacheDirty', WHERE WHAT IT READS IS OF BULK AT MOST 1048576: true; the input reads as it did. -/
def cacheDirtyUptoRow : OpenClaim := { program := "ythcafgjcgikgpaa", sum := "b1b2af3ad2b8b76f317d0b4e18637871b74ef4f61d16c4036d84f0843754b68a", func := "lockgate/lockgatelaw12.CacheDirty", spec := "cacheDirty", unfollowed := true, recurses := true, apart := false, narrowed := true }
def CacheDirtyUptoSaid : Prop := cacheDirtyUptoRow.holds Try.pinned (OpenSpec.upto cacheDirtySpec)

end Rows
end Go.Proofs.Ythcafgjcgikgpaa
