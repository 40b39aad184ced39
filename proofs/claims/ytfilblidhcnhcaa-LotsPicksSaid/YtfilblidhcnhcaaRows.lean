/-
  No cell of these rows narrows 'for every input' (looked for: loops, veiled, ifaces, maps, wideKeys, modest, calm, conditions, laid).
  DERIVED. THE GIVEN ROWS OF THIS SEAT. 4 by the template 'for every input the law returns true; each argument reads behind the call as it read before'; 0 by the template 'total and deterministic' (their statements: YtfilblidhcnhcaaTotals.lean).
  GIVEN WITH THE SEED: the statements are not yours to turn. If you find one false, say at which input.
  Laid BY PROGRAM, IN A SANDBOX (cutbox-rows.mjs): the forced cells as the released guide's own fill.sh prints them over the translation 25af5054faa52ce5… (all of the seat's roots in one cut). By AI agents, Wed Nov 11 2026. No macro, syntax, notation, axiom, sorry.
-/
import Derived.Test.YtfilblidhcnhcaaChecked
import GoSem.Claim
import GoSem.ClaimJoined
import GoSem.ClaimMapViews
import Derived.JoinedTies
import Derived.KernelRfl
namespace Go.Proofs.Ytfilblidhcnhcaa
/- THE CELL 'sum', in the pinned program and in every row, IS THE sha256 OF THE DUMP (.gsa) THAT YtfilblidhcnhcaaProg.lean LOADS. Nothing in Lean hashes anything: it is a label: what it is worth is what the hold of that sum in a sandbox is worth. -/
noncomputable def Try.pinned : Pinned := { name := "ytfilblidhcnhcaa", sum := "25af5054faa52ce57bd0a6d17d588f6f449aea975306ecafd6c2505eb1ed000a", checked := Try.checked }
namespace Rows
def none {H : Type} : Left H := { results := [], args := [] }

/-- 'lockgatelaw31.LotsNext': WHATEVER THE INPUT: true; the input reads as it did. -/
def lotsNextSpec : ChangeSpec := { name := "lotsNext", fn := fun _ => fun
  | [d1, d2] => { results := [.lit (.bool true)], args := [d1, d2] }
  | _ => none }
def lotsNextRow : OpenClaim := { program := "ytfilblidhcnhcaa", sum := "25af5054faa52ce57bd0a6d17d588f6f449aea975306ecafd6c2505eb1ed000a", func := "lockgate/lockgatelaw31.LotsNext", spec := "lotsNext", apart := false }
def LotsNextSaid : Prop := lotsNextRow.holds Try.pinned (OpenSpec.ofChange lotsNextSpec)

/-- ITS FALSE NEIGHBOUR: 'it returns false'. Refute it at one input. -/
def lotsNextWrong : ChangeSpec := { name := "lotsNext", fn := fun _ => fun
  | [d1, d2] => { results := [.lit (.bool false)], args := [d1, d2] }
  | _ => none }
def LotsNextWrongFalsely : Prop := lotsNextRow.holds Try.pinned (OpenSpec.ofChange lotsNextWrong)

/-- 'lockgatelaw31.LotsCalls': WHATEVER THE INPUT: true; the input reads as it did. -/
def lotsCallsSpec : ChangeSpec := { name := "lotsCalls", fn := fun _ => fun
  | [d1, d2] => { results := [.lit (.bool true)], args := [d1, d2] }
  | _ => none }
def lotsCallsRow : OpenClaim := { program := "ytfilblidhcnhcaa", sum := "25af5054faa52ce57bd0a6d17d588f6f449aea975306ecafd6c2505eb1ed000a", func := "lockgate/lockgatelaw31.LotsCalls", spec := "lotsCalls", unfollowed := true, recurses := true, apart := false }
def LotsCallsSaid : Prop := lotsCallsRow.holds Try.pinned (OpenSpec.ofChange lotsCallsSpec)

/-- ITS FALSE NEIGHBOUR: 'it returns false'. Refute it at one input. -/
def lotsCallsWrong : ChangeSpec := { name := "lotsCalls", fn := fun _ => fun
  | [d1, d2] => { results := [.lit (.bool false)], args := [d1, d2] }
  | _ => none }
def LotsCallsWrongFalsely : Prop := lotsCallsRow.holds Try.pinned (OpenSpec.ofChange lotsCallsWrong)

/-- 'lockgatelaw31.LotsMany': WHATEVER THE INPUT: true; the input reads as it did. -/
def lotsManySpec : ChangeSpec := { name := "lotsMany", fn := fun _ => fun
  | [d1, d2, d3] => { results := [.lit (.bool true)], args := [d1, d2, d3] }
  | _ => none }
def lotsManyRow : OpenClaim := { program := "ytfilblidhcnhcaa", sum := "25af5054faa52ce57bd0a6d17d588f6f449aea975306ecafd6c2505eb1ed000a", func := "lockgate/lockgatelaw31.LotsMany", spec := "lotsMany", unfollowed := true, recurses := true, apart := false }
def LotsManySaid : Prop := lotsManyRow.holds Try.pinned (OpenSpec.ofChange lotsManySpec)

/-- ITS FALSE NEIGHBOUR: 'it returns false'. Refute it at one input. -/
def lotsManyWrong : ChangeSpec := { name := "lotsMany", fn := fun _ => fun
  | [d1, d2, d3] => { results := [.lit (.bool false)], args := [d1, d2, d3] }
  | _ => none }
def LotsManyWrongFalsely : Prop := lotsManyRow.holds Try.pinned (OpenSpec.ofChange lotsManyWrong)

/-- 'lockgatelaw31.LotsPicks': WHATEVER THE INPUT: true; the input reads as it did. -/
def lotsPicksSpec : ChangeSpec := { name := "lotsPicks", fn := fun _ => fun
  | [d1, d2, d3] => { results := [.lit (.bool true)], args := [d1, d2, d3] }
  | _ => none }
def lotsPicksRow : OpenClaim := { program := "ytfilblidhcnhcaa", sum := "25af5054faa52ce57bd0a6d17d588f6f449aea975306ecafd6c2505eb1ed000a", func := "lockgate/lockgatelaw31.LotsPicks", spec := "lotsPicks", unfollowed := true, recurses := true, apart := false }
def LotsPicksSaid : Prop := lotsPicksRow.holds Try.pinned (OpenSpec.ofChange lotsPicksSpec)

/-- ITS FALSE NEIGHBOUR: 'it returns false'. Refute it at one input. -/
def lotsPicksWrong : ChangeSpec := { name := "lotsPicks", fn := fun _ => fun
  | [d1, d2, d3] => { results := [.lit (.bool false)], args := [d1, d2, d3] }
  | _ => none }
def LotsPicksWrongFalsely : Prop := lotsPicksRow.holds Try.pinned (OpenSpec.ofChange lotsPicksWrong)

/- THE SECOND FORM. 'bulk': how many values and letters a reading holds, each counted each time it is reached (what is shared counts as often as it is met; a slice's spare places count too). A statement '..UptoSaid' is the law's where the arguments, and the package variables that the reading takes, are together of bulk at most 1048576: NARROWER than '..Said'. Prove '..Said' where nothing that the law and all that it calls make is longer than what came in: it says more and counts as full. Else prove '..UptoSaid'. A law counts once. -/
mutual
def uptoBulk {H : Type} : DataW H → Nat
  | .lit (.string bytes) => bytes.length + 1
  | .lit _ => 1
  | .nil => 1
  | .ptr d => uptoBulk d + 1
  | .slice elems spare => uptoBulkAll elems + uptoBulkAll spare + 1
  | .agg parts => uptoBulkAll parts + 1
  | .iface _ d => uptoBulk d + 1
  | .map entries => uptoBulkEntries entries + 1
  | .held _ => 1
def uptoBulkAll {H : Type} : List (DataW H) → Nat
  | [] => 0
  | d :: r => uptoBulk d + uptoBulkAll r
def uptoBulkEntries {H : Type} : List (Lit × DataW H) → Nat
  | [] => 0
  | x :: r => uptoBulkEntry x + uptoBulkEntries r
def uptoBulkEntry {H : Type} : Lit × DataW H → Nat
  | (.string bytes, d) => bytes.length + uptoBulk d + 1
  | (_, d) => uptoBulk d + 1
 end
def uptoSmall : (H : Type) → List (DataW H) → Bool := fun _ ds => decide (uptoBulkAll ds ≤ 1048576)
def OpenSpec.upto (s : _root_.Go.ChangeSpec) : _root_.Go.OpenSpec := { _root_.Go.OpenSpec.ofChange s with cond := some uptoSmall }

/-- 'lockgatelaw31.LotsNext', WHERE WHAT IT READS IS OF BULK AT MOST 1048576: true; the input reads as it did. -/
def lotsNextUptoRow : OpenClaim := { program := "ytfilblidhcnhcaa", sum := "25af5054faa52ce57bd0a6d17d588f6f449aea975306ecafd6c2505eb1ed000a", func := "lockgate/lockgatelaw31.LotsNext", spec := "lotsNext", apart := false, narrowed := true }
def LotsNextUptoSaid : Prop := lotsNextUptoRow.holds Try.pinned (OpenSpec.upto lotsNextSpec)

/-- 'lockgatelaw31.LotsCalls', WHERE WHAT IT READS IS OF BULK AT MOST 1048576: true; the input reads as it did. -/
def lotsCallsUptoRow : OpenClaim := { program := "ytfilblidhcnhcaa", sum := "25af5054faa52ce57bd0a6d17d588f6f449aea975306ecafd6c2505eb1ed000a", func := "lockgate/lockgatelaw31.LotsCalls", spec := "lotsCalls", unfollowed := true, recurses := true, apart := false, narrowed := true }
def LotsCallsUptoSaid : Prop := lotsCallsUptoRow.holds Try.pinned (OpenSpec.upto lotsCallsSpec)

/-- 'lockgatelaw31.LotsMany', WHERE WHAT IT READS IS OF BULK AT MOST 1048576: true; the input reads as it did. -/
def lotsManyUptoRow : OpenClaim := { program := "ytfilblidhcnhcaa", sum := "25af5054faa52ce57bd0a6d17d588f6f449aea975306ecafd6c2505eb1ed000a", func := "lockgate/lockgatelaw31.LotsMany", spec := "lotsMany", unfollowed := true, recurses := true, apart := false, narrowed := true }
def LotsManyUptoSaid : Prop := lotsManyUptoRow.holds Try.pinned (OpenSpec.upto lotsManySpec)

/-- 'lockgatelaw31.LotsPicks', WHERE WHAT IT READS IS OF BULK AT MOST 1048576: true; the input reads as it did. -/
def lotsPicksUptoRow : OpenClaim := { program := "ytfilblidhcnhcaa", sum := "25af5054faa52ce57bd0a6d17d588f6f449aea975306ecafd6c2505eb1ed000a", func := "lockgate/lockgatelaw31.LotsPicks", spec := "lotsPicks", unfollowed := true, recurses := true, apart := false, narrowed := true }
def LotsPicksUptoSaid : Prop := lotsPicksUptoRow.holds Try.pinned (OpenSpec.upto lotsPicksSpec)

end Rows
end Go.Proofs.Ytfilblidhcnhcaa
