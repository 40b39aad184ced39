/-
  No cell of these rows narrows 'for every input' (looked for: loops, veiled, ifaces, maps, wideKeys, modest, calm, conditions, laid).
  DERIVED. THE GIVEN ROWS OF THIS SEAT. 3 by the template 'for every input the law returns true; each argument reads behind the call as it read before'; 0 by the template 'total and deterministic' (their statements: YtnnnakgdmhmpmaaTotals.lean).
  GIVEN WITH THE SEED: the statements are not yours to turn. If you find one false, say at which input.
  Laid BY PROGRAM, IN A SANDBOX (cutbox-rows.mjs): the forced cells as the released guide's own fill.sh prints them over the translation 62d76aef39e9f874… (all of the seat's roots in one cut). By AI agents, Wed Nov 11 2026. No macro, syntax, notation, axiom, sorry.
-/
import Derived.Test.YtnnnakgdmhmpmaaChecked
import GoSem.Claim
import GoSem.ClaimJoined
import GoSem.ClaimMapViews
import Derived.JoinedTies
import Derived.KernelRfl
namespace Go.Proofs.Ytnnnakgdmhmpmaa
/- THE CELL 'sum', in the pinned program and in every row, IS THE sha256 OF THE DUMP (.gsa) THAT YtnnnakgdmhmpmaaProg.lean LOADS. Nothing in Lean hashes anything: it is a label: what it is worth is what the hold of that sum in a sandbox is worth. -/
noncomputable def Try.pinned : Pinned := { name := "ytnnnakgdmhmpmaa", sum := "62d76aef39e9f87490f08bb1029f5712461df78fd4ef63f87ba45b3f8d56dc3d", checked := Try.checked }
namespace Rows
def none {H : Type} : Left H := { results := [], args := [] }

/-- 'lockgatelaw25.CrashNames': WHATEVER THE INPUT: true; the input reads as it did. -/
def crashNamesSpec : ChangeSpec := { name := "crashNames", fn := fun _ => fun
  | [d1, d2, d3] => { results := [.lit (.bool true)], args := [d1, d2, d3] }
  | _ => none }
def crashNamesRow : OpenClaim := { program := "ytnnnakgdmhmpmaa", sum := "62d76aef39e9f87490f08bb1029f5712461df78fd4ef63f87ba45b3f8d56dc3d", func := "lockgate/lockgatelaw25.CrashNames", spec := "crashNames", plainKeys := false, apart := false }
def CrashNamesSaid : Prop := crashNamesRow.holds Try.pinned (OpenSpec.ofChange crashNamesSpec)

/-- ITS FALSE NEIGHBOUR: 'it returns false'. Refute it at one input. -/
def crashNamesWrong : ChangeSpec := { name := "crashNames", fn := fun _ => fun
  | [d1, d2, d3] => { results := [.lit (.bool false)], args := [d1, d2, d3] }
  | _ => none }
def CrashNamesWrongFalsely : Prop := crashNamesRow.holds Try.pinned (OpenSpec.ofChange crashNamesWrong)

/-- 'lockgatelaw25.CrashParts': WHATEVER THE INPUT: true; the input reads as it did. -/
def crashPartsSpec : ChangeSpec := { name := "crashParts", fn := fun _ => fun
  | [d1, d2, d3] => { results := [.lit (.bool true)], args := [d1, d2, d3] }
  | _ => none }
def crashPartsRow : OpenClaim := { program := "ytnnnakgdmhmpmaa", sum := "62d76aef39e9f87490f08bb1029f5712461df78fd4ef63f87ba45b3f8d56dc3d", func := "lockgate/lockgatelaw25.CrashParts", spec := "crashParts", plainKeys := false, apart := false }
def CrashPartsSaid : Prop := crashPartsRow.holds Try.pinned (OpenSpec.ofChange crashPartsSpec)

/-- ITS FALSE NEIGHBOUR: 'it returns false'. Refute it at one input. -/
def crashPartsWrong : ChangeSpec := { name := "crashParts", fn := fun _ => fun
  | [d1, d2, d3] => { results := [.lit (.bool false)], args := [d1, d2, d3] }
  | _ => none }
def CrashPartsWrongFalsely : Prop := crashPartsRow.holds Try.pinned (OpenSpec.ofChange crashPartsWrong)

/-- 'lockgatelaw25.CrashGone': WHATEVER THE INPUT: true; the input reads as it did. -/
def crashGoneSpec : ChangeSpec := { name := "crashGone", fn := fun _ => fun
  | [d1, d2, d3] => { results := [.lit (.bool true)], args := [d1, d2, d3] }
  | _ => none }
def crashGoneRow : OpenClaim := { program := "ytnnnakgdmhmpmaa", sum := "62d76aef39e9f87490f08bb1029f5712461df78fd4ef63f87ba45b3f8d56dc3d", func := "lockgate/lockgatelaw25.CrashGone", spec := "crashGone", plainKeys := false, apart := false }
def CrashGoneSaid : Prop := crashGoneRow.holds Try.pinned (OpenSpec.ofChange crashGoneSpec)

/-- ITS FALSE NEIGHBOUR: 'it returns false'. Refute it at one input. -/
def crashGoneWrong : ChangeSpec := { name := "crashGone", fn := fun _ => fun
  | [d1, d2, d3] => { results := [.lit (.bool false)], args := [d1, d2, d3] }
  | _ => none }
def CrashGoneWrongFalsely : Prop := crashGoneRow.holds Try.pinned (OpenSpec.ofChange crashGoneWrong)

/- THE SECOND FORM. 'bulk': how many values and letters a reading holds, each counted each time it is reached (what is shared counts as often as it is met; a slice's spare places count too). A statement '..UptoSaid' is the law's where the arguments, and the package variables that the reading takes, are together of bulk at most 1048576: NARROWER than '..Said'. Prove '..Said' where nothing that the law and all that it calls make is longer than what came in: it says more and counts as full. Else prove '..UptoSaid'. A law counts once. -/
mutual
def uptoBulk {H : Type} : DataW H → Nat
  | .lit (.string bytes) => bytes.length + 1
  | .lit _ => 1
  | .nil => 1
  | .ptr d => uptoBulk d + 1
  | .slice elems spare => uptoBulkAll elems + uptoBulkAll spare + 1
  | .agg parts => uptoBulkAll parts + 1
  | .iface _ d => uptoBulk d + 1
  | .map entries => uptoBulkEntries entries + 1
  | .held _ => 1
def uptoBulkAll {H : Type} : List (DataW H) → Nat
  | [] => 0
  | d :: r => uptoBulk d + uptoBulkAll r
def uptoBulkEntries {H : Type} : List (Lit × DataW H) → Nat
  | [] => 0
  | x :: r => uptoBulkEntry x + uptoBulkEntries r
def uptoBulkEntry {H : Type} : Lit × DataW H → Nat
  | (.string bytes, d) => bytes.length + uptoBulk d + 1
  | (_, d) => uptoBulk d + 1
 end
def uptoSmall : (H : Type) → List (DataW H) → Bool := fun _ ds => decide (uptoBulkAll ds ≤ 1048576)
def OpenSpec.upto (s : _root_.Go.ChangeSpec) : _root_.Go.OpenSpec := { _root_.Go.OpenSpec.ofChange s with cond := some uptoSmall }

/-- 'lockgatelaw25.CrashNames', WHERE WHAT IT READS IS OF BULK AT MOST 1048576: true; the input reads as it did. -/
def crashNamesUptoRow : OpenClaim := { program := "ytnnnakgdmhmpmaa", sum := "62d76aef39e9f87490f08bb1029f5712461df78fd4ef63f87ba45b3f8d56dc3d", func := "lockgate/lockgatelaw25.CrashNames", spec := "crashNames", plainKeys := false, apart := false, narrowed := true }
def CrashNamesUptoSaid : Prop := crashNamesUptoRow.holds Try.pinned (OpenSpec.upto crashNamesSpec)

/-- 'lockgatelaw25.CrashParts', WHERE WHAT IT READS IS OF BULK AT MOST 1048576: true; the input reads as it did. -/
def crashPartsUptoRow : OpenClaim := { program := "ytnnnakgdmhmpmaa", sum := "62d76aef39e9f87490f08bb1029f5712461df78fd4ef63f87ba45b3f8d56dc3d", func := "lockgate/lockgatelaw25.CrashParts", spec := "crashParts", plainKeys := false, apart := false, narrowed := true }
def CrashPartsUptoSaid : Prop := crashPartsUptoRow.holds Try.pinned (OpenSpec.upto crashPartsSpec)

/-- 'lockgatelaw25.CrashGone', WHERE WHAT IT READS IS OF BULK AT MOST 1048576: true; the input reads as it did. -/
def crashGoneUptoRow : OpenClaim := { program := "ytnnnakgdmhmpmaa", sum := "62d76aef39e9f87490f08bb1029f5712461df78fd4ef63f87ba45b3f8d56dc3d", func := "lockgate/lockgatelaw25.CrashGone", spec := "crashGone", plainKeys := false, apart := false, narrowed := true }
def CrashGoneUptoSaid : Prop := crashGoneUptoRow.holds Try.pinned (OpenSpec.upto crashGoneSpec)

end Rows
end Go.Proofs.Ytnnnakgdmhmpmaa
