/- Small general laws that the hand-proved contracts use: a row of bytes in a block of the call's own; copy out of a string. -/
import Derived.Test.YthcafgjcgikgpaaWWords
import Derived.WalkSpells
import Derived.WalkLawsBesides
import Derived.OpenShut
import Derived.Laws.CopyOwn
import Derived.Lib.AppendStr
import Derived.Deep.RegionHeld3
import Derived.Deep.RegionLaw
namespace Go.Proofs.YthcafgjcgikgpaaBase
open Go.RowKit Go.Proofs.YthcafgjcgikgpaaW.PrintWords
set_option linter.unusedVariables false
set_option linter.unusedSimpArgs false

theorem ret_bool {a b : Bool} (h : a = b) : Ending.returned (.bool a) = .returned (.bool b) := by rw [h]
theorem ret_int {k : IntKind} {a b : Int} (h : a = b) : Ending.returned (.int k a) = .returned (.int k b) := by rw [h]

/-- a block that holds just these numbers, as a row of the call's own -/
theorem R_of_block {k : IntKind} {w : World} {B e base : Nat} {ok : Nat → Prop} {xs : List Int} (h : w.heap[B]? = some (.cells (nums k xs).toArray e (0, 0))) (hb : base ≤ B) (hok : ok B) (hl : xs.length ≤ maxLen) :
    Kd.R (Kd.int k) e w base ok (.slice (some ⟨B, 0, none⟩) xs.length xs.length) xs := by
  refine Kd.R_of_own ⟨by simp [encs], .inr ⟨B, xs.length, _, rfl, hb, h, Nat.le_refl _, hl, by simp [nums], by simp [nums, encs, List.take_of_length_le]⟩⟩ ?_
  intro k hk
  simp only [Value.ownBlock, Option.some.injEq] at hk
  exact hk ▸ hok

theorem run_copy_string {P : Program} (w : World) (dT sT ty elem : TypeId) (g o dLen dCap : Nat) (x : ByteArray) (cur : Array Value) (t : TypeId)
    (hu : P.underlying dT = some (.slice elem)) (hs : (P.info? elem).map (·.size) = some 1)
    (hg : w.heap[g]? = some (.cells cur t (0, 0))) (hn : x.size ≤ dLen) (hfit : o + x.size ≤ cur.size) :
    (Builtin.copy_ #[dT, sT] ty #[.slice (some ⟨g, o, none⟩) dLen dCap, .string x]).run P w =
      .ok (goInt x.size) (w.setRow g (cur.toList.take o ++ Lib.strCells x ++ cur.toList.drop (o + x.size)).toArray) := by
  have hst := run_storeCells_at P g o t (Lib.strCells x) 0 cur w hg (by simpa [Lib.strCells_length] using hfit) (Lib.strCells_oneCell x)
  rw [Lib.strCells_length] at hst
  cases hq : P.info? elem with
  | none => simp [hq] at hs
  | some i =>
    have hi : i.size = 1 := by simpa [hq] using hs
    have hfc := Lib.run_firstCells_string (P := P) (w := w) 1 x
    have hm : Nat.min x.size dLen = x.size := Nat.min_eq_left hn
    simp [Builtin.copy_, run_underlying hu, Builtin.lenOf, sizeOf, typeInfo, hq, hi, hm, hfc, hst]

theorem step_copy_string {P : Program} {ops : Array Oper} {o : Oper} {a : Act} {w : World} {K : Act → World → Prop} {Q : Exit → Act → World → Prop} {E : Prop} (hgd : o.guard = none) (d s : Operand) (dT sT : TypeId)
    (ho : o.op = .call { callee := .builtin .copy, args := #[d, s], argTypes := #[dT, sT] }) (elem : TypeId) (hu : P.underlying dT = some (.slice elem)) (hsz : (P.info? elem).map (·.size) = some 1)
    (g off dLen dCap : Nat) (x : ByteArray) (hd : a.eval d = .slice (some ⟨g, off, none⟩) dLen dCap) (hs : a.eval s = .string x)
    (cur : Array Value) (t : TypeId) (hg : w.heap[g]? = some (.cells cur t (0, 0))) (hn : x.size ≤ dLen) (hfit : off + x.size ≤ cur.size)
    (h : K (a.put o.dst (goInt x.size)) (w.setRow g (cur.toList.take off ++ Lib.strCells x ++ cur.toList.drop (off + x.size)).toArray)) :
    if Region.wanted o (yielded ops a.tmps) = true then Oper.wp P o a w K Q else E := by
  have hw : Region.wanted o (yielded ops a.tmps) = true := by simp [Region.wanted, hgd]
  rw [if_pos hw]
  have hrun := run_copy_string (P := P) w dT sT o.type elem g off dLen dCap x cur t hu hsz hg hn hfit
  unfold Oper.wp
  simp only [List.append_assoc] at hrun h
  simp [execOp, ho, resolve, invoke, builtin, hd, hs, hrun, Result.andThen]
  exact h

/-- the world behind a piece of code is told by what is known of it -/
theorem gen_world {P : Program} {Q : Exit → Act → World → Prop} {c : Code} {a : Act} {w : World} (F : World → Prop) (hF : F w) (h : ∀ W, F W → c.wp P Q a W) : c.wp P Q a w := h w hF
theorem gen_post {P : Program} {fn : Func} {R : Ending → World → Prop} {e : Exit} {a : Act} {w : World} (F : World → Prop) (hF : F w) (h : ∀ W, F W → bodyPost P fn R e a W) : bodyPost P fn R e a w := h w hF

end Go.Proofs.YthcafgjcgikgpaaBase
