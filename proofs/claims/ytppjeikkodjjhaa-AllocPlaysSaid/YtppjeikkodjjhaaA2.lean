/- The allocator in memory; (*Alloc).perGroup, (*Alloc).round. -/
import Derived.Test.YtppjeikkodjjhaaA1
import Derived.Test.YtppjeikkodjjhaaOff
import Derived.Test.YtppjeikkodjjhaaRangeW
import Derived.Test.YtppjeikkodjjhaaWideRegion
import Derived.Lib.Hide
import Derived.Shelf.Abstract
import Derived.Shelf.RegionOpen
import Derived.TacticsInMore
import Derived.LoopNIn
import Derived.LoopIn
import Derived.BigRegionIn
import Derived.Stop.RegionWithIn
import Derived.Outline
namespace Go.Proofs.Ytppjeikkodjjhaa.Given
open Go.RowKit Go.Shelf Go.Proofs.YtppjeikkodjjhaaW.PrintWords Go.Proofs.YtppjeikkodjjhaaW.PrintLast Go.Proofs.YtppjeikkodjjhaaW.PrintMore Go.Proofs.YtppjeikkodjjhaaBase Go.Proofs.Ytppjeikkodjjhaa.PGeo Go.Proofs.Ytppjeikkodjjhaa.PGet Go.Proofs.Ytppjeikkodjjhaa.PWith
set_option linter.unusedVariables false
set_option linter.unusedSimpArgs false
attribute [local go_sem] Oper.semAt_some

/-- the allocator's block: its geometry, its groups -/
def IsAB (W : World) (g : Nat) (gr i d : Int) (v : Value) : Prop := W.heap[g]? = some (.cells #[.int .i64 gr, .int .i64 i, .int .i64 d, v] 50 (0, 0))
section
variable {W W1 : World} {g : Nat} {gr i d : Int} {v : Value} {base : Nat} {ok ok' : Nat → Prop} {gs : List S54}
theorem IsAB.c0 (h : IsAB W g gr i d v) : W.cell? ⟨g, 0, none⟩ = some (.int .i64 gr) := (blk_cell h 0).trans rfl
theorem IsAB.c1 (h : IsAB W g gr i d v) : W.cell? ⟨g, 1, none⟩ = some (.int .i64 i) := (blk_cell h 1).trans rfl
theorem IsAB.c2 (h : IsAB W g gr i d v) : W.cell? ⟨g, 2, none⟩ = some (.int .i64 d) := (blk_cell h 2).trans rfl
theorem IsAB.c3 (h : IsAB W g gr i d v) : W.cell? ⟨g, 3, none⟩ = some v := (blk_cell h 3).trans rfl
theorem IsAB.lt (h : IsAB W g gr i d v) : g < W.heap.size := blk_lt h
theorem IsAB.grown {row : Option Nat} (h : IsAB W g gr i d v) (hw : W.grownBy W1 row) (hne : some g ≠ row) : IsAB W1 g gr i d v := blk_grown h hw hne
theorem IsAB.below (h : IsAB W g gr i d v) (hw : Below W.heap.size W W1) : IsAB W1 g gr i d v := h.grown (grown_of_below hw none) (by simp)
theorem IsAB.set3 (h : IsAB W g gr i d v) (u : Value) : IsAB (W.setCell ⟨g, 3, none⟩ u) g gr i d u := by
  unfold IsAB at h ⊢
  simpa using blk_set h 3 u
/-- the allocator at block g: its geometry, its groups' rows; all its blocks are of ok -/
def IsA (base : Nat) (ok : Nat → Prop) (W : World) (g : Nat) (gr i d : Int) (gs : List S54) : Prop :=
  ∃ v, IsAB W g gr i d v ∧ (base ≤ g ∧ ok g) ∧ Kd.R k54 54 W base ok v gs
theorem IsA.mono (h : IsA base ok W g gr i d gs) (hok : ∀ k, ok k → ok' k) : IsA base ok' W g gr i d gs := by
  obtain ⟨v, h1, h2, h3⟩ := h
  exact ⟨v, h1, ⟨h2.1, hok _ h2.2⟩, Kd.R_mono h3 hok⟩
theorem IsA.move (h : IsA base ok W g gr i d gs) (hm : ∀ k, ok k → W1.heap[k]? = W.heap[k]?) : IsA base ok W1 g gr i d gs := by
  obtain ⟨v, h1, h2, h3⟩ := h
  exact ⟨v, (hm g h2.2).trans h1, h2, Kd.R_move h3 hm⟩
theorem IsA.bound (h : IsA base ok W g gr i d gs) : IsA base (fun k => ok k ∧ base ≤ k ∧ k < W.heap.size) W g gr i d gs := by
  obtain ⟨v, h1, h2, h3⟩ := h
  exact ⟨v, h1, ⟨h2.1, h2.2, h2.1, h1.lt⟩, Kd.R_mono (Kd.R_bound h3) (fun k hk => ⟨hk.1, hk.2.1, hk.2.2.1⟩)⟩
theorem IsA.below (h : IsA base ok W g gr i d gs) (hw : Below W.heap.size W W1) : IsA base ok W1 g gr i d gs := by
  obtain ⟨v, h1, h2, h3⟩ := h
  exact ⟨v, h1.below hw, h2, Kd.R_below h3 hw⟩
theorem IsA.alloc (h : IsA base ok W g gr i d gs) (o : Obj) : IsA base ok (W.alloc o) g gr i d gs := h.below (below_alloc (Below.refl _ _) o)
theorem IsA.drewN (h : IsA base ok W g gr i d gs) (m : Nat) : IsA base ok (W.drewN m) g gr i d gs := h.below (pw_below_drewN (Below.refl _ _) m)
theorem IsA.lower {base' : Nat} (h : IsA base ok W g gr i d gs) (hb : base' ≤ base) : IsA base' ok W g gr i d gs := by
  obtain ⟨v, h1, h2, h3⟩ := h
  exact ⟨v, h1, ⟨by omega, h2.2⟩, Kd.R_lower h3 hb⟩
theorem IsA.off {okn : Nat → Prop} (h : IsA base ok W g gr i d gs) (hb : ∀ k, ok k → k < W.heap.size) (ho : Off okn W W1) (hn : ∀ k, ok k → ¬ okn k) : IsA base ok W1 g gr i d gs := h.move (fun k hk => ho.block k (hb k hk) (hn k hk))
theorem IsA.noncells (h : IsA base ok W g gr i d gs) {row : Option Nat} (hg : W.grownBy W1 row) (hr : ∀ r, row = some r → ∃ o : Obj, W.heap[r]? = some o ∧ o.isCells = false) : IsA base ok W1 g gr i d gs := by
  obtain ⟨v, h1, h2, h3⟩ := h
  refine ⟨v, h1.grown hg (fun e => ?_), h2, R_noncells h3 hg hr⟩
  obtain ⟨o, ho, hc⟩ := hr g e.symm
  rw [show W.heap[g]? = _ from h1] at ho
  cases ho
  cases hc
end

set_option maxRecDepth 100000 in
theorem perGroup_calls (g : Nat) (gr i d : Int) (v : Value) (w : World) (p : Nat) (h : IsAB w g gr i d v) (h0 : 0 ≤ i) (h4 : i ≤ 4) (hp : i * 16 = (p : Int)) :
    Calls Try.prog 29 #[.pointer (some ⟨g, 0, none⟩)] w fun e w' => e = .returned (.int .i64 (p : Int)) ∧ w = w' := by
  have b1 := h.c1
  rw [← hp]
  clear hp
  go_enter Try.func29, Try.ntmps29
  go_wp2
  go_ret
  exact ⟨rfl, rfl⟩

theorem round_in (g : Nat) (from0 : Int) (w : World) :
    Calls Try.prog 27 #[.pointer (some ⟨g, 0, none⟩), .int .i64 from0] w fun e w' => e = .returned (.func (.func 40) #[] #[.pointer (some ⟨w.heap.size + 1, 0, none⟩), .pointer (some ⟨w.heap.size, 0, none⟩)]) ∧ (w.alloc (.cells #[.pointer (some ⟨g, 0, none⟩)] 25)).alloc (.cells #[.int .i64 from0] 3) = w' := by
  go_enter Try.func27, Try.ntmps27
  go_wp2
  go_ret
  exact ⟨rfl, rfl⟩

/-! ### what round goes over -/
abbrev encG {n : Nat} (x : Fin n) : Array Value := #[.int .i64 (x.val : Int)]
/-- the groups, from one on, round -/
def roundL (n : Nat) (from0 : Int) (m : Nat) : List Nat := (List.range m).map (fun q => (fromOf n from0 + q) % n)
theorem roundL_length (n : Nat) (from0 : Int) (m : Nat) : (roundL n from0 m).length = m := by simp [roundL]
theorem roundL_snoc (n : Nat) (from0 : Int) (m : Nat) : roundL n from0 (m + 1) = roundL n from0 m ++ [(fromOf n from0 + m) % n] := by simp [roundL, List.range_succ]
def WrF (Bf : Nat) (A B : World) : Prop := ∃ s : Int, B = A.setCell ⟨Bf, 0, none⟩ (.int .i64 s)

structure RoundG (Bf Ba g n c : Nat) (A : Option Addr) (G : World → Prop) (Kp : World → World → Prop) : Prop where
  a : ∀ W, G W → W.cell? ⟨Ba, 0, none⟩ = some (.pointer (some ⟨g, 0, none⟩))
  h : ∀ W, G W → W.cell? ⟨g, 3, none⟩ = some (.slice A n c)
  set : ∀ W v, G W → G (W.setCell ⟨Bf, 0, none⟩ v)
  d : ∀ W k, G W → G (W.drewN k)
  keep : ∀ A B, G A → Kp A B → G B
  frm : ∀ A B, Kp A B → B.heap[Bf]? = A.heap[Bf]?
end Go.Proofs.Ytppjeikkodjjhaa.Given
