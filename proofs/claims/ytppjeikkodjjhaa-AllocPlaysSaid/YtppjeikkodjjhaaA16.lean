/- The reference's allocator: rows of bools; next; NewAlloc. -/
import Derived.Test.YtppjeikkodjjhaaG1b
import Derived.Test.YtppjeikkodjjhaaA7
import Derived.Test.YtppjeikkodjjhaaA12
import Derived.Test.YtppjeikkodjjhaaA13
import Derived.Test.YtppjeikkodjjhaaPGeox3
import Derived.Test.YtppjeikkodjjhaaPGeox4
import Derived.Test.YtppjeikkodjjhaaPGeox5
namespace Go.Proofs.Ytppjeikkodjjhaa.Given
open Go.RowKit Go.Shelf Go.Proofs.YtppjeikkodjjhaaW.PrintWords Go.Proofs.YtppjeikkodjjhaaW.PrintLast Go.Proofs.YtppjeikkodjjhaaW.PrintMore Go.Proofs.YtppjeikkodjjhaaBase Go.Proofs.Ytppjeikkodjjhaa.PGeo Go.Proofs.Ytppjeikkodjjhaa.PGet Go.Proofs.Ytppjeikkodjjhaa.PWith
set_option linter.unusedVariables false
set_option linter.unusedSimpArgs false

theorem rdOf_is (gr i d block : Int) : lockgateref1_DataOf.f 1 gr i d block = some (dOf gr i d block) := by
  obtain ⟨r, h1, h2⟩ := dataOf_same gr i d block 0
  rw [dOf_is] at h1
  rw [h2, ← h1]
theorem rinodes_is {gr i d : Int} {n p : Nat} (h : Fine gr i d) (hn : gr = (n : Int)) (hp : i * 16 = (p : Int)) : lockgateref1_Inodes.f gr i d = some ((n * p : Nat) : Int) := by
  obtain ⟨r, h1, h2⟩ := inodes_same gr i d
  rw [inodes_fine h hn hp] at h1
  rw [h2, ← h1]
theorem rblocks_is {gr i d : Int} {n q : Nat} (h : Fine gr i d) (hn : gr = (n : Int)) (hq : d = (q : Int)) : lockgateref1_Blocks.f gr i d = some ((n * q : Nat) : Int) := by
  obtain ⟨h1, h2, h3, h4, h5, h6⟩ := h
  unfold lockgateref1_Blocks.f
  rw [good_fine ⟨h1, h2, h3, h4, h5, h6⟩, Option.bind_some, if_pos rfl]
  obtain ⟨m0, m1⟩ := mul_small (a := gr) (b := d) (A := 8) (B := 1000) (by omega) (by omega) (by omega) (by omega)
  rw [w64_id (by omega) (by omega), hn, hq, Int.natCast_mul]

/-! ### a row of bools in a block -/
def BR (W : World) (B : Nat) (xs : List Bool) : Prop := ∃ cs : Array Value, W.heap[B]? = some (.cells cs 4 (0, 0)) ∧ cs.toList = xs.map Value.bool
section
variable {W W1 : World} {B : Nat} {xs : List Bool}
theorem BR.lt (h : BR W B xs) : B < W.heap.size := by obtain ⟨cs, h1, _⟩ := h; exact blk_lt h1
theorem BR.cell (h : BR W B xs) {j : Nat} (hj : j < xs.length) : W.cell? ⟨B, j, none⟩ = some (.bool (xs.getD j false)) := by
  obtain ⟨cs, h1, h2⟩ := h
  rw [blk_cell h1, ← Array.getElem?_toList, h2, List.getElem?_map, List.getElem?_eq_getElem hj, List.getD_eq_getElem?_getD, List.getElem?_eq_getElem hj]
  rfl
theorem BR.frozen (h : BR W B xs) (j : Nat) : W.frozen? ⟨B, j, none⟩ = false := by obtain ⟨cs, h1, _⟩ := h; exact blk_frozen h1 j
theorem BR.set (h : BR W B xs) (j : Nat) (b : Bool) : BR (W.setCell ⟨B, j, none⟩ (.bool b)) B (xs.set j b) := by
  obtain ⟨cs, h1, h2⟩ := h
  exact ⟨_, blk_set h1 j (.bool b), by rw [Array.toList_setIfInBounds, h2, List.map_set]⟩
theorem BR.move (h : BR W B xs) (hm : W1.heap[B]? = W.heap[B]?) : BR W1 B xs := by obtain ⟨cs, h1, h2⟩ := h; exact ⟨cs, hm.trans h1, h2⟩
theorem BR.below (h : BR W B xs) (hb : Below W.heap.size W W1) : BR W1 B xs := h.move (hb.block B h.lt)
theorem BR.off {ok : Nat → Prop} (h : BR W B xs) (ho : Off ok W W1) (hn : ¬ ok B) : BR W1 B xs := h.move (ho.block B h.lt hn)
end
theorem info4 : (Try.prog.info? 4).map (fun i => (i.zero, i.size, i.bytes)) = some (some (.bool false), 1, 1) := by kernel_rfl
theorem made_bool (W : World) (m : Nat) (z : Int) (hz : z = m) (hm : m < 1000000) :
    ∃ W', (Instr.makeSlice 33 (.int .i64 z) (.int .i64 z)).run Try.prog W = .ok (.slice (some ⟨W.heap.size, 0, none⟩) m m) W' ∧ BR W' W.heap.size (List.replicate m false) ∧ Below W.heap.size W W' ∧ W'.heap.size = W.heap.size + 1 := by
  subst hz
  have h1 := print_make_int (P := Try.prog) 33 4 (.bool false) 1 Try.underlying33 info4 rfl (by decide) (m : Int) (by omega) (by omega) W
  rw [Int.toNat_natCast] at h1
  refine ⟨_, h1, ⟨_, blk_new W _, ?_⟩, below_alloc (Below.refl _ _) _, by simp⟩
  apply List.ext_getElem
  · simp [madeCells]
  · intro j h2 h3
    simp [madeCells, Nat.mod_one]
theorem BR.C {W : World} {B : Nat} {xs : List Bool} (h : BR W B xs) (hx : xs.length ≤ 1000000) : Kd.C Kd.bool W (some ⟨B, 0, none⟩) xs.length xs := by
  refine ⟨rfl, by omega, fun _ => ⟨_, rfl, fun j x hj => ?_⟩⟩
  obtain ⟨hlt, hx⟩ := List.getElem?_eq_some_iff.1 hj
  refine ⟨[.bool x], rfl, rfl, fun j' u hu => ?_⟩
  have hc := h.cell hlt
  rw [List.getD_eq_getElem?_getD, hj] at hc
  cases j' with
  | zero =>
    simp only [List.getElem?_cons_zero, Option.some.injEq] at hu
    subst hu
    have hsz : Kd.bool.sz = 1 := rfl
    rw [hsz, Nat.mul_one, Nat.add_zero, add_plain]
    exact hc
  | succ j' => simp at hu
/-- the reference's allocator at block g, its two rows -/
def IsR (W : World) (g Bi Bb : Nat) (gr i d : Int) (li ld : List Bool) : Prop :=
  W.heap[g]? = some (.cells #[.int .i64 gr, .int .i64 i, .int .i64 d, .slice (some ⟨Bi, 0, none⟩) li.length li.length, .slice (some ⟨Bb, 0, none⟩) ld.length ld.length] 63 (0, 0)) ∧ (BR W Bi li ∧ BR W Bb ld) ∧ Bi ≠ Bb
section
variable {W W1 : World} {g Bi Bb : Nat} {gr i d : Int} {li ld : List Bool}
theorem IsR.c0 (h : IsR W g Bi Bb gr i d li ld) : W.cell? ⟨g, 0, none⟩ = some (.int .i64 gr) := (blk_cell h.1 0).trans rfl
theorem IsR.c1 (h : IsR W g Bi Bb gr i d li ld) : W.cell? ⟨g, 1, none⟩ = some (.int .i64 i) := (blk_cell h.1 1).trans rfl
theorem IsR.c2 (h : IsR W g Bi Bb gr i d li ld) : W.cell? ⟨g, 2, none⟩ = some (.int .i64 d) := (blk_cell h.1 2).trans rfl
theorem IsR.c3 (h : IsR W g Bi Bb gr i d li ld) : W.cell? ⟨g, 3, none⟩ = some (.slice (some ⟨Bi, 0, none⟩) li.length li.length) := (blk_cell h.1 3).trans rfl
theorem IsR.c4 (h : IsR W g Bi Bb gr i d li ld) : W.cell? ⟨g, 4, none⟩ = some (.slice (some ⟨Bb, 0, none⟩) ld.length ld.length) := (blk_cell h.1 4).trans rfl
theorem IsR.gi (h : IsR W g Bi Bb gr i d li ld) : g ≠ Bi := fun e => by obtain ⟨cs, h1, _⟩ := h.2.1.1; rw [← e, h.1] at h1; cases h1
theorem IsR.gb (h : IsR W g Bi Bb gr i d li ld) : g ≠ Bb := fun e => by obtain ⟨cs, h1, _⟩ := h.2.1.2; rw [← e, h.1] at h1; cases h1
theorem IsR.move (h : IsR W g Bi Bb gr i d li ld) (h1 : W1.heap[g]? = W.heap[g]?) (h2 : W1.heap[Bi]? = W.heap[Bi]?) (h3 : W1.heap[Bb]? = W.heap[Bb]?) : IsR W1 g Bi Bb gr i d li ld := ⟨h1.trans h.1, ⟨h.2.1.1.move h2, h.2.1.2.move h3⟩, h.2.2⟩
theorem IsR.below (h : IsR W g Bi Bb gr i d li ld) (hb : Below W.heap.size W W1) : IsR W1 g Bi Bb gr i d li ld := h.move (hb.block _ (blk_lt h.1)) (hb.block _ h.2.1.1.lt) (hb.block _ h.2.1.2.lt)
theorem IsR.off {ok : Nat → Prop} (h : IsR W g Bi Bb gr i d li ld) (ho : Off ok W W1) (h1 : ¬ ok g) (h2 : ¬ ok Bi) (h3 : ¬ ok Bb) : IsR W1 g Bi Bb gr i d li ld := h.move (ho.block _ (blk_lt h.1) h1) (ho.block _ h.2.1.1.lt h2) (ho.block _ h.2.1.2.lt h3)
theorem IsR.setI (h : IsR W g Bi Bb gr i d li ld) (j : Nat) (b : Bool) : IsR (W.setCell ⟨Bi, j, none⟩ (.bool b)) g Bi Bb gr i d (li.set j b) ld :=
  ⟨by rw [List.length_set]; exact (Below.heap_setCell _ _ _ _ h.gi).trans h.1, ⟨h.2.1.1.set j b, h.2.1.2.move (Below.heap_setCell _ _ _ _ (fun e => h.2.2 (Eq.symm e)))⟩, h.2.2⟩
theorem IsR.setB (h : IsR W g Bi Bb gr i d li ld) (j : Nat) (b : Bool) : IsR (W.setCell ⟨Bb, j, none⟩ (.bool b)) g Bi Bb gr i d li (ld.set j b) :=
  ⟨by rw [List.length_set]; exact (Below.heap_setCell _ _ _ _ h.gb).trans h.1, ⟨h.2.1.1.move (Below.heap_setCell _ _ _ _ h.2.2), h.2.1.2.set j b⟩, h.2.2⟩
end

/-! ### next -/
def nextI (r : Option Nat) : Int := match r with
  | none => -1
  | some v => (v : Int)
theorem next_loop {l : List Bool} {N f : Nat} (hN : l.length = N) (hN0 : 0 < N) (hNs : N ≤ 100000) (a1 : Int) (f0 : Int) (HF : Hid (wrap64 (f0 * a1) = (f : Int))) (hfs : f ≤ 100000) : ∀ (m x k : Nat), x + m = N → m < k →
    (∀ j, j < x → l.getD ((f + j) % N) false = true) →
    ∃ r, lockgateref11_next.l0 k l a1 f0 (x : Int) = some (nextI r) ∧ ((r = none ∧ ∀ j, j < N → l.getD ((f + j) % N) false = true) ∨ ∃ i, i < N ∧ r = some ((f + i) % N) ∧ l.getD ((f + i) % N) false = false ∧ ∀ j, j < i → l.getD ((f + j) % N) false = true)
  | 0, x, k, hx, hk, hb => by
    obtain ⟨k, rfl⟩ : ∃ q, k = q + 1 := ⟨k - 1, by omega⟩
    have h1 : ¬ (x : Int) < (l.length : Int) := by omega
    simp only [lockgateref11_next.l0]
    rw [if_neg h1]
    exact ⟨none, rfl, .inl ⟨rfl, fun j hj => hb j (by omega)⟩⟩
  | m + 1, x, k, hx, hk, hb => by
    obtain ⟨k, rfl⟩ : ∃ q, k = q + 1 := ⟨k - 1, by omega⟩
    have hlt := Nat.mod_lt (f + x) hN0
    have hb' : ∀ v, (f + x) % N = v → l.getD v false = true → ∀ j, j < x + 1 → l.getD ((f + j) % N) false = true := fun v hv ht j hj => by
      by_cases e : j = x
      · rw [e, hv]; exact ht
      · exact hb j (by omega)
    obtain ⟨v, hv⟩ : ∃ v, (f + x) % N = v := ⟨_, rfl⟩
    rw [hv] at hlt
    have h1 : (x : Int) < (N : Int) := by omega
    have h2 : ¬ (N : Int) = 0 := by omega
    have h3 : (0 : Int) ≤ (v : Int) := by omega
    have h4 : (v : Int) < (N : Int) := by omega
    have hxN : x < N := by omega
    have hr : rdOf false l (v : Int) = l.getD v false := by unfold rdOf; rw [Int.toNat_natCast]
    have hm : x + 1 + m = N := by omega
    have hk' : m < k := by omega
    have e1 : wrap64 ((f : Int) + (x : Int)) = ((f + x : Nat) : Int) := by rw [Int.natCast_add]; exact w64_id (by omega) (by omega)
    have e2 : Int.tmod ((f + x : Nat) : Int) (N : Int) = (v : Int) := by rw [Int.tmod_eq_emod_of_nonneg (Int.natCast_nonneg _), ← hv, Int.natCast_emod]
    have e3 : wrap64 ((x : Int) + 1) = ((x + 1 : Nat) : Int) := by clear e1; rw [w64_id (by omega) (by omega)]; rfl
    simp only [lockgateref11_next.l0, hN, HF.out, e1, e2, e3, hr]
    rw [if_pos h1, if_neg h2, if_pos h3, if_pos h4]
    cases ht : l.getD v false with
    | true =>
      rw [if_pos rfl]
      exact next_loop hN hN0 hNs a1 f0 HF hfs m (x + 1) k hm hk' (hb' v hv ht)
    | false =>
      rw [if_neg (by simp)]
      exact ⟨some v, rfl, .inr ⟨x, hxN, by rw [hv], by rw [hv]; exact ht, hb⟩⟩
theorem next_is {l : List Bool} {n p : Nat} (from0 a1 : Int) (hl : l.length = n * p) (hp : 0 < n → a1 = (p : Int) ∧ 0 < p ∧ p ≤ 1000) (hn : n ≤ 8) : ∃ k, lockgateref11_next.f k l a1 from0 = some (nextI (nextA l p n from0)) := by
  rcases Nat.eq_zero_or_pos n with h0 | h0
  · subst h0
    rw [Nat.zero_mul] at hl
    refine ⟨0, ?_⟩
    unfold lockgateref11_next.f
    rw [if_pos (by omega), nextA_none (fun j hj => by omega)]
    rfl
  · obtain ⟨h1, h2, h3⟩ := hp h0
    subst h1
    have hN : n * p ≤ 8 * 1000 := Nat.mul_le_mul hn h3
    have hN0 : 0 < n * p := Nat.mul_pos h0 h2
    have hflt := fromOf_lt n from0 h0
    have hfp : fromOf n from0 * p ≤ 8 * 1000 := Nat.mul_le_mul (by omega) h3
    have hlz : ¬ ((n * p : Nat) : Int) = 0 := by omega
    have hpz : ¬ (p : Int) = 0 := by omega
    have key : ∀ f0 : Int, f0 = (fromOf n from0 : Int) → ∃ r, lockgateref11_next.l0 (n * p + 1) l (p : Int) f0 0 = some (nextI r) ∧ r = nextA l p n from0 := fun f0 hf0 => by
      have hf : Hid (wrap64 (f0 * (p : Int)) = ((fromOf n from0 * p : Nat) : Int)) := Lib.hid (by
        rw [hf0, ← Int.natCast_mul]
        exact w64_id (by omega) (by omega))
      obtain ⟨r, hr1, hr2⟩ := next_loop (f := fromOf n from0 * p) hl hN0 (by omega) (p : Int) f0 hf (by omega) (n * p) 0 (n * p + 1) (by omega) (by omega) (fun j hj => absurd hj (Nat.not_lt_zero _))
      refine ⟨r, hr1, ?_⟩
      rcases hr2 with ⟨rfl, hb⟩ | ⟨i, hi, rfl, hf1, hb⟩
      · exact (nextA_none hb).symm
      · exact (nextA_some hi hf1 hb).symm
    have hdiv : wrap64 (((n * p : Nat) : Int) / (p : Int)) = (n : Int) := by
      rw [show (((n * p : Nat) : Int) / (p : Int)) = ((n * p / p : Nat) : Int) by rw [Int.natCast_ediv], Nat.mul_div_cancel _ h2]
      exact w64_id (by omega) (by omega)
    refine ⟨n * p + 3, ?_⟩
    unfold lockgateref11_next.f
    rw [hl, if_neg hlz]
    by_cases hneg : from0 < 0
    · obtain ⟨r, hr, rfl⟩ := key 0 (by unfold fromOf; rw [if_neg (by omega)]; rfl)
      rw [if_pos hneg]
      simp only [lockgateref11_next.j0, lockgateref11_next.j1, if_true]
      exact hr
    · rw [if_neg hneg, if_neg hpz, hdiv]
      clear hdiv
      by_cases hge : from0 ≥ (n : Int)
      · obtain ⟨r, hr, rfl⟩ := key 0 (by unfold fromOf; rw [if_neg (by omega)]; rfl)
        rw [decide_eq_true hge]
        simp only [lockgateref11_next.j0, lockgateref11_next.j1, if_true]
        exact hr
      · obtain ⟨r, hr, rfl⟩ := key from0 (by unfold fromOf; rw [if_pos ⟨by omega, by omega⟩]; omega)
        rw [decide_eq_false hge]
        simp only [lockgateref11_next.j0, lockgateref11_next.j1, Bool.false_eq_true, if_false]
        exact hr
end Go.Proofs.Ytppjeikkodjjhaa.Given
