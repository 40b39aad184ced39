/- What changes make: place by place, in another order, left out and done later; what Big and In tell. Plain Lean. -/
import Derived.Test.YtemachlhoanngaaG5
import Derived.Test.YtemachlhoanngaaG3
namespace Go.Proofs.Ytemachlhoanngaa.Given
open Go.RowKit Go.Proofs.YtemachlhoanngaaW.PrintWords Go.Proofs.YtemachlhoanngaaW.PrintLast Go.Proofs.YtemachlhoanngaaBase Go.Proofs.Ytemachlhoanngaa.PPFns
set_option linter.unusedVariables false
set_option linter.unusedSimpArgs false

theorem stepP_at (b : List Int) (p : S24) (i : Nat) (hi : i < b.length) : (stepP b p)[i]?.getD 0 = if p.f1 ≤ i ∧ (i : Int) - p.f1 < p.f2.length then p.f2[((i : Int) - p.f1).toNat]?.getD 0 else b[i]?.getD 0 := by
  unfold stepP
  by_cases c1 : p.f1 ≥ b.length ∨ (p.f1 < 0 ∧ p.f1 + p.f2.length ≤ 0)
  · rw [if_pos c1, if_neg (by omega)]
  rw [if_neg c1]
  by_cases c2 : p.f1 < 0
  · rw [if_pos c2]
    simp only [Go.splice, List.take_zero, List.nil_append, Nat.zero_add]
    by_cases c3 : i < ((List.drop (-p.f1).toNat p.f2).take b.length).length
    · have c4 := c3
      rw [List.length_take, List.length_drop] at c4
      rw [List.getElem?_append_left c3, List.getElem?_take, if_pos (by omega), List.getElem?_drop, if_pos (by omega), show (-p.f1).toNat + i = ((i : Int) - p.f1).toNat by omega]
    · have c4 := c3
      rw [List.length_take, List.length_drop] at c4
      rw [List.getElem?_append_right (by omega), List.getElem?_drop, if_neg (by omega)]
      congr 2
      rw [List.length_take, List.length_drop]
      omega
  · rw [if_neg c2]
    simp only [Go.splice]
    have hlt : (List.take p.f1.toNat b).length = p.f1.toNat := by rw [List.length_take]; omega
    by_cases c3 : i < p.f1.toNat
    · rw [List.getElem?_append_left (by omega), List.getElem?_take, if_pos c3, if_neg (by omega)]
    · rw [List.getElem?_append_right (by omega), hlt]
      by_cases c4 : i - p.f1.toNat < (p.f2.take (b.length - p.f1.toNat)).length
      · have c5 := c4
        rw [List.length_take] at c5
        rw [List.getElem?_append_left c4, List.getElem?_take, if_pos (by omega), if_pos (by omega), show i - p.f1.toNat = ((i : Int) - p.f1).toNat by omega]
      · have c5 := c4
        rw [List.length_take] at c5
        rw [List.getElem?_append_right (by omega), List.getElem?_drop, if_neg (by omega)]
        congr 2
        rw [List.length_take]
        omega
theorem list_at {a b : List Int} (hl : a.length = b.length) (h : ∀ i, i < a.length → a[i]?.getD 0 = b[i]?.getD 0) : a = b := by
  refine List.ext_getElem hl fun i h1 h2 => ?_
  have := h i h1
  rwa [List.getElem?_eq_getElem h1, List.getElem?_eq_getElem h2] at this
theorem stepP_comm (b : List Int) (p q : S24) (h : lapB p q = false) : stepP (stepP b p) q = stepP (stepP b q) p := by
  have h' := of_decide_eq_false h
  refine list_at (by simp only [stepP_length]) fun i hi => ?_
  simp only [stepP_length] at hi
  rw [stepP_at _ q i (by rw [stepP_length]; exact hi), stepP_at _ p i hi, stepP_at _ p i (by rw [stepP_length]; exact hi), stepP_at _ q i hi]
  by_cases c1 : p.f1 ≤ i ∧ (i : Int) - p.f1 < p.f2.length
  · rw [if_pos c1, if_pos c1, if_neg (by omega)]
  · rw [if_neg c1, if_neg c1]
theorem fold_comm (p : S24) : ∀ (g : List S24) (b : List Int), g.any (lapB p) = false → g.foldl stepP (stepP b p) = stepP (g.foldl stepP b) p := by
  intro g
  induction g with
  | nil => intro b _; rfl
  | cons q g ih =>
    intro b h
    rw [List.any_cons, Bool.or_eq_false_iff] at h
    rw [List.foldl_cons, List.foldl_cons, stepP_comm b p q h.1]
    exact ih _ h.2
theorem keptIdx_snoc (l1 : List S24) (l2 : List Int) (k : Nat) : keptIdx l1 l2 (k + 1) = keptIdx l1 l2 k ++ (if isOut l1 l2 k = true then [] else [k]) := by
  unfold keptIdx
  rw [List.range_succ, List.filter_append]
  congr 1
  cases h : isOut l1 l2 k <;> simp [h]
theorem isOut_nil (l : List S24) (i : Nat) : isOut l [] i = false := by simp [isOut]
theorem later_step (b : List Int) (l : List S24) (out : List Int) (hs : ∀ m, m < l.length → safeAt l out m = true) : ∀ j, j ≤ l.length → (goneL l out j).foldl stepP (applyL b l (keptIdx l out j)) = applyL b l (keptIdx l [] j) := by
  intro j
  induction j with
  | zero => intro _; rfl
  | succ j ih =>
    intro hj
    have ih := ih (by omega)
    rw [keptIdx_snoc, keptIdx_snoc l [], isOut_nil]
    simp only [Bool.false_eq_true, if_false]
    rw [applyL_snoc b l (keptIdx l [] j), ← ih]
    cases h : isOut l out j with
    | true =>
      simp only [if_true, List.append_nil]
      rw [goneL_out h, List.foldl_append]
      rfl
    | false =>
      simp only [Bool.false_eq_true, if_false]
      rw [goneL_in h, applyL_snoc]
      refine fold_comm _ _ _ ?_
      have := hs j (by omega)
      unfold safeAt at this
      rw [h, Bool.false_or] at this
      simpa using this
theorem kept_all (g : List S24) (b : List Int) : ∀ k, k ≤ g.length → applyL b g (keptIdx g [] k) = (g.take k).foldl stepP b := by
  intro k
  induction k with
  | zero => intro _; rfl
  | succ k ih =>
    intro hk
    rw [keptIdx_snoc, isOut_nil]
    simp only [Bool.false_eq_true, if_false]
    rw [applyL_snoc, ih (by omega), List.take_succ_eq_append_getElem (by omega), List.foldl_append]
    simp only [rd_T24, Int.toNat_natCast, List.getD_eq_getElem?_getD, List.getElem?_eq_getElem (show k < g.length by omega), Option.getD_some]
    rfl
theorem later_law (b : List Int) (l : List S24) (out : List Int) (hs : (List.range l.length).all (safeAt l out) = true) :
    applyL (applyL b l (keptIdx l out l.length)) (goneL l out l.length) (keptIdx (goneL l out l.length) [] (goneL l out l.length).length) = applyL b l (keptIdx l [] l.length) := by
  rw [kept_all _ _ _ (Nat.le_refl _), List.take_length]
  exact later_step b l out (fun m hm => List.all_eq_true.1 hs m (List.mem_range.2 hm)) l.length (Nat.le_refl _)

theorem big_round (l : List S24) (hl : l.length ≤ 9223372036854775807) : ∀ (d j k : Nat) (n : Int), j + d = 101 → 2 * d + 2 ≤ k → j ≤ l.length → (∀ i : Nat, i < j → (rd_T24 l i).f2.length ≤ 5000) →
    ∃ r, lockgatelaw14_Big.l0 k l n j = some r ∧ (r = false → l.length ≤ 60 ∧ ∀ i : Nat, i < l.length → (rd_T24 l i).f2.length ≤ 5000) := by
  intro d
  induction d with
  | zero =>
    intro j k n hj hk hjl hi
    obtain ⟨k, rfl⟩ : ∃ m, k = m + 2 := ⟨k - 2, by omega⟩
    refine ⟨true, ?_, by simp⟩
    simp only [lockgatelaw14_Big.l0, lockgatelaw14_Big.j1]
    rw [decide_eq_false (by omega)]
    simp only [Bool.false_eq_true, if_false]
    rw [if_pos (show (l.length : Int) > 60 by omega)]
    split <;> rfl
  | succ d ih =>
    intro j k n hj hk hjl hi
    obtain ⟨k, rfl⟩ : ∃ m, k = m + 2 := ⟨k - 2, by omega⟩
    simp only [lockgatelaw14_Big.l0, lockgatelaw14_Big.j1]
    by_cases c1 : (j : Int) < (l.length : Int)
    · rw [if_pos c1, decide_eq_true (show (j : Int) ≤ 100 by omega), if_pos rfl, if_pos (by omega), if_pos c1]
      by_cases c2 : (((rd_T24 l j).f2).length : Int) > 5000
      · rw [if_pos c2]
        exact ⟨true, rfl, by simp⟩
      · rw [if_neg c2, w64 ((j : Int) + 1) (by omega), show ((j : Int) + 1) = ((j + 1 : Nat) : Int) by omega]
        refine ih (j + 1) k _ (by omega) (by omega) (by omega) fun i hi' => ?_
        rcases Nat.lt_or_ge i j with h | h
        · exact hi i h
        · obtain rfl : i = j := by omega
          omega
    · rw [if_neg c1]
      simp only [Bool.false_eq_true, if_false]
      by_cases c2 : (l.length : Int) > 60
      · rw [if_pos c2]
        exact ⟨true, rfl, by simp⟩
      · rw [if_neg c2]
        exact ⟨_, rfl, fun _ => ⟨by omega, fun i hi' => hi i (by omega)⟩⟩
theorem big_tells (l : List S24) (hl : l.length ≤ 9223372036854775807) : ∃ k r, lockgatelaw14_Big.f k l = some r ∧ (r = false → l.length ≤ 60 ∧ ∀ i : Nat, i < l.length → (rd_T24 l i).f2.length ≤ 5000) := by
  obtain ⟨r, h1, h2⟩ := big_round l hl 101 0 (2 * 101 + 2) 0 rfl (by omega) (by omega) (fun i hi => by omega)
  exact ⟨_, r, h1, h2⟩
theorem in_round (l : List Int) (a : Int) (hl : l.length ≤ 140737488351232) : ∀ (d j k : Nat), j + d = l.length → d < k → (∀ i, i < j → l.getD i 0 ≠ a) → lockgateref11_In.l0 k l a j = some (decide (a ∈ l)) := by
  intro d
  induction d with
  | zero =>
    intro j k hj hk hno
    obtain ⟨k, rfl⟩ : ∃ m, k = m + 1 := ⟨k - 1, by omega⟩
    simp only [lockgateref11_In.l0]
    rw [if_neg (by omega)]
    refine congrArg some (decide_eq_false fun hm => ?_).symm
    obtain ⟨i, hi, e⟩ := List.mem_iff_getElem.1 hm
    refine hno i (by omega) ?_
    rw [List.getD_eq_getElem?_getD, List.getElem?_eq_getElem hi]
    exact e
  | succ d ih =>
    intro j k hj hk hno
    obtain ⟨k, rfl⟩ : ∃ m, k = m + 1 := ⟨k - 1, by omega⟩
    simp only [lockgateref11_In.l0]
    rw [if_pos (by omega), if_pos (by omega)]
    by_cases c : rd l j = a
    · rw [if_pos c]
      refine congrArg some (decide_eq_true ?_).symm
      rw [← c]
      simp only [rd, Int.toNat_natCast]
      rw [List.getD_eq_getElem?_getD, List.getElem?_eq_getElem (by omega)]
      exact List.getElem_mem _
    · rw [if_neg c, w64 _ (by omega), show ((j : Int) + 1) = ((j + 1 : Nat) : Int) by omega]
      refine ih (j + 1) k (by omega) (by omega) (fun i hi => ?_)
      by_cases e : i = j
      · subst e
        intro h
        exact c (by simp only [rd, Int.toNat_natCast]; exact h)
      · exact hno i (by omega)
theorem in_tells (l : List Int) (a : Int) (hl : l.length ≤ 140737488351232) : lockgateref11_In.f (l.length + 1) l a = some (decide (a ∈ l)) := by
  unfold lockgateref11_In.f
  exact in_round l a hl l.length 0 (l.length + 1) (by omega) (by omega) (fun i hi => by omega)
end Go.Proofs.Ytemachlhoanngaa.Given
