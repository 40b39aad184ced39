/- What the changes of patch.Diff make of 'from': 'to'. Plain Lean. -/
import Derived.Test.YtemachlhoanngaaPlainP
import Derived.Test.YtemachlhoanngaaG8
namespace Go.Proofs.Ytemachlhoanngaa.Given
open Go.RowKit Go.Proofs.YtemachlhoanngaaW.PrintWords Go.Proofs.YtemachlhoanngaaW.PrintLast Go.Proofs.YtemachlhoanngaaBase Go.Proofs.Ytemachlhoanngaa.PPFns
set_option linter.unusedVariables false
set_option linter.unusedSimpArgs false

theorem fold_length (g : List S24) : ∀ b : List Int, (g.foldl stepP b).length = b.length := by
  induction g with
  | nil => intro b; rfl
  | cons p g ih => intro b; rw [List.foldl_cons, ih, stepP_length]
theorem grow_snoc (X : List S24) (p : S24) (b : Int) : grow (X ++ [p]) b = X ++ [⟨p.f0, p.f1, p.f2 ++ [b]⟩] := by
  have hr : rd_T24 (X ++ [p]) (((X ++ [p]).length - 1 : Nat) : Int) = p := by simp [rd_T24]
  unfold grow
  rw [hr]
  simp
theorem stD_open (l0 l1 : List Int) : ∀ j : Nat, (∀ p ∈ (stD l0 l1 j).1, 0 ≤ p.f1 ∧ p.f1 ≤ j) ∧ ((stD l0 l1 j).2 = true → ∃ X p, (stD l0 l1 j).1 = X ++ [p] ∧ 0 ≤ p.f1 ∧ p.f1 + (p.f2.length : Int) = (j : Int))
  | 0 => ⟨fun p h => (by cases h), fun h => (by cases h)⟩
  | j + 1 => by
    obtain ⟨h1, h2⟩ := stD_open l0 l1 j
    simp only [stD, stepD]
    by_cases c : rd l0 (j : Int) = rd l1 (j : Int)
    · rw [if_pos c]
      exact ⟨fun p hp => ⟨(h1 p hp).1, by have := (h1 p hp).2; omega⟩, fun h => (by cases h)⟩
    · rw [if_neg c]
      cases hb : (stD l0 l1 j).2 with
      | true =>
        rw [if_pos rfl]
        obtain ⟨X, p, hX, p0, pe⟩ := h2 hb
        simp only [hX, grow_snoc] at h1 ⊢
        refine ⟨fun q hq => ?_, fun _ => ⟨X, _, rfl, p0, by simp only [List.length_append, List.length_cons, List.length_nil]; omega⟩⟩
        rcases List.mem_append.1 hq with hq | hq
        · have := h1 q (List.mem_append.2 (Or.inl hq))
          omega
        · obtain rfl : q = _ := by simpa using hq
          have := h1 p (by simp)
          simp only
          omega
      | false =>
        rw [if_neg (by simp)]
        refine ⟨fun q hq => ?_, fun _ => ⟨_, _, rfl, by simp only; omega, by simp⟩⟩
        rcases List.mem_append.1 hq with hq | hq
        · have := h1 q hq
          omega
        · obtain rfl : q = _ := by simpa using hq
          simp only
          omega
theorem stD_makes (l0 l1 : List Int) (hl : l0.length = l1.length) : ∀ j : Nat, j ≤ l0.length → ∀ i : Nat, i < l0.length → ((stD l0 l1 j).1.foldl stepP l0)[i]?.getD 0 = if i < j then l1[i]?.getD 0 else l0[i]?.getD 0
  | 0 => fun _ i hi => by rw [if_neg (by omega)]; rfl
  | j + 1 => fun hj i hi => by
    have ih := stD_makes l0 l1 hl j (by omega)
    obtain ⟨_, h2⟩ := stD_open l0 l1 j
    have hra : rd l0 (j : Int) = l0[j]?.getD 0 := by simp [rd, List.getD_eq_getElem?_getD]
    have hrb : rd l1 (j : Int) = l1[j]?.getD 0 := by simp [rd, List.getD_eq_getElem?_getD]
    simp only [stD, stepD]
    by_cases c : rd l0 (j : Int) = rd l1 (j : Int)
    · rw [if_pos c]
      simp only
      rw [ih i hi]
      rw [hra, hrb] at c
      by_cases e : i = j
      · subst e
        rw [if_neg (by omega), if_pos (by omega), c]
      · by_cases h : i < j
        · rw [if_pos h, if_pos (by omega)]
        · rw [if_neg h, if_neg (by omega)]
    · rw [if_neg c]
      cases hb : (stD l0 l1 j).2 with
      | true =>
        rw [if_pos rfl]
        obtain ⟨X, p, hX, p0, pe⟩ := h2 hb
        have ihi := ih i hi
        simp only [hX, grow_snoc] at ihi ⊢
        rw [List.foldl_append] at ihi ⊢
        simp only [List.foldl_cons, List.foldl_nil] at ihi ⊢
        have hlen : i < (X.foldl stepP l0).length := by rw [fold_length]; exact hi
        rw [stepP_at _ _ i hlen] at ihi ⊢
        simp only [List.length_append, List.length_cons, List.length_nil] at ihi ⊢
        by_cases e : i = j
        · subst e
          rw [if_pos (by omega), if_pos (by omega), List.getElem?_append_right (by omega), show ((i : Int) - p.f1).toNat - p.f2.length = 0 by omega]
          simp [hrb]
        · by_cases h : i < j
          · rw [if_pos h] at ihi
            rw [if_pos (show i < j + 1 by omega), ← ihi]
            by_cases g : p.f1 ≤ i
            · rw [if_pos (by omega), if_pos (by omega), List.getElem?_append_left (by omega)]
            · rw [if_neg (by omega), if_neg (by omega)]
          · rw [if_neg h] at ihi
            rw [if_neg (show ¬ i < j + 1 by omega), ← ihi, if_neg (by omega), if_neg (by omega)]
      | false =>
        rw [if_neg (by simp)]
        simp only
        rw [List.foldl_append]
        simp only [List.foldl_cons, List.foldl_nil]
        have hlen : i < ((stD l0 l1 j).1.foldl stepP l0).length := by rw [fold_length]; exact hi
        rw [stepP_at _ _ i hlen]
        simp only [List.length_cons, List.length_nil]
        by_cases e : i = j
        · subst e
          rw [if_pos (by omega), if_pos (by omega), show ((i : Int) - (i : Int)).toNat = 0 by omega]
          simp [hrb]
        · rw [if_neg (by omega), ih i hi]
          by_cases h : i < j
          · rw [if_pos h, if_pos (by omega)]
          · rw [if_neg h, if_neg (by omega)]
theorem diff_makes (l0 l1 : List Int) (hl : l0.length = l1.length) : (stD l0 l1 l0.length).1.foldl stepP l0 = l1 :=
  list_at (by rw [fold_length, hl]) fun i hi => by
    rw [fold_length] at hi
    rw [stD_makes l0 l1 hl _ (Nat.le_refl _) i hi, if_pos hi]
theorem diff_ok (l0 l1 : List Int) (hl : l0.length = l1.length) (h : l0.length ≤ 3000) : patch_Apply.f l0 (stD l0 l1 l0.length).1 [] = some l1 := by
  obtain ⟨h1, _, h3⟩ := stD_inv l0 l1 l0.length
  obtain ⟨h4, _⟩ := stD_open l0 l1 l0.length
  unfold patch_Apply.f
  rw [if_pos ⟨by omega, by omega, by simp, List.all_eq_true.2 fun q hq => decide_eq_true ⟨by have := h4 q hq; omega, by have := h4 q hq; omega, by have := h3 q hq; omega⟩⟩]
  rw [kept_all _ _ _ (Nat.le_refl _), List.take_length, diff_makes l0 l1 hl]
end Go.Proofs.Ytemachlhoanngaa.Given
