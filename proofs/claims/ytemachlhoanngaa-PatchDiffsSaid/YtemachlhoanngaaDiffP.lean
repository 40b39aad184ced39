/- The reference's Diff tells what patch.Diff tells; 'same' tells that a row is itself. Plain Lean. -/
import Derived.Test.YtemachlhoanngaaDiffL
import Derived.Test.YtemachlhoanngaaPDFnsx1
import Derived.Test.YtemachlhoanngaaPDFnsx2
namespace Go.Proofs.Ytemachlhoanngaa.Given
open Go.RowKit Go.Proofs.YtemachlhoanngaaW.PrintWords Go.Proofs.YtemachlhoanngaaW.PrintLast Go.Proofs.YtemachlhoanngaaBase Go.Proofs.Ytemachlhoanngaa.PPFns Go.Proofs.Ytemachlhoanngaa.PDFns
set_option linter.unusedVariables false
set_option linter.unusedSimpArgs false

theorem ref_round (l0 l1 : List Int) (hl : l0.length = l1.length) (h3 : l0.length ≤ 3000) : ∀ (d j : Nat), j + d = l0.length → lockgateref11_Diff.l0 (d + 1) l0 l1 (stD l0 l1 j).1 (stD l0 l1 j).2 j = some (stD l0 l1 l0.length).1 := by
  intro d
  induction d with
  | zero =>
    intro j hj
    simp only [lockgateref11_Diff.l0]
    rw [if_neg (show ¬ ((j : Int) < (l1.length : Int)) by omega), show j = l0.length by omega]
  | succ d ih =>
    intro j hj
    have ih := ih (j + 1) (by omega)
    obtain ⟨hn, hpos, hbs⟩ := stD_inv l0 l1 j
    rw [lockgateref11_Diff.l0]
    rw [if_pos (show (j : Int) < (l1.length : Int) by omega), if_pos (show (0 : Int) ≤ (j : Int) by omega), if_pos (show (j : Int) < (l0.length : Int) by omega), w64 ((j : Int) + 1) (by omega), show ((j : Int) + 1) = ((j + 1 : Nat) : Int) by omega]
    by_cases c : rd l0 (j : Int) = rd l1 (j : Int)
    · rw [if_pos c]
      have hst : stD l0 l1 (j + 1) = ((stD l0 l1 j).1, false) := by simp only [stD, stepD, if_pos c]
      rw [hst] at ih
      exact ih
    · rw [if_neg c]
      cases hb : (stD l0 l1 j).2 with
      | true =>
        rw [if_pos rfl]
        have hst : stD l0 l1 (j + 1) = (grow (stD l0 l1 j).1 (rd l1 (j : Int)), true) := by simp only [stD, stepD, if_neg c, hb, if_true]
        obtain ⟨X, p, hX, p0, pe⟩ := (stD_open l0 l1 j).2 hb
        have hp := hbs p (by rw [hX]; simp)
        rw [hst, hX, grow_snoc] at ih
        have hlen : (X ++ [p]).length = X.length + 1 := by simp
        rw [hX, hlen] at hn
        rw [hX, hlen]
        have hw : wrap64 (((X.length + 1 : Nat) : Int) - 1) = (X.length : Int) := by rw [w64 _ (by omega)]; omega
        rw [hw]
        have hr : rd_T24 (X ++ [p]) (X.length : Int) = p := by simp [rd_T24]
        rw [hr, if_pos (by omega), if_pos (by omega), if_pos (by omega)]
        have hset : (X ++ [p]).set ((X.length : Int)).toNat ⟨p.f0, p.f1, p.f2 ++ [rd l1 (j : Int)]⟩ = X ++ [⟨p.f0, p.f1, p.f2 ++ [rd l1 (j : Int)]⟩] := by simp
        rw [hset]
        exact ih
      | false =>
        rw [if_neg (by simp)]
        have hst : stD l0 l1 (j + 1) = ((stD l0 l1 j).1 ++ [⟨((stD l0 l1 j).1.length : Int), (j : Int), [rd l1 (j : Int)]⟩], true) := by simp [stD, stepD, c, hb]
        rw [hst] at ih
        obtain ⟨X, hX⟩ : ∃ X, (stD l0 l1 j).1 = X := ⟨_, rfl⟩
        rw [hX] at ih hn ⊢
        rw [if_pos (by omega), Option.bind_some]
        have hlen : (X ++ [(⟨(X.length : Int), (j : Int), ([] : List Int)⟩ : S24)]).length = X.length + 1 := by simp
        rw [hlen]
        have hw : wrap64 (((X.length + 1 : Nat) : Int) - 1) = (X.length : Int) := by rw [w64 _ (by omega)]; omega
        rw [hw]
        have hr : rd_T24 (X ++ [(⟨(X.length : Int), (j : Int), ([] : List Int)⟩ : S24)]) (X.length : Int) = ⟨(X.length : Int), (j : Int), []⟩ := by simp [rd_T24]
        rw [hr, if_pos (by omega), if_pos (by omega), if_pos (by simp)]
        have hset : (X ++ [(⟨(X.length : Int), (j : Int), ([] : List Int)⟩ : S24)]).set ((X.length : Int)).toNat ⟨(X.length : Int), (j : Int), [] ++ [rd l1 (j : Int)]⟩ = X ++ [⟨(X.length : Int), (j : Int), [rd l1 (j : Int)]⟩] := by simp
        rw [hset]
        exact ih
theorem ref_tells (l0 l1 : List Int) (h3 : l0.length ≤ 3000) : ∃ k, lockgateref11_Diff.f k l0 l1 = some (if l0.length = l1.length then (stD l0 l1 l0.length).1 else []) := by
  refine ⟨l0.length + 1, ?_⟩
  unfold lockgateref11_Diff.f
  by_cases hl : l0.length = l1.length
  · rw [if_pos (by omega), if_pos hl]
    exact ref_round l0 l1 hl h3 l0.length 0 (by omega)
  · rw [if_neg (by omega), if_neg hl]
theorem same_round (r : List S24) (hr : r.length ≤ 3000) : ∀ (d j : Nat), j + d = r.length → lockgatelaw14_same.l0 (d + 1) r r j = some true := by
  intro d
  induction d with
  | zero =>
    intro j hj
    rw [lockgatelaw14_same.l0, if_neg (by omega)]
  | succ d ih =>
    intro j hj
    have ih := ih (j + 1) (by omega)
    rw [lockgatelaw14_same.l0, if_pos (by omega), if_pos (by omega), if_pos (by omega), if_pos rfl, if_pos rfl, if_pos rfl, w64 ((j : Int) + 1) (by omega), show ((j : Int) + 1) = ((j + 1 : Nat) : Int) by omega]
    exact ih
theorem same_tells (r : List S24) (hr : r.length ≤ 3000) : ∃ k, lockgatelaw14_same.f k r r = some true := by
  refine ⟨r.length + 1, ?_⟩
  unfold lockgatelaw14_same.f
  rw [if_pos rfl]
  exact same_round r hr r.length 0 (by omega)
end Go.Proofs.Ytemachlhoanngaa.Given
