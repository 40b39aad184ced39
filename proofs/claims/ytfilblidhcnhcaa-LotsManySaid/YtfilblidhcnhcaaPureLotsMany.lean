/- LotsMany: a longer script begins with the shorter one, and each call's kind is one of the thirteen; for every seed and both numbers; no condition. -/
import Derived.Test.YtfilblidhcnhcaaPLotsManyx2
import Derived.Test.YtfilblidhcnhcaaPlainL
namespace Go.Proofs.Ytfilblidhcnhcaa.Pure
open Go.RowKit Go.Proofs.Ytfilblidhcnhcaa.PLotsMany Go.Proofs.Ytfilblidhcnhcaa.Given Go.Proofs.Ytfilblidhcnhcaa.PLotsFns Go.Proofs.YtfilblidhcnhcaaW.PrintWords Go.Proofs.YtfilblidhcnhcaaW.PrintLast Go.Proofs.YtfilblidhcnhcaaW.PrintMore
set_option linter.unusedSimpArgs false
set_option linter.unusedVariables false

theorem own_calls_l (a1 : Int) (s : Int) (K : Nat) (hK : K ≤ 1000) : ∀ (d j k : Nat), j + d = K → d < k → lots_Calls.l0 k (callL s j) K j (callSt s j) = some (callL s K) := by
  intro d
  induction d with
  | zero =>
    intro j k hj hk
    obtain ⟨k, rfl⟩ : ∃ m, k = m + 1 := ⟨k - 1, by omega⟩
    obtain rfl : j = K := by omega
    simp only [lots_Calls.l0]
    rw [if_neg (by omega)]
  | succ d ih =>
    intro j k hj hk
    obtain ⟨k, rfl⟩ : ∃ m, k = m + 1 := ⟨k - 1, by omega⟩
    simp only [lots_Calls.l0]
    rw [if_pos (by omega), call_some, Option.bind_some, if_pos (by rw [callL_length]; omega), wrap_id _ (by omega)]
    have := ih (j + 1) k (by omega) (by omega)
    rw [callL_snoc] at this
    rw [show ((j : Int) + 1) = ((j + 1 : Nat) : Int) by omega]
    exact this
theorem own_calls (a0 a1 : Int) (k : Nat) (hk : 3000 ≤ k) : lots_Calls.f k a0 a1 = some (callL (msk a0) (cnt a1)) := by
  unfold lots_Calls.f
  rw [show lots_New.f a0 = some (msk a0) from rfl, Option.bind_some]
  have hc := cnt_le a1
  have e : mn (mx 0 a1) 1000 = (cnt a1 : Int) := by
    unfold mn mx cnt
    by_cases h0 : a1 < 0
    · rw [if_neg (show ¬ 0 < a1 by omega), if_pos h0, if_neg (by omega)]
      rfl
    · rw [if_neg h0]
      by_cases h1 : a1 > 1000
      · rw [if_pos (show 0 < a1 by omega), if_pos h1]
        rfl
      · rw [if_neg h1, Int.toNat_of_nonneg (by omega)]
        by_cases h2 : 0 < a1
        · rw [if_pos h2, if_neg (by omega)]
        · rw [if_neg h2, if_neg (by omega)]
          omega
  rw [e]
  exact own_calls_l a1 (msk a0) (cnt a1) hc (cnt a1) 0 k (by omega) (by omega)

theorem many_l (s : Int) (n m : Nat) (hn : n ≤ 60) (hm : n ≤ m) : ∀ (d j k : Nat), j + d = n → d < k → lockgatelaw31_LotsMany.l0 k n (callL s n) (callL s m) j = some true := by
  intro d
  induction d with
  | zero =>
    intro j k hj hk
    obtain ⟨k, rfl⟩ : ∃ m, k = m + 1 := ⟨k - 1, by omega⟩
    obtain rfl : j = n := by omega
    simp only [lockgatelaw31_LotsMany.l0]
    rw [if_neg (by omega)]
  | succ d ih =>
    intro j k hj hk
    obtain ⟨k, rfl⟩ : ∃ m, k = m + 1 := ⟨k - 1, by omega⟩
    have hkind := call_kind (callSt s j)
    simp only [lockgatelaw31_LotsMany.l0]
    rw [if_pos (by omega), if_pos (by omega), if_pos (by rw [callL_length]; omega), if_pos (by rw [callL_length]; omega), callL_rd _ _ _ (by omega), callL_rd _ _ _ (by omega), same_refl, Option.bind_some, if_pos rfl, if_neg (by omega), if_neg (by omega), wrap_id _ (by omega)]
    rw [show ((j : Int) + 1) = ((j + 1 : Nat) : Int) by omega]
    exact ih (j + 1) k (by omega) (by omega)

theorem LotsMany : lockgatelaw31_LotsMany.Pure := by
  intro a0 a1 a2 w0 w1 w2
  refine ⟨4000, ?_⟩
  unfold lockgatelaw31_LotsMany.f
  rw [alive_f, Option.bind_some, if_pos rfl]
  by_cases c1 : a1 < 0
  · rw [if_pos c1]; rfl
  rw [if_neg c1]
  by_cases c2 : a1 > 60
  · rw [if_pos c2]; rfl
  rw [if_neg c2]
  by_cases c3 : a2 < 0
  · rw [if_pos c3]; rfl
  rw [if_neg c3]
  by_cases c4 : a2 > 40
  · rw [decide_eq_true c4]; rfl
  rw [decide_eq_false c4]
  have e1 := cnt_id a1 (by omega) (by omega)
  have e2 := cnt_id (a1 + a2) (by omega) (by omega)
  simp only [lockgatelaw31_LotsMany.j0, Bool.false_eq_true, if_false]
  rw [wrap_id _ (by omega), own_calls _ _ _ (by omega), Option.bind_some, own_calls _ _ _ (by omega), Option.bind_some, callL_length, callL_length, if_pos e1, e2]
  rw [show ((a1 + a2 : Int) != a1 + a2) = false by simp]
  simp only [lockgatelaw31_LotsMany.j1, Bool.false_eq_true, if_false]
  have := many_l (msk a0) (cnt a1) (cnt (a1 + a2)) (by omega) (by omega) (cnt a1) 0 3998 (by omega) (by omega)
  rw [e1] at this
  exact this

end Go.Proofs.Ytfilblidhcnhcaa.Pure
