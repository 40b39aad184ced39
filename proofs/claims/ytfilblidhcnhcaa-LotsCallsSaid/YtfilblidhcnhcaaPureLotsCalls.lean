/- LotsCalls: a script is as the document has it, call by call, and a lot goes on drawing the same calls; for every seed and every number; no condition. -/
import Derived.Test.YtfilblidhcnhcaaPLotsCallsx2
import Derived.Test.YtfilblidhcnhcaaPlainL
namespace Go.Proofs.Ytfilblidhcnhcaa.Pure
open Go.RowKit Go.Proofs.Ytfilblidhcnhcaa.PLotsCalls Go.Proofs.Ytfilblidhcnhcaa.Given Go.Proofs.Ytfilblidhcnhcaa.PLotsFns Go.Proofs.YtfilblidhcnhcaaW.PrintWords Go.Proofs.YtfilblidhcnhcaaW.PrintLast Go.Proofs.YtfilblidhcnhcaaW.PrintMore
set_option linter.unusedSimpArgs false
set_option linter.unusedVariables false

theorem own_calls_l (a1 : Int) (s : Int) (K : Nat) (hK : K ≤ 1000) : ∀ (d j k : Nat), j + d = K → d < k → lots_Calls.l0 k (callL s j) K j (callSt s j) = some (callL s K) := by
  intro d
  induction d with
  | zero =>
    intro j k hj hk
    obtain ⟨k, rfl⟩ : ∃ m, k = m + 1 := ⟨k - 1, by omega⟩
    obtain rfl : j = K := by omega
    simp only [lots_Calls.l0]
    rw [if_neg (by omega)]
  | succ d ih =>
    intro j k hj hk
    obtain ⟨k, rfl⟩ : ∃ m, k = m + 1 := ⟨k - 1, by omega⟩
    simp only [lots_Calls.l0]
    rw [if_pos (by omega), call_some, Option.bind_some, if_pos (by rw [callL_length]; omega), wrap_id _ (by omega)]
    have := ih (j + 1) k (by omega) (by omega)
    rw [callL_snoc] at this
    rw [show ((j : Int) + 1) = ((j + 1 : Nat) : Int) by omega]
    exact this
theorem own_calls (a0 a1 : Int) (k : Nat) (hk : 3000 ≤ k) : lots_Calls.f k a0 a1 = some (callL (msk a0) (cnt a1)) := by
  unfold lots_Calls.f
  rw [show lots_New.f a0 = some (msk a0) from rfl, Option.bind_some]
  have hc := cnt_le a1
  have e : mn (mx 0 a1) 1000 = (cnt a1 : Int) := by
    unfold mn mx cnt
    by_cases h0 : a1 < 0
    · rw [if_neg (show ¬ 0 < a1 by omega), if_pos h0, if_neg (by omega)]
      rfl
    · rw [if_neg h0]
      by_cases h1 : a1 > 1000
      · rw [if_pos (show 0 < a1 by omega), if_pos h1]
        rfl
      · rw [if_neg h1, Int.toNat_of_nonneg (by omega)]
        by_cases h2 : 0 < a1
        · rw [if_pos h2, if_neg (by omega)]
        · rw [if_neg h2, if_neg (by omega)]
          omega
  rw [e]
  exact own_calls_l a1 (msk a0) (cnt a1) hc (cnt a1) 0 k (by omega) (by omega)

theorem calls_l (s : Int) (n : Nat) (hn : n ≤ 1000) : ∀ (d j k : Nat) (x : Int), j + d = n → d < k → (j ≤ 50 → x = callSt s j) → lockgatelaw31_LotsCalls.l0 k (callL s n) (callL s n) j x = some true := by
  intro d
  induction d with
  | zero =>
    intro j k x hj hk hx
    obtain ⟨k, rfl⟩ : ∃ m, k = m + 1 := ⟨k - 1, by omega⟩
    obtain rfl : j = n := by omega
    simp only [lockgatelaw31_LotsCalls.l0]
    rw [callL_length, if_neg (by omega)]
  | succ d ih =>
    intro j k x hj hk hx
    obtain ⟨k, rfl⟩ : ∃ m, k = m + 1 := ⟨k - 1, by omega⟩
    simp only [lockgatelaw31_LotsCalls.l0]
    rw [callL_length, if_pos (by omega), if_pos (by omega), if_pos (by omega), callL_rd _ _ _ (by omega), same_refl, Option.bind_some, if_pos rfl, wrap_id _ (by omega)]
    rw [show ((j : Int) + 1) = ((j + 1 : Nat) : Int) by omega]
    by_cases h50 : (j : Int) < 50
    · rw [if_pos h50, hx (by omega), call_some, Option.bind_some]
      have := same_refl (callS (callSt s j))
      rw [show (callS (callSt s j)).f0 = (callT (callSt s j)).1 from rfl, show (callS (callSt s j)).f1 = (callT (callSt s j)).2.1 from rfl, show (callS (callSt s j)).f2 = (callT (callSt s j)).2.2.1 from rfl, show (callS (callSt s j)).f3 = (callT (callSt s j)).2.2.2.1 from rfl, show (callS (callSt s j)).f4 = (callT (callSt s j)).2.2.2.2.1 from rfl, show (callS (callSt s j)).f5 = (callT (callSt s j)).2.2.2.2.2.1 from rfl] at this ⊢
      rw [this, Option.bind_some, if_pos rfl]
      exact ih (j + 1) k _ (by omega) (by omega) (fun _ => rfl)
    · rw [if_neg h50]
      exact ih (j + 1) k _ (by omega) (by omega) (fun h => by omega)

theorem LotsCalls : lockgatelaw31_LotsCalls.Pure := by
  intro a0 a1 w0 w1
  refine ⟨4000, ?_⟩
  unfold lockgatelaw31_LotsCalls.f
  rw [alive_f, Option.bind_some, if_pos rfl]
  have hj : lockgatelaw31_LotsCalls.j0 4000 a0 a1 true false = some true := by
    simp only [lockgatelaw31_LotsCalls.j0, Bool.false_eq_true, if_false]
    rw [own_calls _ _ _ (by omega), Option.bind_some, ref_calls _ _ _ (by omega), Option.bind_some, if_pos rfl, show lots_New.f a0 = some (msk a0) from rfl, Option.bind_some]
    exact calls_l (msk a0) (cnt a1) (cnt_le a1) (cnt a1) 0 3999 _ (by omega) (by have := cnt_le a1; omega) (fun _ => rfl)
  by_cases c1 : a1 > 60
  · rw [if_pos c1]
    by_cases c2 : a1 < 1000
    · rw [decide_eq_true c2]; rfl
    · rw [decide_eq_false c2]; exact hj
  · rw [if_neg c1]; exact hj

end Go.Proofs.Ytfilblidhcnhcaa.Pure
