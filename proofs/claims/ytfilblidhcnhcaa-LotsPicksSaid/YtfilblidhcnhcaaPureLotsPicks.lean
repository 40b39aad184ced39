/- LotsPicks: a drawn schedule is as the document has it, pick by pick; for every seed and both numbers; no condition. -/
import Derived.Test.YtfilblidhcnhcaaPLotsPicksx2
import Derived.Test.YtfilblidhcnhcaaPlainL
namespace Go.Proofs.Ytfilblidhcnhcaa.Pure
open Go.RowKit Go.Proofs.Ytfilblidhcnhcaa.PLotsPicks Go.Proofs.Ytfilblidhcnhcaa.Given Go.Proofs.Ytfilblidhcnhcaa.PLotsFns Go.Proofs.YtfilblidhcnhcaaW.PrintWords Go.Proofs.YtfilblidhcnhcaaW.PrintLast Go.Proofs.YtfilblidhcnhcaaW.PrintMore
set_option linter.unusedSimpArgs false
set_option linter.unusedVariables false

/-- no call -/
def nocall : S35 := ⟨0, (⟨#[]⟩ : ByteArray), (⟨#[]⟩ : ByteArray), 0, 0, ([] : List Int)⟩
/-- the pick that a state draws among t threads, and the state behind it -/
def pickT (s t : Int) : S42 × Int :=
  if drw s (t + 1) - 1 = -1 then (⟨drw s (t + 1) - 1, nocall⟩, stp s)
  else if drw (stp s) 3 = 0 then (⟨drw s (t + 1) - 1, callS (stp (stp s))⟩, callN (stp (stp s)))
  else (⟨drw s (t + 1) - 1, nocall⟩, stp (stp s))
def pickSt (s t : Int) : Nat → Int
  | 0 => s
  | j + 1 => (pickT (pickSt s t j) t).2
def pickL (s t : Int) (n : Nat) : List S42 := (List.range n).map (fun j => (pickT (pickSt s t j) t).1)
theorem pickL_length (s t : Int) (n : Nat) : (pickL s t n).length = n := by simp [pickL]
theorem pickL_snoc (s t : Int) (n : Nat) : pickL s t (n + 1) = pickL s t n ++ [(pickT (pickSt s t n) t).1] := by simp [pickL, List.range_succ]

theorem own_picks_l (s t : Int) (ht : 1 ≤ t ∧ t ≤ 16) (K : Nat) (hK : K ≤ 1000) : ∀ (d j k : Nat), j + d = K → d < k → lots_Picks.l0 k t (pickL s t j) K j (pickSt s t j) = some (pickL s t K) := by
  intro d
  induction d with
  | zero =>
    intro j k hj hk
    obtain ⟨k, rfl⟩ : ∃ m, k = m + 1 := ⟨k - 1, by omega⟩
    obtain rfl : j = K := by omega
    simp only [lots_Picks.l0]
    rw [if_neg (by omega)]
  | succ d ih =>
    intro j k hj hk
    obtain ⟨k, rfl⟩ : ∃ m, k = m + 1 := ⟨k - 1, by omega⟩
    have hr := drw_range (pickSt s t j) (t + 1) (by omega)
    have hn := ih (j + 1) k (by omega) (by omega)
    rw [pickL_snoc, show (((j + 1 : Nat) : Int)) = (j : Int) + 1 by omega, pickSt] at hn
    have hl : (pickL s t j).length < 1599289640401 := by rw [pickL_length]; omega
    simp only [lots_Picks.l0]
    rw [if_pos (by omega), wrap_id (t + 1) (by omega), own_next, Option.bind_some, wrap_id ((j : Int) + 1) (by omega)]
    dsimp only
    rw [wrap_id _ (by omega)]
    unfold pickT at hn
    by_cases c1 : drw (pickSt s t j) (t + 1) - 1 = -1
    · rw [if_pos c1] at hn ⊢
      rw [if_pos hl]
      exact hn
    · rw [if_neg c1] at hn ⊢
      rw [own_next, Option.bind_some]
      dsimp only
      by_cases c2 : drw (stp (pickSt s t j)) 3 = 0
      · rw [if_pos c2] at hn ⊢
        rw [call_some, Option.bind_some, if_pos hl]
        exact hn
      · rw [if_neg c2] at hn ⊢
        rw [if_pos hl]
        exact hn
theorem ref_picks_l (a2 : Int) (s t : Int) (ht : 1 ≤ t ∧ t ≤ 16) (K : Nat) (hK : K ≤ 1000) (hm : lockgateref28_many.f a2 = some (K : Int) ∨ (K = 0 ∧ ∃ m, m ≤ 0 ∧ lockgateref28_many.f a2 = some m)) :
    ∀ (d j k : Nat), j + d = K → d + 1600 < k → lockgateref28_Picks.l0 k t a2 (pickL s t j) j (pickSt s t j) = some (pickL s t K) := by
  intro d
  induction d with
  | zero =>
    intro j k hj hk
    obtain ⟨k, rfl⟩ : ∃ m, k = m + 1 := ⟨k - 1, by omega⟩
    obtain rfl : j = K := by omega
    simp only [lockgateref28_Picks.l0]
    rcases hm with h | ⟨rfl, m, hm, h⟩
    · rw [h, Option.bind_some, if_neg (by omega)]
    · rw [h, Option.bind_some, if_neg (by omega)]
  | succ d ih =>
    intro j k hj hk
    obtain ⟨k, rfl⟩ : ∃ m, k = m + 1 := ⟨k - 1, by omega⟩
    have h : lockgateref28_many.f a2 = some (K : Int) := by
      rcases hm with h | ⟨rfl, _⟩
      · exact h
      · omega
    have hr := drw_range (pickSt s t j) (t + 1) (by omega)
    have hn := ih (j + 1) k (by omega) (by omega)
    rw [pickL_snoc, show (((j + 1 : Nat) : Int)) = (j : Int) + 1 by omega, pickSt] at hn
    have hl : (pickL s t j).length < 1599289640401 := by rw [pickL_length]; omega
    simp only [lockgateref28_Picks.l0]
    rw [h, Option.bind_some, if_pos (by omega), wrap_id (t + 1) (by omega), ref_next, Option.bind_some, wrap_id ((j : Int) + 1) (by omega)]
    dsimp only
    rw [wrap_id _ (by omega)]
    unfold pickT at hn
    by_cases c1 : drw (pickSt s t j) (t + 1) - 1 = -1
    · rw [if_pos c1] at hn ⊢
      rw [if_pos hl]
      exact hn
    · rw [if_neg c1] at hn ⊢
      rw [ref_next, Option.bind_some]
      dsimp only
      by_cases c2 : drw (stp (pickSt s t j)) 3 = 0
      · rw [if_pos c2] at hn ⊢
        rw [ref_call _ _ (by omega), call_some, Option.bind_some, if_pos hl]
        exact hn
      · rw [if_neg c2] at hn ⊢
        rw [if_pos hl]
        exact hn

def thr (t : Int) : Int := if t < 1 then 1 else if t > 16 then 16 else t
theorem thr_range (t : Int) : 1 ≤ thr t ∧ thr t ≤ 16 := by unfold thr; split <;> (try split) <;> omega
theorem own_picks (a0 a1 a2 : Int) (k : Nat) (hk : 3000 ≤ k) : lots_Picks.f k a0 a1 a2 = some (pickL (msk a0) (thr a1) (cnt a2)) := by
  unfold lots_Picks.f
  rw [show lots_New.f a0 = some (msk a0) from rfl, Option.bind_some]
  have hc := cnt_le a2
  have e : mn (mx 0 a2) 1000 = (cnt a2 : Int) := by
    unfold mn mx cnt
    by_cases h0 : a2 < 0
    · rw [if_neg (show ¬ 0 < a2 by omega), if_pos h0, if_neg (by omega)]
      rfl
    · rw [if_neg h0]
      by_cases h1 : a2 > 1000
      · rw [if_pos (show 0 < a2 by omega), if_pos h1]
        rfl
      · rw [if_neg h1, Int.toNat_of_nonneg (by omega)]
        by_cases h2 : 0 < a2
        · rw [if_pos h2, if_neg (by omega)]
        · rw [if_neg h2, if_neg (by omega)]
          omega
  have et : mn (mx 1 a1) 16 = thr a1 := by
    unfold mn mx thr
    by_cases h0 : a1 < 1
    · rw [if_neg (show ¬ 1 < a1 by omega), if_pos h0, if_neg (by omega)]
    · rw [if_neg h0]
      by_cases h1 : a1 > 16
      · rw [if_pos (show 1 < a1 by omega), if_pos h1]
      · rw [if_neg h1]
        by_cases h2 : 1 < a1
        · rw [if_pos h2, if_neg (by omega)]
        · rw [if_neg h2, if_neg (by omega)]
          omega
  rw [e, et]
  exact own_picks_l (msk a0) (thr a1) (thr_range a1) (cnt a2) hc (cnt a2) 0 k (by omega) (by omega)
theorem ref_picks (a0 a1 a2 : Int) (k : Nat) (hk : 3000 ≤ k) : lockgateref28_Picks.f k a0 a1 a2 = some (pickL (msk a0) (thr a1) (cnt a2)) := by
  obtain ⟨k, rfl⟩ : ∃ m, k = m + 2 := ⟨k - 2, by omega⟩
  have hc := cnt_le a2
  have hm : lockgateref28_many.f a2 = some (cnt a2 : Int) ∨ (cnt a2 = 0 ∧ ∃ m, m ≤ 0 ∧ lockgateref28_many.f a2 = some m) := by
    unfold lockgateref28_many.f cnt
    by_cases h0 : a2 < 0
    · right
      rw [if_pos h0]
      exact ⟨rfl, a2, by omega, by rw [if_neg (by omega)]⟩
    · left
      rw [if_neg h0]
      by_cases h1 : a2 > 1000
      · rw [if_pos h1, if_pos h1]
        rfl
      · rw [if_neg h1, if_neg h1, Int.toNat_of_nonneg (by omega)]
  have hl := ref_picks_l a2 (msk a0) (thr a1) (thr_range a1) (cnt a2) hc hm (cnt a2) 0 k (by omega) (by omega)
  have hj : ∀ t : Int, t = thr a1 → lockgateref28_Picks.j1 (k + 1) a0 t a2 = some (pickL (msk a0) (thr a1) (cnt a2)) := by
    rintro t rfl
    simp only [lockgateref28_Picks.j1]
    rw [show lockgateref28_NewLot.f a0 = some (msk a0) from rfl, Option.bind_some]
    exact hl
  unfold lockgateref28_Picks.f
  by_cases h0 : a1 < 1
  · rw [if_pos h0]
    simp only [lockgateref28_Picks.j0]
    rw [if_neg (by omega)]
    exact hj 1 (by unfold thr; rw [if_pos h0])
  · rw [if_neg h0]
    simp only [lockgateref28_Picks.j0]
    by_cases h1 : a1 > 16
    · rw [if_pos h1]
      exact hj 16 (by unfold thr; rw [if_neg h0, if_pos h1])
    · rw [if_neg h1]
      exact hj a1 (by unfold thr; rw [if_neg h0, if_neg h1])

theorem picks_l (l : List S42) (n : Nat) (hl : l.length = n) (hn : n ≤ 1000) : ∀ (d j k : Nat), j + d = n → d < k → lockgatelaw31_LotsPicks.l0 k l l j = some true := by
  intro d
  induction d with
  | zero =>
    intro j k hj hk
    obtain ⟨k, rfl⟩ : ∃ m, k = m + 1 := ⟨k - 1, by omega⟩
    simp only [lockgatelaw31_LotsPicks.l0]
    rw [if_neg (by omega)]
  | succ d ih =>
    intro j k hj hk
    obtain ⟨k, rfl⟩ : ∃ m, k = m + 1 := ⟨k - 1, by omega⟩
    simp only [lockgatelaw31_LotsPicks.l0]
    rw [if_pos (by omega), if_pos (by omega), if_pos (by omega), if_pos trivial, same_refl, Option.bind_some, if_pos rfl, wrap_id _ (by omega)]
    rw [show ((j : Int) + 1) = ((j + 1 : Nat) : Int) by omega]
    exact ih (j + 1) k (by omega) (by omega)

theorem LotsPicks : lockgatelaw31_LotsPicks.Pure := by
  intro a0 a1 a2 w0 w1 w2
  refine ⟨4000, ?_⟩
  unfold lockgatelaw31_LotsPicks.f
  rw [alive_f, Option.bind_some, if_pos rfl]
  have hj : lockgatelaw31_LotsPicks.j0 4000 a0 a1 a2 true false = some true := by
    simp only [lockgatelaw31_LotsPicks.j0, Bool.false_eq_true, if_false]
    rw [own_picks _ _ _ _ (by omega), Option.bind_some, ref_picks _ _ _ _ (by omega), Option.bind_some, if_pos rfl]
    exact picks_l _ _ (pickL_length _ _ _) (cnt_le a2) (cnt a2) 0 3999 (by omega) (by have := cnt_le a2; omega)
  by_cases c1 : a2 > 200
  · rw [if_pos c1]
    by_cases c2 : a2 < 1000
    · rw [decide_eq_true c2]; rfl
    · rw [decide_eq_false c2]; exact hj
  · rw [if_neg c1]; exact hj

end Go.Proofs.Ytfilblidhcnhcaa.Pure
