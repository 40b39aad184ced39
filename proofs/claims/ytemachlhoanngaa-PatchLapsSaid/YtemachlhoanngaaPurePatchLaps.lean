/- PatchLaps: two changes have a place in common just where both have bytes and neither ends ahead of the other; both ways, and as the reference finds it; for every two changes; no condition. -/
import Derived.Test.YtemachlhoanngaaPPatchLapsx
import Derived.OpenShut
namespace Go.Proofs.Ytemachlhoanngaa.Pure
open Go.RowKit Go.Proofs.Ytemachlhoanngaa.PPatchLaps Go.Proofs.Ytemachlhoanngaa.Given Go.Proofs.YtemachlhoanngaaW.PrintWords Go.Proofs.YtemachlhoanngaaW.PrintLast
set_option linter.unusedSimpArgs false

theorem wrap_u64 (x : Int) : IntKind.u64.wrap x = x % 18446744073709551616 := by
  unfold IntKind.wrap
  rfl

/-- have they a place in common? -/
def lap (a : Int) (la : Nat) (b : Int) (lb : Nat) : Bool := decide (0 < la ∧ 0 < lb ∧ a < b + lb ∧ b < a + la)
theorem lap_comm (a : Int) (la : Nat) (b : Int) (lb : Nat) : lap a la b lb = lap b lb a la := by
  unfold lap
  exact decide_eq_decide.2 ⟨fun h => ⟨h.2.1, h.1, h.2.2.2, h.2.2.1⟩, fun h => ⟨h.2.1, h.1, h.2.2.2, h.2.2.1⟩⟩

theorem patch_lap (k : Nat) (i a : Int) (la : List Int) (j b : Int) (lb : List Int) (ha : -9223372036854775808 ≤ a ∧ a ≤ 9223372036854775807) (hb : -9223372036854775808 ≤ b ∧ b ≤ 9223372036854775807) (h1 : la.length ≤ 3000) (h2 : lb.length ≤ 3000) :
    patch_Lap.f (k + 1) i a la j b lb = some (lap a la.length b lb.length) := by
  unfold patch_Lap.f lap
  by_cases e1 : (la.length : Int) = 0
  · rw [if_pos e1]
    simp only [patch_Lap.j0, if_true]
    rw [decide_eq_false (by omega)]
  · rw [if_neg e1]
    by_cases e2 : (lb.length : Int) = 0
    · rw [beq_iff_eq.2 e2]
      simp only [patch_Lap.j0, if_true]
      rw [decide_eq_false (by omega)]
    · rw [beq_eq_false_iff_ne.2 e2]
      simp only [patch_Lap.j0, Bool.false_eq_true, if_false, wrap_u64]
      split <;> exact congrArg some (decide_eq_decide.2 (by omega))

theorem far_lap (k : Nat) (i a : Int) (la : List Int) (j b : Int) (lb : List Int) (ha : -9223372036854775808 ≤ a ∧ a ≤ 9223372036854775807) (hb : -9223372036854775808 ≤ b ∧ b ≤ 9223372036854775807) (h1 : la.length ≤ 3000) (h2 : lb.length ≤ 3000) :
    lockgateref11_far.f (k + 1) i a la j b lb = some (lap a la.length b lb.length) := by
  unfold lockgateref11_far.f lap
  by_cases e1 : (la.length : Int) = 0
  · rw [if_pos e1]
    simp only [lockgateref11_far.j0, if_true]
    rw [decide_eq_false (by omega)]
  · rw [if_neg e1]
    by_cases e2 : (lb.length : Int) = 0
    · rw [beq_iff_eq.2 e2]
      simp only [lockgateref11_far.j0, if_true]
      rw [decide_eq_false (by omega)]
    · rw [beq_eq_false_iff_ne.2 e2]
      simp only [lockgateref11_far.j0, Bool.false_eq_true, if_false, wrap_u64]
      split <;> exact congrArg some (decide_eq_decide.2 (by omega))

/-- the reference's steps, from place n on, where no place ahead of n was common -/
theorem ref_lap (i a : Int) (la : List Int) (j b : Int) (lb : List Int) (ha : -9223372036854775808 ≤ a ∧ a ≤ 9223372036854775807) (hb : -9223372036854775808 ≤ b ∧ b ≤ 9223372036854775807) (h1 : la.length ≤ 3000) (h2 : lb.length ≤ 3000)
    (d : Nat) : ∀ (k n : Nat), n + d = la.length → 2 * d + 3 ≤ k → (∀ m : Nat, m < n → ¬ (0 ≤ a - b + m ∧ a - b + m < lb.length)) →
    lockgateref11_Lap.l0 k n i a la j b lb = some (lap a la.length b lb.length) := by
  induction d with
  | zero =>
    intro k n hn hk hno
    obtain ⟨k, rfl⟩ : ∃ m, k = m + 1 := ⟨k - 1, by omega⟩
    simp only [lockgateref11_Lap.l0]
    rw [if_neg (by omega)]
    unfold lap
    rw [decide_eq_false]
    rintro ⟨g1, g2, g3, g4⟩
    by_cases hab : a ≤ b
    · exact hno (b - a).toNat (by omega) (by omega)
    · exact hno 0 (by omega) (by omega)
  | succ d ih =>
    intro k n hn hk hno
    obtain ⟨k, rfl⟩ : ∃ m, k = m + 3 := ⟨k - 3, by omega⟩
    have hfar := far_lap (k := k) i a la j b lb ha hb h1 h2
    simp only [lockgateref11_Lap.l0]
    rw [if_pos (by omega)]
    have hj1 : ∀ x6, lockgateref11_Lap.j1 (k + 2) n x6 true i a la j b lb = some (lap a la.length b lb.length) := by
      intro x6
      simp only [lockgateref11_Lap.j1, if_true]
      rw [hfar]
      rfl
    by_cases c1 : wrap64 (a - b) > 1099511627776
    · rw [if_pos c1]; exact hj1 _
    rw [if_neg c1]
    by_cases c2 : wrap64 (a - b) < (-1099511627776)
    · rw [if_pos c2]; exact hj1 _
    rw [if_neg c2]
    by_cases c3 : a > 1152921504606846976
    · rw [if_pos c3]; exact hj1 _
    rw [if_neg c3]
    by_cases c4 : a < (-1152921504606846976)
    · rw [if_pos c4]; exact hj1 _
    rw [if_neg c4]
    by_cases c5 : b > 1152921504606846976
    · rw [if_pos c5]; exact hj1 _
    rw [if_neg c5]
    by_cases c6 : b < (-1152921504606846976)
    · rw [decide_eq_true c6]; exact hj1 _
    rw [decide_eq_false c6]
    have w1 : wrap64 (a - b) = a - b := by unfold wrap64; omega
    rw [w1] at c1 c2
    rw [w1]
    have w2 : wrap64 (a - b + (n : Int)) = a - b + n := by unfold wrap64; omega
    have w3 : wrap64 ((n : Int) + 1) = ((n + 1 : Nat) : Int) := by unfold wrap64; omega
    simp only [lockgateref11_Lap.j1, Bool.false_eq_true, if_false]
    rw [w2, w3]
    have hnext : (¬ (0 ≤ a - b + n ∧ a - b + n < lb.length)) → lockgateref11_Lap.l0 (k + 1) ((n + 1 : Nat) : Int) i a la j b lb = some (lap a la.length b lb.length) := by
      intro hh
      refine ih (k + 1) (n + 1) (by omega) (by omega) ?_
      intro m hm
      rcases Nat.lt_or_ge m n with h | h
      · exact hno m h
      · obtain rfl : m = n := by omega
        exact hh
    by_cases g1 : a - b + (n : Int) ≥ 0
    · rw [if_pos g1]
      by_cases g2 : a - b + (n : Int) < lb.length
      · rw [if_pos g2]
        unfold lap
        rw [decide_eq_true (by omega)]
      · rw [if_neg g2]
        exact hnext (by omega)
    · rw [if_neg g1]
      exact hnext (by omega)

theorem PatchLaps : ∀ (a0_0 : Int) (a0_1 : Int) (l0_2 : (List Int)) (a1_0 : Int) (a1_1 : Int) (l1_2 : (List Int)), (Lit.int .i64 a0_0).wf = true → (Lit.int .i64 a0_1).wf = true → (l0_2.length ≤ maxLen ∧ ∀ y ∈ l0_2, (Lit.int .u8 y).wf = true) → (Lit.int .i64 a1_0).wf = true → (Lit.int .i64 a1_1).wf = true → (l1_2.length ≤ maxLen ∧ ∀ y ∈ l1_2, (Lit.int .u8 y).wf = true) → ∃ k, lockgatelaw14_PatchLaps.f k a0_0 a0_1 l0_2 a1_0 a1_1 l1_2 = some true := by
  intro i a la j b lb _ ha _ _ hb _
  have ba := bounds_i64 ha
  have bb := bounds_i64 hb
  refine ⟨7000, ?_⟩
  unfold lockgatelaw14_PatchLaps.f
  rw [show lockgatelaw14_alive.f = some true from rfl, Option.bind_some, if_pos rfl]
  by_cases h1 : (la.length : Int) > 3000
  · rw [if_pos h1]; simp only [lockgatelaw14_PatchLaps.j0, if_true]
  rw [if_neg h1]
  by_cases h2 : (lb.length : Int) > 3000
  · rw [decide_eq_true h2]; simp only [lockgatelaw14_PatchLaps.j0, if_true]
  rw [decide_eq_false h2]
  simp only [lockgatelaw14_PatchLaps.j0, Bool.false_eq_true, if_false]
  have e1 := patch_lap 6998 i a la j b lb (by omega) (by omega) (by omega) (by omega)
  have e2 := patch_lap 6998 j b lb i a la (by omega) (by omega) (by omega) (by omega)
  have e3 : lockgateref11_Lap.f 6999 i a la j b lb = some (lap a la.length b lb.length) := by
    unfold lockgateref11_Lap.f
    exact ref_lap i a la j b lb (by omega) (by omega) (by omega) (by omega) la.length 6999 0 (by omega) (by omega) (by intro m hm; omega)
  rw [e1, e2, e3, lap_comm b]
  simp

end Go.Proofs.Ytemachlhoanngaa.Pure
