/- What the functions of geom and of its reference tell: the same, for every geometry and every number. -/
import Derived.Test.YtppjeikkodjjhaaPGeox1
import Derived.Test.YtppjeikkodjjhaaPGeox2
namespace Go.Proofs.Ytppjeikkodjjhaa.Given
open Go.RowKit Go.Proofs.Ytppjeikkodjjhaa.PGeo Go.Proofs.YtppjeikkodjjhaaW.PrintWords
set_option linter.unusedSimpArgs false

def Fine (g i d : Int) : Prop := 1 ≤ g ∧ g ≤ 8 ∧ 1 ≤ i ∧ i ≤ 4 ∧ 8 ≤ d ∧ d ≤ 1000
instance (g i d : Int) : Decidable (Fine g i d) := by unfold Fine; infer_instance
variable {g i d : Int}

theorem check_fine (h : Fine g i d) : geom_Check.f g i d = some 0 := by
  obtain ⟨h1, h2, h3, h4, h5, h6⟩ := h
  unfold geom_Check.f
  rw [if_neg (by omega), if_neg (by omega), if_neg (by omega), if_neg (by omega), if_neg (by omega), if_neg (by omega)]
theorem check_not (h : ¬ Fine g i d) : geom_Check.f g i d = some 1 := by
  unfold geom_Check.f
  unfold Fine at h
  (repeat' split) <;> first | rfl | (exfalso; omega)
theorem good_fine (h : Fine g i d) : lockgateref1_Good.f g i d = some true := by
  obtain ⟨h1, h2, h3, h4, h5, h6⟩ := h
  unfold lockgateref1_Good.f
  rw [if_pos (by omega), if_pos (by omega), if_pos (by omega), if_pos (by omega), if_pos (by omega), decide_eq_true (by omega)]
theorem good_not (h : ¬ Fine g i d) : lockgateref1_Good.f g i d = some false := by
  unfold lockgateref1_Good.f
  unfold Fine at h
  (repeat' split) <;> first | rfl | (rw [decide_eq_false (by omega)])

theorem head_loop (n : Int) (h : Fine g i d) (m : Nat) : ∀ (k x : Nat), (x : Int) + m = g → m < k → geom_Head.l0 k n g x g i d =
    if (x : Int) ≤ n ∧ n < g then some (wrap64 (1 + wrap64 (n * wrap64 (wrap64 (1 + i) + d))), true) else some (0, false) := by
  obtain ⟨h1, h2, h3, h4, h5, h6⟩ := h
  induction m with
  | zero =>
    intro k x hx hk
    obtain ⟨k, rfl⟩ : ∃ q, k = q + 1 := ⟨k - 1, by omega⟩
    simp only [geom_Head.l0]
    rw [if_neg (by omega), if_neg (by omega)]
  | succ m ih =>
    intro k x hx hk
    obtain ⟨k, rfl⟩ : ∃ q, k = q + 1 := ⟨k - 1, by omega⟩
    simp only [geom_Head.l0]
    rw [if_pos (by omega)]
    by_cases he : (x : Int) = n
    · rw [if_pos he, if_pos (by omega)]
      subst he
      rfl
    · have hw : wrap64 ((x : Int) + 1) = ((x + 1 : Nat) : Int) := by unfold wrap64; omega
      rw [if_neg he, hw, ih k (x + 1) (by omega) (by omega)]
      by_cases hc : (x : Int) ≤ n ∧ n < g
      · rw [if_pos hc, if_pos (by omega)]
      · rw [if_neg hc, if_neg (by omega)]
theorem inodes_same (g i d : Int) : ∃ r, geom_Inodes.f g i d = some r ∧ lockgateref1_Inodes.f g i d = some r := by
  unfold geom_Inodes.f lockgateref1_Inodes.f
  by_cases h : Fine g i d
  · rw [check_fine h, good_fine h, Option.bind_some, Option.bind_some, if_pos rfl, if_pos rfl]; exact ⟨_, rfl, rfl⟩
  · rw [check_not h, good_not h, Option.bind_some, Option.bind_some, if_neg (by omega), if_neg (by simp)]; exact ⟨_, rfl, rfl⟩
theorem blocks_same (g i d : Int) : ∃ r, geom_Blocks.f g i d = some r ∧ lockgateref1_Blocks.f g i d = some r := by
  unfold geom_Blocks.f lockgateref1_Blocks.f
  by_cases h : Fine g i d
  · rw [check_fine h, good_fine h, Option.bind_some, Option.bind_some, if_pos rfl, if_pos rfl]; exact ⟨_, rfl, rfl⟩
  · rw [check_not h, good_not h, Option.bind_some, Option.bind_some, if_neg (by omega), if_neg (by simp)]; exact ⟨_, rfl, rfl⟩
theorem blocks_not (h : ¬ Fine g i d) : geom_Blocks.f g i d = some 0 := by
  unfold geom_Blocks.f
  rw [check_not h, Option.bind_some, if_neg (by omega)]
theorem inodes_not (h : ¬ Fine g i d) : geom_Inodes.f g i d = some 0 := by
  unfold geom_Inodes.f
  rw [check_not h, Option.bind_some, if_neg (by omega)]
end Go.Proofs.Ytppjeikkodjjhaa.Given
