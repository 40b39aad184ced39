/- What the functions of geom and of its reference tell: the same (Head, Data, Total, DataOf). -/
import Derived.Test.YtppjeikkodjjhaaG1
import Derived.Test.YtppjeikkodjjhaaPGeox3
import Derived.Test.YtppjeikkodjjhaaPGeox4
namespace Go.Proofs.Ytppjeikkodjjhaa.Given
open Go.RowKit Go.Proofs.Ytppjeikkodjjhaa.PGeo Go.Proofs.YtppjeikkodjjhaaW.PrintWords
set_option linter.unusedSimpArgs false

variable {g i d : Int}
theorem head_same (g i d n : Int) (k : Nat) (hk : 10 < k) : ∃ r, geom_Head.f k g i d n = some r ∧ lockgateref1_Head.f g i d n = some r := by
  unfold geom_Head.f lockgateref1_Head.f
  by_cases h : Fine g i d
  · rw [check_fine h, good_fine h, Option.bind_some, Option.bind_some, if_pos rfl, if_pos rfl]
    have h' := h
    obtain ⟨h1, h2, h3, h4, h5, h6⟩ := h'
    have e := head_loop n h g.toNat k 0 (by omega) (by omega)
    rw [show ((0 : Nat) : Int) = 0 from rfl] at e
    rw [e]
    by_cases hn : n < 0
    · rw [if_neg (by omega), if_pos hn]; exact ⟨_, rfl, rfl⟩
    · rw [if_neg hn]
      by_cases hn2 : n ≥ g
      · rw [if_neg (by omega), if_pos hn2]; exact ⟨_, rfl, rfl⟩
      · rw [if_pos (by omega), if_neg hn2]; exact ⟨_, rfl, rfl⟩
  · rw [check_not h, good_not h, Option.bind_some, Option.bind_some, if_neg (by omega), if_neg (by simp)]
    exact ⟨_, rfl, rfl⟩
theorem total_same (g i d : Int) : ∃ r, geom_Total.f g i d = some r ∧ lockgateref1_Total.f g i d = some r := by
  unfold geom_Total.f lockgateref1_Total.f
  by_cases h : Fine g i d
  · rw [check_fine h, good_fine h, Option.bind_some, Option.bind_some, if_pos rfl, if_pos rfl]; exact ⟨_, rfl, rfl⟩
  · rw [check_not h, good_not h, Option.bind_some, Option.bind_some, if_neg (by omega), if_neg (by simp)]; exact ⟨_, rfl, rfl⟩
theorem data_same (g i d n : Int) (k : Nat) (hk : 10 < k) : ∃ r, geom_Data.f k g i d n = some r ∧ lockgateref1_Data.f g i d n = some r := by
  unfold geom_Data.f lockgateref1_Data.f
  by_cases hn : n < 0
  · rw [if_pos hn, if_pos hn]; exact ⟨_, rfl, rfl⟩
  · rw [if_neg hn, if_neg hn]
    obtain ⟨b, hb, hb'⟩ := blocks_same g i d
    rw [hb, hb', Option.bind_some, Option.bind_some]
    by_cases hn2 : n ≥ b
    · rw [if_pos hn2, if_pos hn2]; exact ⟨_, rfl, rfl⟩
    · rw [if_neg hn2, if_neg hn2]
      have hf : Fine g i d := by
        refine Classical.byContradiction fun h => ?_
        rw [blocks_not h] at hb
        injection hb with hb
        omega
      have hd : ¬ d = 0 := by have := hf.2.2.2.2.1; omega
      rw [if_neg hd, if_neg hd]
      obtain ⟨r, hr, hr'⟩ := head_same g i d (wrap64 (Int.tdiv n d)) k hk
      rw [hr, hr', Option.bind_some]
      exact ⟨_, rfl, rfl⟩
theorem dataOf_same (g i d n : Int) (k : Nat) : ∃ r, geom_DataOf.f (k + 1) g i d n = some r ∧ lockgateref1_DataOf.f (k + 1) g i d n = some r := by
  unfold geom_DataOf.f lockgateref1_DataOf.f
  by_cases hn : n < 1
  · rw [if_pos hn, if_pos hn]
    simp only [geom_DataOf.j0, lockgateref1_DataOf.j0, if_true]
    exact ⟨_, rfl, rfl⟩
  · rw [if_neg hn, if_neg hn]
    obtain ⟨b, hb, hb'⟩ := total_same g i d
    rw [hb, hb', Option.bind_some, Option.bind_some]
    by_cases hn2 : n ≥ b
    · rw [decide_eq_true hn2]
      simp only [geom_DataOf.j0, lockgateref1_DataOf.j0, if_true]
      exact ⟨_, rfl, rfl⟩
    · rw [decide_eq_false hn2]
      have hf : Fine g i d := by
        refine Classical.byContradiction fun h => ?_
        unfold geom_Total.f at hb
        rw [check_not h, Option.bind_some, if_neg (by omega)] at hb
        injection hb with hb
        omega
      obtain ⟨h1, h2, h3, h4, h5, h6⟩ := hf
      have hs : wrap64 (wrap64 (1 + i) + d) = 1 + i + d := by unfold wrap64; omega
      have hne : ¬ 1 + i + d = 0 := by omega
      simp only [geom_DataOf.j0, lockgateref1_DataOf.j0, geom_span.f, lockgateref1_Per.f]
      rw [hs, if_neg (by simp), Option.bind_some, if_neg hne, Option.bind_some, if_neg hne]
      split <;> exact ⟨_, rfl, rfl⟩
end Go.Proofs.Ytppjeikkodjjhaa.Given
