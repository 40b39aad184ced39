/- What the reference's Lap, Safe and Apply tell. Plain Lean. -/
import Derived.Test.YtemachlhoanngaaPlainP
import Derived.Test.YtemachlhoanngaaPPFnsx2
import Derived.Test.YtemachlhoanngaaPPFnsx4
namespace Go.Proofs.Ytemachlhoanngaa.Given
open Go.RowKit Go.Proofs.YtemachlhoanngaaW.PrintWords Go.Proofs.YtemachlhoanngaaW.PrintLast Go.Proofs.YtemachlhoanngaaBase Go.Proofs.Ytemachlhoanngaa.PPFns
set_option linter.unusedVariables false
set_option linter.unusedSimpArgs false

theorem in_any (l : List Int) (a : Int) (k : Nat) (hl : l.length ≤ 140737488351232) (hk : l.length < k) : lockgateref11_In.f k l a = some (decide (a ∈ l)) := by
  unfold lockgateref11_In.f
  exact in_round l a hl l.length 0 k (by omega) (by omega) (fun i hi => by omega)

/-! ### Lap -/
theorem far_tells (k : Nat) (p q : S24) (hp : okP p = true) (hq : okP q = true) : lockgateref11_far.f (k + 1) p.f0 p.f1 p.f2 q.f0 q.f1 q.f2 = some (lapB p q) := by
  have h1 := of_decide_eq_true hp
  have h2 := of_decide_eq_true hq
  have wu : ∀ x : Int, IntKind.u64.wrap x = x % 18446744073709551616 := fun x => by unfold IntKind.wrap; rfl
  unfold lockgateref11_far.f lapB
  by_cases e1 : (p.f2.length : Int) = 0
  · rw [if_pos e1]
    simp only [lockgateref11_far.j0, if_true]
    rw [decide_eq_false (by omega)]
  · rw [if_neg e1]
    by_cases e2 : (q.f2.length : Int) = 0
    · rw [beq_iff_eq.2 e2]
      simp only [lockgateref11_far.j0, if_true]
      rw [decide_eq_false (by omega)]
    · rw [beq_eq_false_iff_ne.2 e2]
      simp only [lockgateref11_far.j0, Bool.false_eq_true, if_false, wu]
      split <;> exact congrArg some (decide_eq_decide.2 (by omega))
theorem lap_round (p q : S24) (hp : okP p = true) (hq : okP q = true) (d : Nat) : ∀ (k n : Nat), n + d = p.f2.length → 2 * d + 3 ≤ k → (∀ m : Nat, m < n → ¬ (0 ≤ p.f1 - q.f1 + m ∧ p.f1 - q.f1 + m < q.f2.length)) →
    lockgateref11_Lap.l0 k n p.f0 p.f1 p.f2 q.f0 q.f1 q.f2 = some (lapB p q) := by
  have h1 := of_decide_eq_true hp
  have h2 := of_decide_eq_true hq
  induction d with
  | zero =>
    intro k n hn hk hno
    obtain ⟨k, rfl⟩ : ∃ m, k = m + 1 := ⟨k - 1, by omega⟩
    simp only [lockgateref11_Lap.l0]
    rw [if_neg (by omega)]
    unfold lapB
    rw [decide_eq_false]
    rintro ⟨g1, g2, g3, g4⟩
    by_cases hab : p.f1 ≤ q.f1
    · exact hno (q.f1 - p.f1).toNat (by omega) (by omega)
    · exact hno 0 (by omega) (by omega)
  | succ d ih =>
    intro k n hn hk hno
    obtain ⟨k, rfl⟩ : ∃ m, k = m + 3 := ⟨k - 3, by omega⟩
    have hfar := far_tells k p q hp hq
    simp only [lockgateref11_Lap.l0]
    rw [if_pos (by omega)]
    have hj1 : ∀ x6, lockgateref11_Lap.j1 (k + 2) n x6 true p.f0 p.f1 p.f2 q.f0 q.f1 q.f2 = some (lapB p q) := by
      intro x6
      simp only [lockgateref11_Lap.j1, if_true]
      rw [hfar]
      rfl
    by_cases c1 : wrap64 (p.f1 - q.f1) > 1099511627776
    · rw [if_pos c1]; exact hj1 _
    rw [if_neg c1]
    by_cases c2 : wrap64 (p.f1 - q.f1) < (-1099511627776)
    · rw [if_pos c2]; exact hj1 _
    rw [if_neg c2]
    by_cases c3 : p.f1 > 1152921504606846976
    · rw [if_pos c3]; exact hj1 _
    rw [if_neg c3]
    by_cases c4 : p.f1 < (-1152921504606846976)
    · rw [if_pos c4]; exact hj1 _
    rw [if_neg c4]
    by_cases c5 : q.f1 > 1152921504606846976
    · rw [if_pos c5]; exact hj1 _
    rw [if_neg c5]
    by_cases c6 : q.f1 < (-1152921504606846976)
    · rw [decide_eq_true c6]; exact hj1 _
    rw [decide_eq_false c6]
    have w1 : wrap64 (p.f1 - q.f1) = p.f1 - q.f1 := by unfold wrap64; omega
    rw [w1] at c1 c2
    rw [w1]
    have w2 : wrap64 (p.f1 - q.f1 + (n : Int)) = p.f1 - q.f1 + n := by unfold wrap64; omega
    have w3 : wrap64 ((n : Int) + 1) = ((n + 1 : Nat) : Int) := by unfold wrap64; omega
    simp only [lockgateref11_Lap.j1, Bool.false_eq_true, if_false]
    rw [w2, w3]
    have hnext : (¬ (0 ≤ p.f1 - q.f1 + n ∧ p.f1 - q.f1 + n < q.f2.length)) → lockgateref11_Lap.l0 (k + 1) ((n + 1 : Nat) : Int) p.f0 p.f1 p.f2 q.f0 q.f1 q.f2 = some (lapB p q) := by
      intro hh
      refine ih (k + 1) (n + 1) (by omega) (by omega) ?_
      intro m hm
      rcases Nat.lt_or_ge m n with h | h
      · exact hno m h
      · obtain rfl : m = n := by omega
        exact hh
    by_cases g1 : p.f1 - q.f1 + (n : Int) ≥ 0
    · rw [if_pos g1]
      by_cases g2 : p.f1 - q.f1 + (n : Int) < q.f2.length
      · rw [if_pos g2]
        unfold lapB
        rw [decide_eq_true (by omega)]
      · rw [if_neg g2]
        exact hnext (by omega)
    · rw [if_neg g1]
      exact hnext (by omega)
theorem lap_any (k : Nat) (p q : S24) (hp : okP p = true) (hq : okP q = true) (hk : 2 * p.f2.length + 3 ≤ k) : lockgateref11_Lap.f k p.f0 p.f1 p.f2 q.f0 q.f1 q.f2 = some (lapB p q) := by
  unfold lockgateref11_Lap.f
  exact lap_round p q hp hq p.f2.length k 0 (by omega) hk (by intro m hm; omega)

/-! ### Safe -/
theorem gone_any_mono (l : List S24) (out : List Int) (f : S24 → Bool) {j : Nat} (h : (goneL l out j).any f = true) : ∀ i, j ≤ i → (goneL l out i).any f = true := by
  intro i
  induction i with
  | zero =>
    intro hi
    obtain rfl : j = 0 := by omega
    exact h
  | succ i ih =>
    intro hi
    by_cases e : j = i + 1
    · subst e; exact h
    · cases ho : isOut l out i with
      | true => rw [goneL_out ho, List.any_append, ih (by omega), Bool.true_or]
      | false => rw [goneL_in ho]; exact ih (by omega)
theorem rd_ok {l : List S24} (hok : l.all okP = true) {i : Nat} (hi : i < l.length) : okP (rd_T24 l i) = true := by
  refine List.all_eq_true.1 hok _ ?_
  simp only [rd_T24, Int.toNat_natCast, List.getD_eq_getElem?_getD, List.getElem?_eq_getElem hi, Option.getD_some]
  exact List.getElem_mem _
theorem safe_in (l : List S24) (out : List Int) (hok : l.all okP = true) (ho : out.length ≤ 100) (hlen : ∀ i : Nat, i < l.length → (rd_T24 l i).f2.length ≤ 5000) (hl : l.length ≤ 60) (i : Nat) (hi : i < l.length) :
    ∀ (d j k : Nat), j + d = i → 10010 ≤ k → (goneL l out j).any (lapB (rd_T24 l i)) = false →
      lockgateref11_Safe.l1 (k + 2 * d + 2) l out i false j = if (goneL l out i).any (lapB (rd_T24 l i)) = true then some false else lockgateref11_Safe.l0 k l out ((i + 1 : Nat) : Int) := by
  intro d
  induction d with
  | zero =>
    intro j k hj hk hg
    obtain rfl : j = i := by omega
    simp only [Nat.mul_zero, Nat.add_zero, lockgateref11_Safe.l1, lockgateref11_Safe.j2]
    rw [if_neg (by omega), hg]
    simp only [Bool.false_eq_true, if_false]
    rw [w64 _ (by omega)]
    rfl
  | succ d ih =>
    intro j k hj hk hg
    rw [show k + 2 * (d + 1) + 2 = (k + 2 * d + 2) + 2 by omega]
    simp only [lockgateref11_Safe.l1, lockgateref11_Safe.j2]
    rw [if_pos (by omega)]
    simp only [Bool.not_false, if_true]
    rw [if_pos (by omega), if_pos (by omega), in_any out _ _ (by omega) (by omega), Option.bind_some, if_pos (by omega), if_pos (by omega),
      lap_any _ (rd_T24 l i) (rd_T24 l j) (rd_ok hok hi) (rd_ok hok (by omega)) (by have := hlen i hi; omega), Option.bind_some, w64 _ (by omega), show ((j : Int) + 1) = ((j + 1 : Nat) : Int) by omega]
    by_cases hout : (rd_T24 l j).f0 ∈ out
    · have hio : isOut l out j = true := decide_eq_true hout
      rw [decide_eq_true hout, if_pos rfl]
      cases hlap : lapB (rd_T24 l i) (rd_T24 l j) with
      | true =>
        rw [if_pos rfl, gone_any_mono l out _ (j := j + 1) (by rw [goneL_out hio, List.any_append]; simp [hlap]) i (by omega), if_pos rfl]
      | false =>
        rw [if_neg (by simp)]
        refine ih (j + 1) k (by omega) hk ?_
        rw [goneL_out hio, List.any_append, hg]
        simp [hlap]
    · have hio : isOut l out j = false := decide_eq_false hout
      rw [decide_eq_false hout, if_neg (by simp)]
      refine ih (j + 1) k (by omega) hk ?_
      rw [goneL_in hio]
      exact hg
theorem safe_round (l : List S24) (out : List Int) (hok : l.all okP = true) (ho : out.length ≤ 100) (hlen : ∀ i : Nat, i < l.length → (rd_T24 l i).f2.length ≤ 5000) (hl : l.length ≤ 60) :
    ∀ (d i k : Nat), i + d = l.length → 10020 + d * 200 ≤ k → (∀ m : Nat, m < i → safeAt l out m = true) → lockgateref11_Safe.l0 k l out i = some ((List.range l.length).all (safeAt l out)) := by
  intro d
  induction d with
  | zero =>
    intro i k hi hk hs
    obtain ⟨k, rfl⟩ : ∃ m, k = m + 1 := ⟨k - 1, by omega⟩
    simp only [lockgateref11_Safe.l0]
    rw [if_neg (by omega)]
    exact congrArg some (List.all_eq_true.2 fun m hm => hs m (by have := List.mem_range.1 hm; omega)).symm
  | succ d ih =>
    intro i k hi hk hs
    obtain ⟨k, rfl⟩ : ∃ m, k = m + 1 := ⟨k - 1, by omega⟩
    have hnext : ∀ k, 10020 + d * 200 ≤ k → safeAt l out i = true → lockgateref11_Safe.l0 k l out ((i + 1 : Nat) : Int) = some ((List.range l.length).all (safeAt l out)) := fun k hk2 h1 => ih (i + 1) k (by omega) hk2 fun m hm => by
      rcases Nat.lt_or_ge m i with h | h
      · exact hs m h
      · obtain rfl : m = i := by omega
        exact h1
    simp only [lockgateref11_Safe.l0]
    rw [if_pos (by omega), if_pos (by omega), in_any out _ _ (by omega) (by omega), Option.bind_some]
    by_cases hout : (rd_T24 l i).f0 ∈ out
    · have hio : isOut l out i = true := decide_eq_true hout
      rw [decide_eq_true hout]
      obtain ⟨k, rfl⟩ : ∃ m, k = m + 2 := ⟨k - 2, by omega⟩
      have := hnext k (by omega) (by unfold safeAt; rw [hio]; rfl)
      simp only [lockgateref11_Safe.l1, lockgateref11_Safe.j2, Bool.not_true, Bool.false_eq_true, if_false]
      rw [w64 _ (by omega), show ((i : Int) + 1) = ((i + 1 : Nat) : Int) by omega, this]
      split <;> rfl
    · have hio : isOut l out i = false := decide_eq_false hout
      rw [decide_eq_false hout]
      obtain ⟨k, rfl⟩ : ∃ m, k = m + 2 * i + 2 := ⟨k - 2 * i - 2, by omega⟩
      have := safe_in l out hok ho hlen hl i (by omega) i 0 k (by omega) (by omega) rfl
      rw [show (0 : Int) = ((0 : Nat) : Int) from rfl, this]
      cases hg : (goneL l out i).any (lapB (rd_T24 l i)) with
      | true =>
        rw [if_pos rfl]
        refine congrArg some (List.all_eq_false.2 ⟨i, List.mem_range.2 (by omega), ?_⟩).symm
        unfold safeAt
        rw [hio, hg]
        simp
      | false =>
        rw [if_neg (by simp)]
        exact hnext k (by omega) (by unfold safeAt; rw [hio, hg]; rfl)
theorem refSafe_tells (l : List S24) (out : List Int) (hok : l.all okP = true) (ho : out.length ≤ 100) (hlen : ∀ i : Nat, i < l.length → (rd_T24 l i).f2.length ≤ 5000) (hl : l.length ≤ 60) :
    ∃ k, lockgateref11_Safe.f k l out = some ((List.range l.length).all (safeAt l out)) :=
  ⟨10020 + l.length * 200, safe_round l out hok ho hlen hl l.length 0 _ (by omega) (Nat.le_refl _) (fun m hm => by omega)⟩

/-! ### Apply -/
def cutP (p : S24) (j : Nat) : S24 := ⟨p.f0, p.f1, p.f2.take j⟩
theorem stepP_cut (b : List Int) (p : S24) (j : Nat) (hj : j < p.f2.length) : stepP b (cutP p (j + 1)) = if 0 ≤ p.f1 + j ∧ p.f1 + j < b.length then (stepP b (cutP p j)).set (p.f1 + j).toNat (rd p.f2 j) else stepP b (cutP p j) := by
  have hl1 : (cutP p (j + 1)).f2.length = j + 1 := by simp [cutP]; omega
  have hl0 : (cutP p j).f2.length = j := by simp [cutP]; omega
  have hf : ∀ m, (cutP p m).f1 = p.f1 := fun _ => rfl
  have hrd : rd p.f2 j = p.f2[j]?.getD 0 := by simp only [rd, Int.toNat_natCast, List.getD_eq_getElem?_getD]
  have hg : ∀ m i : Nat, i < m → (cutP p m).f2[i]? = p.f2[i]? := fun m i hi => by simp only [cutP, List.getElem?_take, if_pos hi]
  split
  · rename_i h
    refine list_at (by simp only [List.length_set, stepP_length]) fun i hi => ?_
    simp only [stepP_length] at hi
    rw [stepP_at _ _ _ hi, List.getElem?_set, hl1, hf]
    by_cases e : (p.f1 + j).toNat = i
    · rw [if_pos (show p.f1 ≤ i ∧ (i : Int) - p.f1 < ((j + 1 : Nat) : Int) from by omega), if_pos e, if_pos (by rw [stepP_length]; omega), Option.getD_some, hrd, hg _ _ (by omega), show ((i : Int) - p.f1).toNat = j by omega]
    · rw [if_neg e, stepP_at _ _ _ hi, hl0, hf]
      by_cases c : p.f1 ≤ i ∧ (i : Int) - p.f1 < j
      · rw [if_pos c, if_pos (by omega), hg _ _ (by omega), hg _ _ (by omega)]
      · rw [if_neg c, if_neg (by omega)]
  · rename_i h
    refine list_at (by simp only [stepP_length]) fun i hi => ?_
    simp only [stepP_length] at hi
    rw [stepP_at _ _ _ hi, stepP_at _ _ _ hi, hl1, hl0, hf, hf]
    by_cases c : p.f1 ≤ i ∧ (i : Int) - p.f1 < j
    · rw [if_pos c, if_pos (by omega), hg _ _ (by omega), hg _ _ (by omega)]
    · rw [if_neg c, if_neg (by omega)]
theorem stepP_none (b : List Int) (p : S24) : stepP b (cutP p 0) = b := by
  refine list_at (stepP_length _ _) fun i hi => ?_
  rw [stepP_length] at hi
  rw [stepP_at _ _ _ hi, if_neg (by simp [cutP])]
theorem cutP_all (p : S24) : cutP p p.f2.length = p := by simp [cutP]
theorem apply_in (l : List S24) (out : List Int) (b : List Int) (hb : b.length ≤ 3000) (i : Nat) (hi : i < l.length) (hl : l.length ≤ 60) (hok : okP (rd_T24 l i) = true) (hlen : (rd_T24 l i).f2.length ≤ 5000) :
    ∀ (d j k : Nat), j + d = (rd_T24 l i).f2.length → lockgateref11_Apply.l1 (k + d + 1) l out (stepP b (cutP (rd_T24 l i) j)) i j = lockgateref11_Apply.l0 k l out (stepP b (rd_T24 l i)) ((i + 1 : Nat) : Int) := by
  have h1 := of_decide_eq_true hok
  intro d
  induction d with
  | zero =>
    intro j k hj
    obtain rfl : j = (rd_T24 l i).f2.length := by omega
    simp only [lockgateref11_Apply.l1, Nat.add_zero]
    rw [if_pos (by omega), if_pos (by omega), if_neg (by omega), w64 _ (by omega), cutP_all]
    rfl
  | succ d ih =>
    intro j k hj
    have hn := ih (j + 1) k (by omega)
    rw [stepP_cut b _ j (by omega)] at hn
    rw [show k + (d + 1) + 1 = (k + d + 1) + 1 by omega]
    generalize k + d + 1 = kk at hn ⊢
    simp only [lockgateref11_Apply.l1, stepP_length]
    rw [if_pos (by omega), if_pos (by omega), if_pos (by omega), w64 ((j : Int) + 1) (by omega), show ((j : Int) + 1) = ((j + 1 : Nat) : Int) by omega]
    by_cases c1 : (rd_T24 l i).f1 ≥ 0
    · rw [if_pos c1]
      by_cases c2 : (rd_T24 l i).f1 < (b.length : Int)
      · rw [if_pos c2, w64 ((b.length : Int) - (rd_T24 l i).f1) (by omega)]
        by_cases c3 : (j : Int) < (b.length : Int) - (rd_T24 l i).f1
        · rw [if_pos c3, w64 ((rd_T24 l i).f1 + j) (by omega), if_pos (by omega), if_pos (by omega), if_pos (by omega)]
          rw [if_pos (by omega)] at hn
          exact hn
        · rw [if_neg c3, if_neg (by omega)]
          rw [if_neg (by omega)] at hn
          exact hn
      · rw [if_neg c2, if_neg (by omega)]
        rw [if_neg (by omega)] at hn
        exact hn
    · rw [if_neg c1, if_pos (by omega)]
      by_cases c2 : (rd_T24 l i).f1 > -1099511627776
      · rw [if_pos c2, w64 ((rd_T24 l i).f1 + j) (by omega)]
        by_cases c3 : (rd_T24 l i).f1 + (j : Int) ≥ 0
        · rw [if_pos c3]
          by_cases c4 : (rd_T24 l i).f1 + (j : Int) < (b.length : Int)
          · rw [if_pos c4, if_pos (by omega), if_pos (by omega)]
            rw [if_pos (by omega)] at hn
            exact hn
          · rw [if_neg c4]
            rw [if_neg (by omega)] at hn
            exact hn
        · rw [if_neg c3]
          rw [if_neg (by omega)] at hn
          exact hn
      · rw [if_neg c2]
        rw [if_neg (by omega)] at hn
        exact hn
set_option maxRecDepth 20000 in
theorem apply_round (l : List S24) (out b : List Int) (hb : b.length ≤ 3000) (hok : l.all okP = true) (ho : out.length ≤ 100) (hlen : ∀ i : Nat, i < l.length → (rd_T24 l i).f2.length ≤ 5000) (hl : l.length ≤ 60) :
    ∀ (d i k : Nat), i + d = l.length → 200 + d * 5200 ≤ k → lockgateref11_Apply.l0 k l out (applyL b l (keptIdx l out i)) i = some (applyL b l (keptIdx l out l.length)) := by
  intro d
  induction d with
  | zero =>
    intro i k hi hk
    obtain rfl : i = l.length := by omega
    obtain ⟨k, rfl⟩ : ∃ m, k = m + 1 := ⟨k - 1, by omega⟩
    simp only [lockgateref11_Apply.l0]
    rw [if_neg (by omega)]
  | succ d ih =>
    intro i k hi hk
    obtain ⟨k, rfl⟩ : ∃ m, k = m + 1 := ⟨k - 1, by omega⟩
    simp only [lockgateref11_Apply.l0]
    rw [if_pos (by omega), if_pos (by omega), in_any out _ _ (by omega) (by omega), Option.bind_some]
    by_cases hout : (rd_T24 l i).f0 ∈ out
    · have hio : isOut l out i = true := decide_eq_true hout
      have := ih (i + 1) k (by omega) (by omega)
      rw [keptIdx_snoc, hio, if_pos rfl, List.append_nil] at this
      rw [decide_eq_true hout, if_pos rfl, w64 _ (by omega)]
      exact this
    · have hio : isOut l out i = false := decide_eq_false hout
      have h5 := hlen i (by omega)
      obtain ⟨k, rfl⟩ : ∃ m, k = m + (rd_T24 l i).f2.length + 1 := ⟨k - (rd_T24 l i).f2.length - 1, by omega⟩
      have := ih (i + 1) k (by omega) (by omega)
      rw [keptIdx_snoc, hio, if_neg (by simp), applyL_snoc] at this
      have h6 := apply_in l out (applyL b l (keptIdx l out i)) (by rw [applyL_length]; exact hb) i (by omega) hl (rd_ok hok (by omega)) h5 (rd_T24 l i).f2.length 0 k (by omega)
      rw [stepP_none, this] at h6
      rw [decide_eq_false hout, if_neg (by simp)]
      exact h6
theorem refApply_tells (l : List S24) (out b : List Int) (hb : b.length ≤ 3000) (hok : l.all okP = true) (ho : out.length ≤ 100) (hlen : ∀ i : Nat, i < l.length → (rd_T24 l i).f2.length ≤ 5000) (hl : l.length ≤ 60) :
    ∃ k, lockgateref11_Apply.f k b l out = some (applyL b l (keptIdx l out l.length)) := by
  refine ⟨200 + l.length * 5200, ?_⟩
  unfold lockgateref11_Apply.f
  rw [if_pos (by simp; omega), List.nil_append]
  exact apply_round l out b hb hok ho hlen hl l.length 0 _ (by omega) (Nat.le_refl _)
end Go.Proofs.Ytemachlhoanngaa.Given
