/- PatchOver: of changes of one place the last one that is made stands; for every row of bytes and every row of numbers; no condition. -/
import Derived.Test.YtemachlhoanngaaPPatchOverx1
namespace Go.Proofs.Ytemachlhoanngaa.Pure
open Go.RowKit Go.Proofs.Ytemachlhoanngaa.PPatchOver Go.Proofs.Ytemachlhoanngaa.Given Go.Proofs.YtemachlhoanngaaW.PrintWords Go.Proofs.YtemachlhoanngaaW.PrintLast
set_option linter.unusedSimpArgs false
set_option linter.unusedVariables false

/-- the changes of the law: each byte at place 1 -/
def pL (l : List Int) (n : Nat) : List S24 := (List.range n).map (fun (i : Nat) => (⟨(i : Int), 1, [rd l (i : Int)]⟩ : S24))
theorem pL_length (l : List Int) (n : Nat) : (pL l n).length = n := by simp [pL]
theorem pL_snoc (l : List Int) (n : Nat) : pL l (n + 1) = pL l n ++ [⟨(n : Int), 1, [rd l n]⟩] := by simp [pL, List.range_succ]
theorem pL_rd (l : List Int) (n j : Nat) (h : j < n) : rd_T24 (pL l n) j = ⟨(j : Int), 1, [rd l j]⟩ := by
  simp only [rd_T24, pL, Int.toNat_natCast, List.getD_eq_getElem?_getD, List.getElem?_map, List.getElem?_range h, Option.map_some, Option.getD_some]

/-- what stands at the place behind the first n changes -/
def want (l out : List Int) : Nat → Int
  | 0 => 77
  | n + 1 => if (n : Int) ∈ out then want l out n else rd l n

theorem loop0 (l out : List Int) (n : Nat) (hn : n = l.length) (h50 : n ≤ 50) : ∀ (d j k : Nat), j + d = n → lockgatelaw14_PatchOver.l0 (k + d + 1) l out (pL l j) j = lockgatelaw14_PatchOver.l1 k l out (pL l n) 77 0 := by
  intro d
  induction d with
  | zero =>
    intro j k hj
    obtain rfl : j = n := by omega
    simp only [lockgatelaw14_PatchOver.l0, Nat.add_zero]
    rw [if_neg (by omega)]
  | succ d ih =>
    intro j k hj
    have := ih (j + 1) k (by omega)
    rw [show k + (d + 1) + 1 = (k + d + 1) + 1 by omega]
    simp only [lockgatelaw14_PatchOver.l0]
    rw [if_pos (by omega), if_pos (by omega), if_pos (by rw [pL_length]; omega), w64 _ (by omega)]
    rw [pL_snoc] at this
    rw [show ((j : Int) + 1) = ((j + 1 : Nat) : Int) by omega]
    exact this

/-- is a number among the first n? -/
def among (out : List Int) (a : Int) : Nat → Bool
  | 0 => false
  | n + 1 => among out a n || (rd out n == a)
theorem among_all (out : List Int) (a : Int) : among out a out.length = decide (a ∈ out) := by
  have key : ∀ n, n ≤ out.length → among out a n = decide (a ∈ out.take n) := by
    intro n
    induction n with
    | zero => intro _; simp [among]
    | succ n ih =>
      intro hn
      rw [among, ih (by omega), List.take_succ_eq_append_getElem (by omega)]
      have e : rd out n = out[n] := by
        simp only [rd, Int.toNat_natCast, List.getD_eq_getElem?_getD, List.getElem?_eq_getElem (show n < out.length by omega), Option.getD_some]
      rw [e]
      by_cases h1 : a ∈ out.take n
      · rw [decide_eq_true h1, Bool.true_or]
        exact (decide_eq_true (List.mem_append_left _ h1)).symm
      · rw [decide_eq_false h1, Bool.false_or]
        by_cases h2 : out[n] = a
        · rw [h2, beq_self_eq_true]
          exact (decide_eq_true (List.mem_append_right _ (by simp))).symm
        · rw [beq_eq_false_iff_ne.2 h2]
          refine (decide_eq_false fun hm => ?_).symm
          rcases List.mem_append.1 hm with h | h
          · exact h1 h
          · exact h2 (List.mem_singleton.1 h).symm
  rw [key _ (Nat.le_refl _), List.take_length]

theorem loop2 (l out : List Int) (P : List S24) (x : Int) (i : Nat) (hi : i < l.length) (h50 : out.length ≤ 50) : ∀ (d j k : Nat), j + d = out.length →
    lockgatelaw14_PatchOver.l2 (k + d + 1) l out P x i (among out i j) j = lockgatelaw14_PatchOver.l1 k l out P (if (i : Int) ∈ out then x else rd l i) (wrap64 ((i : Int) + 1)) := by
  intro d
  induction d with
  | zero =>
    intro j k hj
    obtain rfl : j = out.length := by omega
    simp only [lockgatelaw14_PatchOver.l2, Nat.add_zero]
    rw [if_neg (by omega), among_all]
    by_cases h : (i : Int) ∈ out
    · rw [if_pos h, decide_eq_true h, if_pos rfl]
    · rw [if_neg h, decide_eq_false h, if_neg (by simp), if_pos (by omega), if_pos (by omega)]
  | succ d ih =>
    intro j k hj
    have := ih (j + 1) k (by omega)
    rw [show k + (d + 1) + 1 = (k + d + 1) + 1 by omega]
    simp only [lockgatelaw14_PatchOver.l2]
    rw [if_pos (by omega), w64 ((j : Int) + 1) (by omega), show ((j : Int) + 1) = ((j + 1 : Nat) : Int) by omega]
    rw [among] at this
    cases h : among out i j with
    | true =>
      rw [h, Bool.true_or] at this
      rw [if_pos rfl]
      exact this
    | false =>
      rw [h, Bool.false_or] at this
      rw [if_neg (by simp), if_pos (by omega)]
      exact this

theorem step_one (i x v : Int) : stepP [1, x, 3] ⟨i, 1, [v]⟩ = [1, v, 3] := by
  unfold stepP
  rw [if_neg (by simp), if_neg (by simp)]
  rfl
theorem kept_snoc (l1 : List S24) (l2 : List Int) (k : Nat) : keptIdx l1 l2 (k + 1) = keptIdx l1 l2 k ++ (if isOut l1 l2 k = true then [] else [k]) := by
  unfold keptIdx
  rw [List.range_succ, List.filter_append]
  congr 1
  cases h : isOut l1 l2 k <;> simp [h]
theorem apply_want (l out : List Int) (n : Nat) : ∀ j, j ≤ n → applyL [1, 77, 3] (pL l n) (keptIdx (pL l n) out j) = [1, want l out j, 3] := by
  intro j
  induction j with
  | zero => intro _; rfl
  | succ j ih =>
    intro hj
    rw [kept_snoc]
    have hr := pL_rd l n j (by omega)
    have hio : isOut (pL l n) out j = decide ((j : Int) ∈ out) := by unfold isOut; rw [hr]
    rw [hio, want]
    by_cases h : (j : Int) ∈ out
    · rw [decide_eq_true h, if_pos rfl, if_pos h, List.append_nil]
      exact ih (by omega)
    · rw [decide_eq_false h, if_neg (by simp), if_neg h, applyL_snoc, ih (by omega), hr, step_one]

theorem apply_tells (l out : List Int) (n : Nat) (hn : n ≤ 50) (ho : out.length ≤ 50) : patch_Apply.f [1, 77, 3] (pL l n) out = some [1, want l out n, 3] := by
  unfold patch_Apply.f
  rw [if_pos ⟨by simp, by rw [pL_length]; omega, by omega, by
    rw [List.all_eq_true]
    intro p hp
    simp only [pL, List.mem_map] at hp
    obtain ⟨i, _, rfl⟩ := hp
    simp [okP]⟩, pL_length, apply_want l out n n (Nat.le_refl _)]

theorem loop1 (l out : List Int) (n : Nat) (hn : n = l.length) (h50 : n ≤ 50) (ho : out.length ≤ 50) : ∀ (d j : Nat), j + d = n →
    lockgatelaw14_PatchOver.l1 (d * (out.length + 2) + 1) l out (pL l n) (want l out j) j = some true := by
  intro d
  induction d with
  | zero =>
    intro j hj
    obtain rfl : j = n := by omega
    simp only [lockgatelaw14_PatchOver.l1, Nat.zero_mul, Nat.zero_add]
    rw [if_neg (by omega), apply_tells l out j h50 ho, Option.bind_some]
    simp [rd]
  | succ d ih =>
    intro j hj
    rw [show (d + 1) * (out.length + 2) + 1 = (d * (out.length + 2) + 1 + out.length + 1) + 1 by rw [Nat.add_mul]; omega]
    simp only [lockgatelaw14_PatchOver.l1]
    rw [if_pos (by omega)]
    have := loop2 l out (pL l n) (want l out j) j (by omega) ho out.length 0 (d * (out.length + 2) + 1) (by omega)
    rw [among] at this
    refine this.trans ?_
    rw [w64 _ (by omega)]
    have := ih (j + 1) (by omega)
    rw [want] at this
    rw [show ((j : Int) + 1) = ((j + 1 : Nat) : Int) by omega]
    exact this

theorem PatchOver : lockgatelaw14_PatchOver.Pure := by
  intro l out _ _ _ _ _ _
  by_cases h1 : (l.length : Int) > 50
  · refine ⟨1, ?_⟩
    unfold lockgatelaw14_PatchOver.f
    rw [show lockgatelaw14_alive.f = some true from rfl, Option.bind_some, if_pos rfl, if_pos h1]
    rfl
  by_cases h2 : (out.length : Int) > 50
  · refine ⟨1, ?_⟩
    unfold lockgatelaw14_PatchOver.f
    rw [show lockgatelaw14_alive.f = some true from rfl, Option.bind_some, if_pos rfl, if_neg h1, decide_eq_true h2]
    rfl
  refine ⟨(l.length * (out.length + 2) + 1) + l.length + 1 + 1, ?_⟩
  unfold lockgatelaw14_PatchOver.f
  rw [show lockgatelaw14_alive.f = some true from rfl, Option.bind_some, if_pos rfl, if_neg h1, decide_eq_false h2]
  simp only [lockgatelaw14_PatchOver.j0, Bool.false_eq_true, if_false]
  have := loop0 l out l.length rfl (by omega) l.length 0 (l.length * (out.length + 2) + 1) (by omega)
  refine this.trans ?_
  exact loop1 l out l.length rfl (by omega) (by omega) l.length 0 (by omega)

end Go.Proofs.Ytemachlhoanngaa.Pure
