/- SuperReads: what any bytes are as a superblock, or that they are none; no byte of one may be another; for every row of bytes, geometry, place and byte; no condition. -/
import Derived.Test.YthlpcfjnpagokaaPlainSuperReads
namespace Go.Proofs.Ythlpcfjnpagokaa.Pure
open Go.RowKit Go.Proofs.Ythlpcfjnpagokaa.PSuperReads Go.Proofs.Ythlpcfjnpagokaa.Given Go.Proofs.YthlpcfjnpagokaaW.PrintWords Go.Proofs.YthlpcfjnpagokaaW.PrintLast Go.Proofs.Ythlpcfjnpagokaa.PlainSuperReads
set_option linter.unusedVariables false
set_option linter.unusedSimpArgs false

theorem num_step (k : Nat) (l : List Int) (a : Nat) (ha : a ≤ 100) (x7 : Int) (j : Nat) (v : Int) (hv : 0 ≤ v ∧ v < 256) (hrd : rd l ((a + j : Nat) : Int) = v) (hl : a + 4 ≤ l.length) (hi : j < 4) (h7 : 0 ≤ x7 ∧ x7 < 16777216) :
    lockgateref1_num.l0 (k + 1) l (a : Int) x7 (j : Int) = lockgateref1_num.l0 k l (a : Int) (x7 * 256 + v) ((j : Int) - 1) := by
  have w1 : wrap64 ((a : Int) + (j : Int)) = ((a + j : Nat) : Int) := by unfold wrap64; omega
  have w2 : wrap64 (x7 * 256) = x7 * 256 := by unfold wrap64; omega
  have w3 : wrap64 v = v := by unfold wrap64; omega
  have w4 : wrap64 ((j : Int) - 1) = (j : Int) - 1 := by unfold wrap64; omega
  have ho := or_high 8 (x7 * 256) v (by omega) (by omega) (by omega) (by omega) (by omega) (by omega)
  simp only [lockgateref1_num.l0]
  rw [w1, w2, w4, hrd, w3, ho, if_pos (by omega), if_pos (by omega), if_pos (by omega)]
theorem num_end (k : Nat) (l : List Int) (a x7 x8 : Int) (h : x8 = -1) : lockgateref1_num.l0 (k + 1) l a x7 x8 = some x7 := by
  subst h
  simp only [lockgateref1_num.l0]
  rw [if_neg (by omega)]
theorem num_at (k : Nat) (l : List Int) (hb : ∀ x ∈ l, 0 ≤ x ∧ x < 256) (a : Nat) (ha : a ≤ 100) (hl : a + 4 ≤ l.length) : lockgateref1_num.f (k + 5) l (a : Int) 4 = some (numAt l a) := by
  unfold lockgateref1_num.f
  obtain ⟨b0, r0⟩ : ∃ b, rd l ((a + 0 : Nat) : Int) = b := ⟨_, rfl⟩
  obtain ⟨b1, r1⟩ : ∃ b, rd l ((a + 1 : Nat) : Int) = b := ⟨_, rfl⟩
  obtain ⟨b2, r2⟩ : ∃ b, rd l ((a + 2 : Nat) : Int) = b := ⟨_, rfl⟩
  obtain ⟨b3, r3⟩ : ∃ b, rd l ((a + 3 : Nat) : Int) = b := ⟨_, rfl⟩
  have h0 := rd_rng hb (a + 0)
  have h1 := rd_rng hb (a + 1)
  have h2 := rd_rng hb (a + 2)
  have h3 := rd_rng hb (a + 3)
  rw [r0] at h0
  rw [r1] at h1
  rw [r2] at h2
  rw [r3] at h3
  have e3 := num_step (k + 4) l a ha 0 3 b3 h3 r3 hl (by omega) (by omega)
  have e2 := num_step (k + 3) l a ha (0 * 256 + b3) 2 b2 h2 r2 hl (by omega) (by omega)
  have e1 := num_step (k + 2) l a ha ((0 * 256 + b3) * 256 + b2) 1 b1 h1 r1 hl (by omega) (by omega)
  have e0 := num_step (k + 1) l a ha (((0 * 256 + b3) * 256 + b2) * 256 + b1) 0 b0 h0 r0 hl (by omega) (by omega)
  rw [show wrap64 (4 - 1) = ((3 : Nat) : Int) from by decide +kernel, e3, show ((3 : Nat) : Int) - 1 = ((2 : Nat) : Int) from rfl, e2, show ((2 : Nat) : Int) - 1 = ((1 : Nat) : Int) from rfl, e1, show ((1 : Nat) : Int) - 1 = ((0 : Nat) : Int) from rfl, e0, num_end k _ _ _ _ (by rfl)]
  refine congrArg some ?_
  unfold numAt val4
  have r0' : rd l (a : Int) = b0 := r0
  rw [r0', r1, r2, r3]
  omega
theorem ref_read (k : Nat) (hk : 100 ≤ k) (l : List Int) (hb : ∀ x ∈ l, 0 ≤ x ∧ x < 256) : (IsSuper l → lockgateref1_ReadSuper.f (k + 5) l = some (numAt l 8, numAt l 12, numAt l 16, true)) ∧ (¬ IsSuper l → lockgateref1_ReadSuper.f (k + 5) l = some (0, 0, 0, false)) := by
  unfold lockgateref1_ReadSuper.f
  by_cases h1 : l.length = 1024
  · have e1 := num_at k l hb 8 (by omega) (by omega)
    have e2 := num_at k l hb 12 (by omega) (by omega)
    have e3 := num_at k l hb 16 (by omega) (by omega)
    have e1' : lockgateref1_num.f (k + 5) l 8 4 = _ := e1
    have e2' : lockgateref1_num.f (k + 5) l 12 4 = _ := e2
    have e3' : lockgateref1_num.f (k + 5) l 16 4 = _ := e3
    rw [if_pos (by omega), e1', Option.bind_some, e2', Option.bind_some, e3', Option.bind_some, good_is, Option.bind_some]
    by_cases h2 : Fine (numAt l 8) (numAt l 12) (numAt l 16)
    · rw [decide_eq_true h2, if_pos rfl, packSuper _ _ _ (k + 5) (by omega), Option.bind_some]
      by_cases h3 : (strOfNums (superBytes (numAt l 8) (numAt l 12) (numAt l 16))).toList = (strOfNums l).toList
      · have h4 := str_inj (bytes_rng _ _ _) hb h3
        rw [if_pos h3]
        exact ⟨fun _ => rfl, fun h => absurd ⟨h1, h2, h4⟩ h⟩
      · rw [if_neg h3]
        exact ⟨fun h => absurd (by rw [h.2.2]) h3, fun _ => rfl⟩
    · rw [decide_eq_false h2, if_neg (by simp)]
      exact ⟨fun h => absurd h.2.1 h2, fun _ => rfl⟩
  · rw [if_neg (by omega)]
    exact ⟨fun h => absurd h.1 h1, fun _ => rfl⟩

/-! one byte of a superblock is another: it is none -/
theorem get_body (g i d : Int) (j : Nat) (h : j < 20) : (superBytes g i d)[j]? = (superBody g i d)[j]? := by
  unfold superBytes
  rw [List.append_assoc, List.getElem?_append_left (by rw [body_len]; exact h)]
theorem get_rest (g i d : Int) (j : Nat) (h : 20 ≤ j) : (superBytes g i d)[j]? = (num4 (superBody g i d).sum ++ List.replicate 1000 0)[j - 20]? := by
  unfold superBytes
  rw [List.append_assoc, List.getElem?_append_right (by rw [body_len]; exact h), body_len]
theorem num4_inj {a b : Int} (ha : 0 ≤ a ∧ a < 10000) (hb : 0 ≤ b ∧ b < 10000) (h : num4 a = num4 b) : a = b := by
  simp only [num4, List.cons.injEq] at h
  omega
theorem sum_set : ∀ (l : List Int) (j : Nat) (v x : Int), l[j]? = some x → (l.set j v).sum = l.sum - x + v
  | [], j, v, x, h => by simp at h
  | y :: l, 0, v, x, h => by
    obtain rfl : y = x := by simpa using h
    simp only [List.set_cons_zero, List.sum_cons]
    omega
  | y :: l, j + 1, v, x, h => by
    have ih := sum_set l j v x (by simpa using h)
    simp only [List.set_cons_succ, List.sum_cons, ih]
    omega
theorem spoilt (g i d : Int) (at_ : Nat) (hat : at_ < 1024) (x v : Int) (hx : (superBytes g i d)[at_]? = some x) (hv : v ≠ x) : ¬ IsSuper ((superBytes g i d).set at_ v) := by
  rintro ⟨_, _, h3⟩
  generalize numAt ((superBytes g i d).set at_ v) 8 = g' at h3
  generalize numAt ((superBytes g i d).set at_ v) 12 = i' at h3
  generalize numAt ((superBytes g i d).set at_ v) 16 = d' at h3
  have hget : ∀ j : Nat, (superBytes g' i' d')[j]? = if at_ = j then (if at_ < (superBytes g i d).length then some v else none) else (superBytes g i d)[j]? := by
    intro j
    rw [h3, List.getElem?_set]
  have hv' : (superBytes g' i' d')[at_]? = some v := by
    rw [hget, if_pos rfl, if_pos (by rw [bytes_len]; exact hat)]
  by_cases h20 : at_ < 20
  · -- the sums' bytes are the same, so the sums are
    have hn : num4 (superBody g' i' d').sum = num4 (superBody g i d).sum := by
      apply List.ext_getElem?
      intro j
      rcases Nat.lt_or_ge j 4 with hj | hj
      · have := hget (20 + j)
        rw [if_neg (by omega), get_rest _ _ _ _ (by omega), get_rest _ _ _ _ (by omega), Nat.add_sub_cancel_left, List.getElem?_append_left (by simp [num4]; omega), List.getElem?_append_left (by simp [num4]; omega)] at this
        exact this
      · rw [List.getElem?_eq_none (by simp [num4]; omega), List.getElem?_eq_none (by simp [num4]; omega)]
    have hs := num4_inj (sum_small g' i' d') (sum_small g i d) hn
    have hbody : superBody g' i' d' = (superBody g i d).set at_ v := by
      apply List.ext_getElem?
      intro j
      rcases Nat.lt_or_ge j 20 with hj | hj
      · have := hget j
        rw [get_body _ _ _ _ hj, get_body _ _ _ _ hj] at this
        rw [this, List.getElem?_set]
        by_cases he : at_ = j
        · rw [if_pos he, if_pos he, if_pos (by rw [bytes_len]; exact hat), if_pos (by rw [body_len]; exact h20)]
        · rw [if_neg he, if_neg he]
      · rw [List.getElem?_eq_none (by rw [body_len]; exact hj), List.getElem?_eq_none (by rw [List.length_set, body_len]; exact hj)]
    rw [get_body _ _ _ _ h20] at hx
    have := sum_set _ _ v x hx
    rw [← hbody] at this
    omega
  · have hbody : superBody g' i' d' = superBody g i d := by
      apply List.ext_getElem?
      intro j
      rcases Nat.lt_or_ge j 20 with hj | hj
      · have := hget j
        rw [get_body _ _ _ _ hj, if_neg (by omega), get_body _ _ _ _ hj] at this
        exact this
      · rw [List.getElem?_eq_none (by rw [body_len]; exact hj), List.getElem?_eq_none (by rw [body_len]; exact hj)]
    rw [get_rest _ _ _ _ (by omega), hbody, ← get_rest _ _ _ _ (by omega), hx] at hv'
    exact hv (Option.some.inj hv').symm

theorem xor_ne (x y : Int) (hx : 0 ≤ x ∧ x < 256) (hy : 0 ≤ y ∧ y < 256) (h : y ≠ 0) : Go.bits .xor .u8 x y ≠ x ∧ 0 ≤ Go.bits .xor .u8 x y ∧ Go.bits .xor .u8 x y < 256 := by
  rw [u8_xor x y hx.1 hx.2 hy.1 hy.2]
  have hlt : x.toNat ^^^ y.toNat < 2 ^ 8 := Nat.xor_lt_two_pow (by omega) (by omega)
  refine ⟨fun e => ?_, by omega, by omega⟩
  have e1 : x.toNat ^^^ y.toNat = x.toNat := by omega
  have e2 : x.toNat ^^^ (x.toNat ^^^ y.toNat) = x.toNat ^^^ x.toNat := by rw [e1]
  rw [← Nat.xor_assoc, Nat.xor_self, Nat.zero_xor] at e2
  omega

theorem SuperReads : ∀ (l0 : (List Int)) (a1_0 : Int) (a1_1 : Int) (a1_2 : Int) (a2 : Int) (a3 : Int), (l0.length ≤ maxLen ∧ ∀ y ∈ l0, (Lit.int .u8 y).wf = true) → (Lit.int .i64 a1_0).wf = true → (Lit.int .i64 a1_1).wf = true → (Lit.int .i64 a1_2).wf = true → (Lit.int .i64 a2).wf = true → (Lit.int .u8 a3).wf = true → ∃ k, lockgatelaw4_SuperReads.f k l0 a1_0 a1_1 a1_2 a2 a3 = some true := by
  intro l g i d at_ by_ hl0 _ _ _ _ hb3
  have hb : ∀ x ∈ l, 0 ≤ x ∧ x < 256 := fun x hx => by have := bounds_u8 (hl0.2 x hx); omega
  have hby : 0 ≤ by_ ∧ by_ < 256 := by have := bounds_u8 hb3; omega
  obtain ⟨K, hK⟩ : ∃ K : Nat, 200 ≤ K := ⟨200, Nat.le_refl _⟩
  have hlast : lockgatelaw4_SuperReads.j1 (K + 8) at_ by_ false g i d = some true := by
    have hskip : lockgatelaw4_SuperReads.j2 (K + 7) at_ by_ true g i d = some true := by simp only [lockgatelaw4_SuperReads.j2, if_true]
    simp only [lockgatelaw4_SuperReads.j1, Bool.false_eq_true, if_false]
    rw [good_is, Option.bind_some]
    by_cases hf : Fine g i d
    · rw [decide_eq_true hf, if_pos rfl]
      by_cases c1 : at_ < 0
      · rw [if_pos c1]; exact hskip
      rw [if_neg c1]
      by_cases c2 : at_ ≥ 1024
      · rw [if_pos c2]; exact hskip
      rw [if_neg c2]
      by_cases c3 : by_ = 0
      · rw [beq_iff_eq.2 c3]; exact hskip
      · rw [beq_eq_false_iff_ne.2 c3]
        simp only [lockgatelaw4_SuperReads.j2, Bool.false_eq_true, if_false]
        have hlen : ((superBytes g i d).length : Int) = 1024 := by rw [bytes_len]; rfl
        obtain ⟨n, rfl⟩ : ∃ n : Nat, at_ = n := ⟨at_.toNat, by omega⟩
        have hn : n < 1024 := by omega
        have hx := rd_rng (bytes_rng g i d) n
        obtain ⟨x, hxx⟩ : ∃ x, rd (superBytes g i d) (n : Int) = x := ⟨_, rfl⟩
        rw [hxx] at hx
        obtain ⟨hne, h1, h2⟩ := xor_ne x by_ hx hby c3
        have hget : (superBytes g i d)[n]? = some x := by
          rw [← hxx]
          unfold rd
          rw [Int.toNat_natCast, List.getD_eq_getElem?_getD, List.getElem?_eq_getElem (by rw [bytes_len]; exact hn)]
          rfl
        rw [packSuper g i d (K + 6) (by omega), Option.bind_some, if_pos (by omega), if_pos (by omega), Int.toNat_natCast, hxx]
        rw [show K + 6 = (K + 1) + 5 from by omega, read_no (K + 1) _ (fun y hy => by
          rcases List.mem_or_eq_of_mem_set hy with h | h
          · exact bytes_rng g i d y h
          · rw [h]; exact ⟨h1, h2⟩) (spoilt g i d n hn x _ hget hne)]
        rfl
    · rw [decide_eq_false hf, if_neg (by simp)]
      exact hskip
  refine ⟨K + 9, ?_⟩
  unfold lockgatelaw4_SuperReads.f
  have ha := alive_is (K + 4)
  rw [show K + 4 + 5 = K + 9 from by omega] at ha
  rw [ha, Option.bind_some, if_pos rfl]
  by_cases h1 : (l.length : Int) > 3000
  · rw [decide_eq_true h1]; simp only [lockgatelaw4_SuperReads.j0, if_true]
  rw [decide_eq_false h1]
  simp only [lockgatelaw4_SuperReads.j0, Bool.false_eq_true, if_false]
  obtain ⟨r1, r2⟩ := ref_read (K + 3) (by omega) l hb
  by_cases hs : IsSuper l
  · have e1 := read_yes (K + 3) l hb hs
    have e2 := r1 hs
    rw [show K + 3 + 5 = K + 8 from by omega] at e1 e2
    rw [e1, e2]
    simp only [Option.bind_some, lockgatelaw4_num.f]
    rw [if_neg (by decide), if_pos trivial]
    simp only [beq_self_eq_true, Bool.not_true, Bool.or_self]
    exact hlast
  · have e1 := read_no (K + 3) l hb hs
    have e2 := r2 hs
    rw [show K + 3 + 5 = K + 8 from by omega] at e1 e2
    rw [e1, e2]
    simp only [Option.bind_some, lockgatelaw4_num.f]
    rw [if_neg (by decide), if_neg (by decide), if_pos trivial]
    simp only [beq_self_eq_true, Bool.not_true, Bool.or_self]
    exact hlast
end Go.Proofs.Ythlpcfjnpagokaa.Pure
