/- Plain facts on rows of bits: numbers and lists alone. -/
import Derived.Test.YtppjeikkodjjhaaGiven
namespace Go.Proofs.Ytppjeikkodjjhaa.Given
open Go.RowKit Go.Proofs.YtppjeikkodjjhaaW.PrintWords Go.Proofs.YtppjeikkodjjhaaW.PrintMore Go.Proofs.Ytppjeikkodjjhaa.PGet Go.Proofs.Ytppjeikkodjjhaa.PWith
set_option linter.unusedSimpArgs false

/-- bit s of a byte -/
def bit (b : Int) (s : Nat) : Bool := decide (b / 2 ^ s % 2 = 1)
def clr (b : Int) (s : Nat) : Int := Go.bits .andNot .u8 b (shl .u8 1 s)
def sett (b : Int) (s : Nat) : Int := Go.bits .or .u8 b (shl .u8 1 s)

theorem bit_get : ∀ b : Fin 256, ∀ s : Fin 8, (Go.bits .and .u8 (shr .u8 (b.val : Int) (s.val : Int)) 1 != 0) = bit (b.val : Int) s.val := by decide +kernel
theorem clr_rng : ∀ b : Fin 256, ∀ s : Fin 8, 0 ≤ clr (b.val : Int) s.val ∧ clr (b.val : Int) s.val < 256 := by decide +kernel
theorem sett_rng : ∀ b : Fin 256, ∀ s : Fin 8, 0 ≤ sett (b.val : Int) s.val ∧ sett (b.val : Int) s.val < 256 := by decide +kernel
theorem clr_bit : ∀ b : Fin 256, ∀ s t : Fin 8, bit (clr (b.val : Int) s.val) t.val = if t = s then false else bit (b.val : Int) t.val := by decide +kernel
theorem sett_bit : ∀ b : Fin 256, ∀ s t : Fin 8, bit (sett (b.val : Int) s.val) t.val = if t = s then true else bit (b.val : Int) t.val := by decide +kernel

/-- a row of bytes -/
def Bytes (l : List Int) : Prop := ∀ x ∈ l, 0 ≤ x ∧ x < 256
theorem bytes_getD {l : List Int} (h : Bytes l) (j : Nat) : 0 ≤ l.getD j 0 ∧ l.getD j 0 < 256 := by
  rw [List.getD_eq_getElem?_getD]
  by_cases hj : j < l.length
  · simp [hj]; exact h _ (List.getElem_mem hj)
  · simp [List.getElem?_eq_none (Nat.le_of_not_lt hj)]

theorem get_nat {l : List Int} (h : Bytes l) (i : Nat) (hi : i < 1152921504606846976) : getB l i = (decide (i / 8 < l.length) && bit (l.getD (i / 8) 0) (i % 8)) := by
  have hd : wrap64 (Int.tdiv (i : Int) 8) = ((i / 8 : Nat) : Int) := by
    rw [Int.tdiv_eq_ediv_of_nonneg (by omega)]; unfold wrap64; omega
  have hm : Int.tmod (i : Int) 8 = ((i % 8 : Nat) : Int) := by rw [Int.tmod_eq_emod_of_nonneg (by omega)]; omega
  have hb := bytes_getD h (i / 8)
  have hg := bit_get ⟨(l.getD (i / 8) 0).toNat, by omega⟩ ⟨i % 8, by omega⟩
  simp only [Int.toNat_of_nonneg hb.1] at hg
  have hs := get_some l i hi
  have : bits_Get.f l i = some (decide (i / 8 < l.length) && bit (l.getD (i / 8) 0) (i % 8)) := by
    unfold bits_Get.f
    rw [if_pos (by omega), hd, hm]
    by_cases hl : i / 8 < l.length
    · rw [if_pos (by omega), if_pos (by omega), if_pos (by omega)]
      simp only [rd, Int.toNat_natCast, hg, hl, decide_true, Bool.true_and]
    · rw [if_neg (by omega)]
      simp [hl]
  rw [hs] at this
  exact Option.some.inj this

theorem get_neg {l : List Int} {i : Int} (hi : i < 0) : bits_Get.f l i = some false := by
  unfold bits_Get.f
  rw [if_neg (by omega)]

theorem get_big {l : List Int} {i : Int} (hi : 1152921504606846976 ≤ i) (h2 : i < 9223372036854775808) (hl : l.length < 1000000) : bits_Get.f l i = some false := by
  unfold bits_Get.f
  rw [if_pos (by omega), Int.tdiv_eq_ediv_of_nonneg (by omega), if_neg (by unfold wrap64; omega)]

/-- the row with a bit set or cleared -/
def withB (l : List Int) (i : Nat) (on : Bool) : List Int :=
  if i / 8 < l.length then l.set (i / 8) (if on then sett (clr (l.getD (i / 8) 0) (i % 8)) (i % 8) else clr (l.getD (i / 8) 0) (i % 8)) else l

theorem withB_length (l : List Int) (i : Nat) (on : Bool) : (withB l i on).length = l.length := by
  unfold withB; split <;> simp

theorem clr_ok {b : Int} (h : 0 ≤ b ∧ b < 256) (s : Nat) (hs : s < 8) : 0 ≤ clr b s ∧ clr b s < 256 := by
  have := clr_rng ⟨b.toNat, by omega⟩ ⟨s, hs⟩
  simpa only [Int.toNat_of_nonneg h.1] using this
theorem sett_ok {b : Int} (h : 0 ≤ b ∧ b < 256) (s : Nat) (hs : s < 8) : 0 ≤ sett b s ∧ sett b s < 256 := by
  have := sett_rng ⟨b.toNat, by omega⟩ ⟨s, hs⟩
  simpa only [Int.toNat_of_nonneg h.1] using this
theorem clr_at {b : Int} (h : 0 ≤ b ∧ b < 256) (s t : Nat) (hs : s < 8) (ht : t < 8) : bit (clr b s) t = if t = s then false else bit b t := by
  have := clr_bit ⟨b.toNat, by omega⟩ ⟨s, hs⟩ ⟨t, ht⟩
  simpa only [Int.toNat_of_nonneg h.1, Fin.mk.injEq] using this
theorem sett_at {b : Int} (h : 0 ≤ b ∧ b < 256) (s t : Nat) (hs : s < 8) (ht : t < 8) : bit (sett b s) t = if t = s then true else bit b t := by
  have := sett_bit ⟨b.toNat, by omega⟩ ⟨s, hs⟩ ⟨t, ht⟩
  simpa only [Int.toNat_of_nonneg h.1, Fin.mk.injEq] using this

theorem withB_bytes {l : List Int} (h : Bytes l) (i : Nat) (on : Bool) : Bytes (withB l i on) := by
  unfold withB
  have hb := bytes_getD h (i / 8)
  have hc := clr_ok hb (i % 8) (by omega)
  have hs := sett_ok hc (i % 8) (by omega)
  split
  · intro x hx
    rcases List.mem_or_eq_of_mem_set hx with hx | rfl
    · exact h x hx
    · split <;> assumption
  · exact h

theorem get_withB {l : List Int} (h : Bytes l) (i j : Nat) (on : Bool) (hj : j < 1152921504606846976) :
    getB (withB l i on) j = if i = j then (decide (i / 8 < l.length) && on) else getB l j := by
  rw [get_nat (withB_bytes h i on) j hj, withB_length, get_nat h j hj]
  unfold withB
  have hb := bytes_getD h (i / 8)
  have hc := clr_ok hb (i % 8) (by omega)
  by_cases hl : i / 8 < l.length
  · rw [if_pos hl]
    by_cases hij : i / 8 = j / 8
    · have hjl : j / 8 < l.length := by omega
      rw [← hij]
      simp only [List.getD_eq_getElem?_getD, List.getElem?_set_self hl, Option.getD_some]
      rw [List.getD_eq_getElem?_getD] at hb hc
      generalize l[i / 8]?.getD 0 = b at *
      have e1 := clr_at hb (i % 8) (j % 8) (by omega) (by omega)
      have e2 := sett_at hc (i % 8) (j % 8) (by omega) (by omega)
      by_cases he : i = j
      · subst he
        rw [if_pos rfl] at e1 e2 ⊢
        cases on <;> simp [hl, e1, e2]
      · have hne : ¬ (j % 8 = i % 8) := by omega
        rw [if_neg hne] at e1 e2
        rw [if_neg he]
        cases on <;> simp [hl, e1, e2]
    · have he : ¬ (i = j) := fun e => hij (by rw [e])
      rw [if_neg he]
      simp [List.getD_eq_getElem?_getD, List.getElem?_set_ne hij]
  · rw [if_neg hl]
    by_cases he : i = j
    · subst he
      simp [hl]
    · rw [if_neg he]

/-- With, for a place that is told by a natural number -/
theorem clone_ok {l : List Int} (hl : l.length < 1000000) : slices_Clone_byte_byte.f l = some l := by
  unfold slices_Clone_byte_byte.f
  exact if_pos (by omega)
theorem with_nat {l : List Int} (hl : l.length < 1000000) (i : Nat) (hi : (i : Int) < 9223372036854775808) (on : Bool) (k : Nat) : bits_With.f (k + 1) l i on = some (withB l i on) := by
  have hd : wrap64 (Int.tdiv (i : Int) 8) = ((i / 8 : Nat) : Int) := by
    rw [Int.tdiv_eq_ediv_of_nonneg (by omega)]; unfold wrap64; omega
  have hm : Int.tmod (i : Int) 8 = ((i % 8 : Nat) : Int) := by rw [Int.tmod_eq_emod_of_nonneg (by omega)]; omega
  unfold bits_With.f
  rw [hd, clone_ok hl, Option.bind_some, if_neg (by omega)]
  unfold withB
  by_cases hj : i / 8 < l.length
  · rw [decide_eq_false (show ¬ (((i / 8 : Nat) : Int) ≥ (l.length : Int)) by omega), if_pos hj]
    simp only [bits_With.j0, hd, hm]
    rw [if_neg (by simp), if_pos (show (0 : Int) ≤ ((i / 8 : Nat) : Int) by omega), if_pos (show ((i / 8 : Nat) : Int) < (l.length : Int) by omega), if_pos (show (0 : Int) ≤ ((i % 8 : Nat) : Int) by omega)]
    simp only [Option.bind_some, Int.toNat_natCast, rd, clr, sett]
    cases on with
    | false => simp only [Bool.false_eq_true, if_false]
    | true =>
      simp only [if_true]
      have e : (l.set (i / 8) (Go.bits .andNot .u8 (l.getD (i / 8) 0) (shl .u8 1 ((i % 8 : Nat) : Int)))).getD (i / 8) 0 = Go.bits .andNot .u8 (l.getD (i / 8) 0) (shl .u8 1 ((i % 8 : Nat) : Int)) := by
        rw [List.getD_eq_getElem?_getD, List.getElem?_set_self hj]; rfl
      rw [e, List.set_set]
  · rw [decide_eq_true (show ((i / 8 : Nat) : Int) ≥ (l.length : Int) by omega), if_neg hj]
    simp only [bits_With.j0, if_true]
theorem with_neg {l : List Int} (hl : l.length < 1000000) {i : Int} (hi : i < 0) (on : Bool) (k : Nat) : bits_With.f (k + 1) l i on = some l := by
  unfold bits_With.f
  rw [clone_ok hl, Option.bind_some, if_pos hi]
  simp only [bits_With.j0, if_true]

/-! ### counting -/
def bn (b : Bool) : Nat := if b then 1 else 0
theorem count_turn (f g : Nat → Bool) (i : Nat) (h : ∀ j, j ≠ i → g j = f j) (n : Nat) : ∀ lo, (List.range' lo n).countP g + (if lo ≤ i ∧ i < lo + n then bn (f i) else 0) = (List.range' lo n).countP f + (if lo ≤ i ∧ i < lo + n then bn (g i) else 0) := by
  induction n with
  | zero => intro lo; rw [if_neg (by omega), if_neg (by omega)]; rfl
  | succ n ih =>
    intro lo
    have := ih (lo + 1)
    rw [List.range'_succ, List.countP_cons, List.countP_cons]
    by_cases he : lo = i
    · subst he
      have n1 : ¬ (lo + 1 ≤ lo ∧ lo < lo + 1 + n) := by omega
      have p1 : lo ≤ lo ∧ lo < lo + (n + 1) := by omega
      rw [if_neg n1, if_neg n1] at this
      rw [if_pos p1, if_pos p1]
      unfold bn
      omega
    · rw [h lo he]
      by_cases h2 : lo ≤ i ∧ i < lo + (n + 1)
      · have p1 : lo + 1 ≤ i ∧ i < lo + 1 + n := by omega
        rw [if_pos p1, if_pos p1] at this
        rw [if_pos h2, if_pos h2]
        omega
      · have n1 : ¬ (lo + 1 ≤ i ∧ i < lo + 1 + n) := by omega
        rw [if_neg n1, if_neg n1] at this
        rw [if_neg h2, if_neg h2]
        omega
def cnt (l : List Int) (n : Nat) : Nat := (List.range' 0 n).countP (getB l)
theorem count_ok {l : List Int} (hl : l.length < 1000000) (n : Nat) (hn : n ≤ 8 * l.length) : bits_Count.f l (n : Int) = some (cnt l n : Int) := by
  unfold bits_Count.f cnt
  rw [if_pos (by omega)]
  have e1 : eachLo 0 = 0 := rfl
  have e2 : eachN l (n : Int) 0 = n := by unfold eachN; split <;> simp <;> omega
  rw [e1, e2]
theorem count_le (l : List Int) (n : Nat) : cnt l n ≤ n := by
  unfold cnt
  exact Nat.le_trans List.countP_le_length (by simp)

/-- Get at any number of int -/
def gI (l : List Int) (i : Int) : Bool := if 0 ≤ i ∧ i < 1152921504606846976 then getB l i.toNat else false
theorem get_any {l : List Int} (hl : l.length < 1000000) (i : Int) (hi : i < 9223372036854775808) : bits_Get.f l i = some (gI l i) := by
  unfold gI
  by_cases h0 : 0 ≤ i
  · by_cases h1 : i < 1152921504606846976
    · rw [if_pos ⟨h0, h1⟩]
      obtain ⟨m, rfl⟩ := Int.eq_ofNat_of_zero_le h0
      exact get_some l m (by omega)
    · rw [if_neg (by omega)]
      exact get_big (by omega) hi hl
  · rw [if_neg (by omega)]
    exact get_neg (by omega)
theorem gI_out {l : List Int} (h : Bytes l) {i : Int} (hi : ¬ (0 ≤ i ∧ i < 8 * (l.length : Int))) : gI l i = false := by
  unfold gI
  split
  · rename_i h2
    rw [get_nat h _ (by omega)]
    simp
    intro h3
    omega
  · rfl

end Go.Proofs.Ytppjeikkodjjhaa.Given
