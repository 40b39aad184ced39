/- The reference's Get, With, First and Count tell what the program's tell: numbers and lists alone. -/
import Derived.Test.YtngkneggkjfiiaaPlain
import Derived.Test.YtngkneggkjfiiaaPBitsFnsx1
import Derived.OpenShut
namespace Go.Proofs.Ytngkneggkjfiiaa.Given
open Go.RowKit Go.Proofs.YtngkneggkjfiiaaW.PrintWords Go.Proofs.YtngkneggkjfiiaaW.PrintLast Go.Proofs.YtngkneggkjfiiaaW.PrintMore Go.Proofs.Ytngkneggkjfiiaa.PGet Go.Proofs.Ytngkneggkjfiiaa.PWith Go.Proofs.Ytngkneggkjfiiaa.PBitsFns
set_option linter.unusedVariables false
set_option linter.unusedSimpArgs false

theorem u64s (n : Nat) (h : n < 8) : IntKind.u64.wrap ((n : Nat) : Int) = (n : Int) := by
  have : ∀ i : Fin 8, IntKind.u64.wrap ((i.val : Nat) : Int) = (i.val : Int) := by decide +kernel
  exact this ⟨n, h⟩
theorem bit_one : ∀ b : Fin 256, ∀ s : Fin 8, (Go.bits .and .u8 (shr .u8 (b.val : Int) (s.val : Int)) 1 == 1) = (Go.bits .and .u8 (shr .u8 (b.val : Int) (s.val : Int)) 1 != 0) := by decide +kernel
theorem rget_same {l : List Int} (h : Bytes l) (i : Int) (hi : i < 9223372036854775808) : lockgateref1_Get.f l i = bits_Get.f l i := by
  unfold lockgateref1_Get.f bits_Get.f
  by_cases h0 : i ≥ 0
  · obtain ⟨n, rfl⟩ := Int.eq_ofNat_of_zero_le h0
    have hd : wrap64 (Int.tdiv (n : Int) 8) = ((n / 8 : Nat) : Int) := by
      rw [Int.tdiv_eq_ediv_of_nonneg (by omega)]; unfold wrap64; omega
    have hm : Int.tmod (n : Int) 8 = ((n % 8 : Nat) : Int) := by rw [Int.tmod_eq_emod_of_nonneg (by omega)]; omega
    have hb := bytes_getD h (n / 8)
    have hg := bit_one ⟨(l.getD (n / 8) 0).toNat, by omega⟩ ⟨n % 8, by omega⟩
    simp only [Int.toNat_of_nonneg hb.1] at hg
    rw [if_pos h0, if_pos h0, hd, hm, u64s _ (by omega)]
    simp only [rd, Int.toNat_natCast, hg]
  · rw [if_neg h0, if_neg h0]
theorem rwith_same {l : List Int} (hl : l.length < 1000000) (i : Int) (hi : i < 9223372036854775808) (on : Bool) (k : Nat) : ∃ r, r.length = l.length ∧ bits_With.f (k + 1) l i on = some r ∧ lockgateref1_With.f (k + 1) l i on = some r := by
  unfold lockgateref1_With.f
  rw [if_pos (by simp; omega), List.nil_append, Option.bind_some]
  by_cases h0 : i < 0
  · refine ⟨l, rfl, with_neg hl h0 on k, ?_⟩
    rw [if_pos h0]
    simp only [lockgateref1_With.j0, if_true]
  · obtain ⟨n, rfl⟩ := Int.eq_ofNat_of_zero_le (show 0 ≤ i by omega)
    refine ⟨withB l n on, withB_length _ _ _, with_nat hl n hi on k, ?_⟩
    have hd : wrap64 (Int.tdiv (n : Int) 8) = ((n / 8 : Nat) : Int) := by
      rw [Int.tdiv_eq_ediv_of_nonneg (by omega)]; unfold wrap64; omega
    have hm : Int.tmod (n : Int) 8 = ((n % 8 : Nat) : Int) := by rw [Int.tmod_eq_emod_of_nonneg (by omega)]; omega
    rw [hd, if_neg h0]
    unfold withB
    by_cases hj : n / 8 < l.length
    · rw [decide_eq_false (show ¬ (((n / 8 : Nat) : Int) ≥ (l.length : Int)) by omega), if_pos hj]
      simp only [lockgateref1_With.j0, hd, hm, u64s (n % 8) (by omega)]
      rw [if_neg (by simp), if_pos (show (0 : Int) ≤ ((n % 8 : Nat) : Int) by omega), if_pos (show (0 : Int) ≤ ((n / 8 : Nat) : Int) by omega), if_pos (show ((n / 8 : Nat) : Int) < (l.length : Int) by omega)]
      simp only [Option.bind_some, Int.toNat_natCast, rd, clr, sett]
      cases on with
      | false => simp only [Bool.false_eq_true, if_false]
      | true =>
        simp only [if_true]
        have e : (l.set (n / 8) (Go.bits .andNot .u8 (l.getD (n / 8) 0) (shl .u8 1 ((n % 8 : Nat) : Int)))).getD (n / 8) 0 = Go.bits .andNot .u8 (l.getD (n / 8) 0) (shl .u8 1 ((n % 8 : Nat) : Int)) := by
          rw [List.getD_eq_getElem?_getD, List.getElem?_set_self hj]; rfl
        rw [e, List.set_set]
    · rw [decide_eq_true (show ((n / 8 : Nat) : Int) ≥ (l.length : Int) by omega), if_neg hj]
      simp only [lockgateref1_With.j0, if_true]
def bd (l : List Int) (n : Int) : Int := if n < (l.length : Int) * 8 then n else (l.length : Int) * 8
theorem bound_is {l : List Int} (hl : l.length < 1000000) (n : Int) : lockgateref1_bound.f l n = some (bd l n) := by
  have hw : wrap64 (8 * (l.length : Int)) = (l.length : Int) * 8 := by unfold wrap64; omega
  unfold lockgateref1_bound.f bd
  rw [hw]
  by_cases h : n < (l.length : Int) * 8
  · rw [if_neg (by omega), if_pos h]
  · rw [if_neg h]
    by_cases h2 : n > (l.length : Int) * 8
    · rw [if_pos h2]
    · rw [if_neg h2]; exact congrArg some (by omega)
theorem w64s (x : Nat) (h : x < 1152921504606846976) : wrap64 ((x : Int) + 1) = ((x + 1 : Nat) : Int) := by unfold wrap64; omega
def firstG (g : Nat → Bool) (xs : List Nat) : Int × Bool := match xs.find? (fun i => !g i) with
  | some i => (i, true)
  | none => (0, false)
theorem firstG_yes (g : Nat → Bool) (x : Nat) (xs : List Nat) (h : g x = true) : firstG g (x :: xs) = firstG g xs := by
  unfold firstG
  rw [List.find?_cons_of_neg (by simp [h])]
theorem firstG_no (g : Nat → Bool) (x : Nat) (xs : List Nat) (h : g x = false) : firstG g (x :: xs) = ((x : Int), true) := by
  unfold firstG
  rw [List.find?_cons_of_pos (by simp [h])]
theorem first_is (l : List Int) (xs : List Nat) : firstBit l xs = firstG (getB l) xs := rfl
theorem first_yes (l : List Int) (x : Nat) (xs : List Nat) (h : getB l x = true) : firstBit l (x :: xs) = firstBit l xs := (first_is l (x :: xs)).trans ((firstG_yes (getB l) x xs h).trans (first_is l xs).symm)
theorem first_no (l : List Int) (x : Nat) (xs : List Nat) (h : getB l x = false) : firstBit l (x :: xs) = ((x : Int), true) := (first_is l (x :: xs)).trans (firstG_no (getB l) x xs h)
theorem first_loop {l : List Int} (h : Bytes l) (hl : l.length < 1000000) (n : Int) : ∀ (d x k : Nat), (d : Int) = bd l n - x ∨ (d = 0 ∧ bd l n ≤ x) → d < k → lockgateref1_First.l0 k l n (x : Int) = some (firstBit l (List.range' x d))
  | 0, x, k, hd, hk => by
    obtain ⟨k, rfl⟩ : ∃ m, k = m + 1 := ⟨k - 1, by omega⟩
    simp only [lockgateref1_First.l0]
    rw [bound_is hl, Option.bind_some, if_neg (by omega)]
    rfl
  | d + 1, x, k, hd, hk => by
    obtain ⟨k, rfl⟩ : ∃ m, k = m + 1 := ⟨k - 1, by omega⟩
    have hb : bd l n ≤ (l.length : Int) * 8 := by unfold bd; split <;> omega
    have hx : (x : Int) < bd l n := by omega
    have hx0 : x < 1152921504606846976 := by omega
    have ih := first_loop h hl n d (x + 1) k (by omega) (by omega)
    simp only [lockgateref1_First.l0]
    rw [bound_is hl, Option.bind_some, if_pos hx, rget_same h _ (by omega), get_some l x (by omega), Option.bind_some, w64s x hx0, ih, List.range'_succ]
    cases hg : getB l x with
    | true => rw [if_pos rfl, first_yes l x _ hg]
    | false => rw [if_neg (by simp), first_no l x _ hg]
theorem rfirst_same {l : List Int} (h : Bytes l) (hl : l.length < 100000) (n from0 : Int) (k : Nat) (hk : 1000000 ≤ k) : ∃ x s, bits_First.f l n from0 = some (x, s) ∧ lockgateref1_First.f k l n from0 = some (x, s) := by
  refine ⟨(firstBit l (List.range' (eachLo from0) (eachN l n from0))).1, (firstBit l (List.range' (eachLo from0) (eachN l n from0))).2, ?_, ?_⟩
  · unfold bits_First.f
    rw [if_pos (by omega)]
  · obtain ⟨k, rfl⟩ : ∃ m, k = m + 1 := ⟨k - 1, by omega⟩
    have hb : bd l n ≤ (l.length : Int) * 8 := by unfold bd; split <;> omega
    have e : lockgateref1_First.f (k + 1) l n from0 = lockgateref1_First.l0 k l n ((eachLo from0 : Nat) : Int) := by
      unfold lockgateref1_First.f eachLo
      by_cases hf : from0 < 0
      · rw [if_pos hf, if_neg (by omega)]
        simp only [lockgateref1_First.j0]
        rfl
      · rw [if_neg hf]
        simp only [lockgateref1_First.j0]
        by_cases hf0 : 0 < from0
        · rw [if_pos hf0, Int.toNat_of_nonneg (by omega)]
        · rw [if_neg hf0]; congr 1; simp; omega
    have hN : (eachN l n from0 : Int) = bd l n - (eachLo from0 : Nat) ∨ (eachN l n from0 = 0 ∧ bd l n ≤ (eachLo from0 : Nat)) := by
      have h1 : eachN l n from0 = (bd l n - (if 0 < from0 then from0 else 0)).toNat := rfl
      have h2 : ((eachLo from0 : Nat) : Int) = (if 0 < from0 then from0 else 0) := by unfold eachLo; split <;> simp <;> omega
      rw [h1, h2]
      generalize (if 0 < from0 then from0 else 0) = q
      omega
    rw [e, first_loop h (by omega) n _ _ k hN (by omega)]
theorem count_loop {l : List Int} (h : Bytes l) (hl : l.length < 1000000) (n : Int) : ∀ (d x k : Nat) (c : Nat), (d : Int) = bd l n - x ∨ (d = 0 ∧ bd l n ≤ x) → d < k → c ≤ x → lockgateref1_Count.l0 k l n (c : Int) (x : Int) = some ((c + (List.range' x d).countP (getB l) : Nat) : Int)
  | 0, x, k, c, hd, hk, hc => by
    obtain ⟨k, rfl⟩ : ∃ m, k = m + 1 := ⟨k - 1, by omega⟩
    simp only [lockgateref1_Count.l0]
    rw [bound_is hl, Option.bind_some, if_neg (by omega)]
    rfl
  | d + 1, x, k, c, hd, hk, hc => by
    obtain ⟨k, rfl⟩ : ∃ m, k = m + 1 := ⟨k - 1, by omega⟩
    have hb : bd l n ≤ (l.length : Int) * 8 := by unfold bd; split <;> omega
    have hx : (x : Int) < bd l n := by omega
    have hx0 : x < 1152921504606846976 := by omega
    have hc0 : c < 1152921504606846976 := by omega
    simp only [lockgateref1_Count.l0]
    rw [bound_is hl, Option.bind_some, if_pos hx, rget_same h _ (by omega), get_some l x (by omega), Option.bind_some, w64s x hx0, w64s c hc0, List.range'_succ, List.countP_cons]
    cases hg : getB l x with
    | true =>
      rw [if_pos rfl, count_loop h hl n d (x + 1) k (c + 1) (by omega) (by omega) (by omega), if_pos rfl]
      exact congrArg some (by omega)
    | false =>
      rw [if_neg (by simp), count_loop h hl n d (x + 1) k c (by omega) (by omega) (by omega), if_neg (by simp)]
      rfl
theorem rcount_same {l : List Int} (h : Bytes l) (hl : l.length < 100000) (n : Int) (k : Nat) (hk : 1000000 ≤ k) : ∃ x, bits_Count.f l n = some x ∧ lockgateref1_Count.f k l n = some x := by
  have hb : bd l n ≤ (l.length : Int) * 8 := by unfold bd; split <;> omega
  have h1 : eachN l n 0 = (bd l n - 0).toNat := rfl
  have hN : (eachN l n 0 : Int) = bd l n - ((0 : Nat) : Int) ∨ (eachN l n 0 = 0 ∧ bd l n ≤ ((0 : Nat) : Int)) := by rw [h1]; omega
  have hk2 : eachN l n 0 < k := by rw [h1]; omega
  have hc := count_loop h (by omega) n (eachN l n 0) 0 k 0 hN hk2 (by omega)
  refine ⟨_, ?_, hc⟩
  unfold bits_Count.f
  rw [if_pos (by omega), Nat.zero_add]
  rfl
theorem alive_is : lockgatelaw2_alive.f = some true := by decide +kernel
end Go.Proofs.Ytngkneggkjfiiaa.Given
