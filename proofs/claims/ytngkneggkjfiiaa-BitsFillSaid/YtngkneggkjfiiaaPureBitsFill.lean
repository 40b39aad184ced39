/- BitsFill: taking the first free bit, again and again, takes them all, in order; for every number of bytes and bits; no condition. -/
import Derived.Test.YtngkneggkjfiiaaPBitsFillx1
import Derived.Test.YtngkneggkjfiiaaPlain
import Derived.OpenShut
namespace Go.Proofs.Ytngkneggkjfiiaa.Pure
open Go.RowKit Go.Proofs.Ytngkneggkjfiiaa.PBitsFill Go.Proofs.Ytngkneggkjfiiaa.Given Go.Proofs.Ytngkneggkjfiiaa.PGet Go.Proofs.Ytngkneggkjfiiaa.PWith Go.Proofs.YtngkneggkjfiiaaW.PrintWords Go.Proofs.YtngkneggkjfiiaaW.PrintLast
set_option linter.unusedSimpArgs false

theorem alive : lockgatelaw2_alive.f = some true := by decide +kernel

/-- the first m bits are taken, and no others -/
structure Filled (l : List Int) (c m : Nat) : Prop where
  len : l.length = c
  bytes : Bytes l
  bits : ∀ j, j < 1152921504606846976 → getB l j = decide (j < m)

theorem filled_zero (c : Nat) : Filled (List.replicate c 0) c 0 := by
  have hb : Bytes (List.replicate c 0) := fun x hx => by have := List.eq_of_mem_replicate hx; omega
  refine ⟨by simp, hb, fun j hj => ?_⟩
  rw [get_nat hb j hj]
  have e : (List.replicate c (0 : Int)).getD (j / 8) 0 = 0 := by
    rw [List.getD_eq_getElem?_getD, List.getElem?_replicate]; split <;> rfl
  rw [e]
  simp [bit]
theorem filled_succ {l : List Int} {c m : Nat} (h : Filled l c m) (hm : m < 8 * c) : Filled (withB l m true) c (m + 1) := by
  refine ⟨by rw [withB_length, h.len], withB_bytes h.bytes m true, fun j hj => ?_⟩
  rw [get_withB h.bytes m j true hj, h.bits j hj, h.len]
  by_cases he : m = j
  · subst he
    rw [if_pos rfl, decide_eq_true (by omega), decide_eq_true (by omega)]; rfl
  · rw [if_neg he, decide_eq_decide]; omega

theorem first_of {l : List Int} {c m : Nat} (h : Filled l c m) (hc : c < 1000000) (n : Nat) (hn : n < 1000000) : bits_First.f l n 0 = some (if m < min n (8 * c) then ((m : Int), true) else (0, false)) := by
  unfold bits_First.f
  rw [if_pos (by rw [h.len]; omega)]
  have e1 : eachLo 0 = 0 := rfl
  have e2 : eachN l (n : Int) 0 = min n (8 * c) := by
    unfold eachN
    rw [h.len]
    split <;> simp <;> omega
  rw [e1, e2]
  congr 1
  by_cases hm : m < min n (8 * c)
  · rw [if_pos hm]
    refine firstBit_at (pre := List.range' 0 m) (fun i hi => ?_) ?_ ?_
    · rw [List.mem_range'_1] at hi
      rw [h.bits i (by omega)]; exact decide_eq_true (by omega)
    · rw [h.bits m (by omega)]; exact decide_eq_false (by omega)
    · have := range_prefix 0 (m + 1) (min n (8 * c)) hm
      rw [List.range'_concat] at this
      simpa using this
  · rw [if_neg hm]
    refine firstBit_all (fun i hi => ?_)
    rw [List.mem_range'_1] at hi
    rw [h.bits i (by omega)]; exact decide_eq_true (by omega)

theorem count_filled {l : List Int} {c m : Nat} (h : Filled l c m) (hc : c < 1000000) (n : Nat) (hn : n < 1000000) (hm : m = min n (8 * c)) : bits_Count.f l n = some (m : Int) := by
  unfold bits_Count.f
  rw [if_pos (by rw [h.len]; omega)]
  have e1 : eachLo 0 = 0 := rfl
  have e2 : eachN l (n : Int) 0 = m := by
    unfold eachN
    rw [h.len]
    split <;> simp <;> omega
  rw [e1, e2]
  have : (List.range' 0 m).countP (getB l) = m := by
    have := List.countP_eq_length (p := getB l) (l := List.range' 0 m)
    rw [List.length_range'] at this
    rw [this]
    intro i hi
    rw [List.mem_range'_1] at hi
    rw [h.bits i (by omega)]; exact decide_eq_true (by omega)
  rw [this]

theorem loop_ok (c n most : Nat) (hc : c ≤ 40) (hn : n ≤ 400) (hmost : most = min n (8 * c)) (d : Nat) : ∀ (m k : Nat) (l : List Int), Filled l c m → m + d = most → d + 1 < k →
    lockgatelaw2_BitsFill.l0 k n l most m = some true := by
  induction d with
  | zero =>
    intro m k l h hm hk
    obtain ⟨k, rfl⟩ : ∃ q, k = q + 1 := ⟨k - 1, by omega⟩
    obtain rfl : m = most := by omega
    simp only [lockgatelaw2_BitsFill.l0]
    rw [if_neg (by omega), first_of h (by omega) n (by omega), if_neg (by omega), Option.bind_some, if_neg (by simp), count_filled h (by omega) n (by omega) hmost, Option.bind_some]
    simp
  | succ d ih =>
    intro m k l h hm hk
    obtain ⟨k, rfl⟩ : ∃ q, k = q + 1 := ⟨k - 1, by omega⟩
    obtain ⟨k', rfl⟩ : ∃ q, k = q + 1 := ⟨k - 1, by omega⟩
    simp only [lockgatelaw2_BitsFill.l0]
    rw [if_pos (by omega), first_of h (by omega) n (by omega), if_pos (by omega), Option.bind_some, if_pos rfl, if_pos rfl]
    rw [with_nat (by rw [h.len]; omega) m (by omega) true k', Option.bind_some]
    have hw : wrap64 ((m : Int) + 1) = ((m + 1 : Nat) : Int) := by unfold wrap64; omega
    rw [hw]
    exact ih (m + 1) (k' + 1) _ (filled_succ h (by omega)) (by omega) (by omega)

theorem BitsFill : lockgatelaw2_BitsFill.Pure := by
  intro a0 a1 w0 w1
  refine ⟨1000, ?_⟩
  unfold lockgatelaw2_BitsFill.f
  rw [alive, Option.bind_some, if_pos rfl]
  have hb : ∀ b : Bool, b = true → lockgatelaw2_BitsFill.j0 1000 a0 a1 true b = some true := by
    rintro b rfl; simp only [lockgatelaw2_BitsFill.j0, if_true]
  by_cases h1 : a0 < 0
  · rw [if_pos h1]; exact hb _ rfl
  rw [if_neg h1]
  by_cases h2 : a0 > 40
  · rw [if_pos h2]; exact hb _ rfl
  rw [if_neg h2]
  by_cases h3 : a1 < 0
  · rw [if_pos h3]; exact hb _ rfl
  rw [if_neg h3]
  by_cases h4 : a1 > 400
  · exact hb _ (decide_eq_true h4)
  rw [decide_eq_false h4]
  obtain ⟨c, rfl⟩ := Int.eq_ofNat_of_zero_le (show 0 ≤ a0 by omega)
  obtain ⟨n, rfl⟩ := Int.eq_ofNat_of_zero_le (show 0 ≤ a1 by omega)
  show lockgatelaw2_BitsFill.j0 (999 + 1) c n true false = some true
  simp only [lockgatelaw2_BitsFill.j0]
  rw [if_neg (by simp), if_pos (by omega), if_pos (by omega), Option.bind_some, Int.toNat_natCast]
  have hw : wrap64 (8 * (c : Int)) = ((8 * c : Nat) : Int) := by unfold wrap64; omega
  rw [hw]
  have go : ∀ most : Nat, most = min n (8 * c) → lockgatelaw2_BitsFill.j1 999 n (List.replicate c 0) most = some true := by
    intro most hm
    show lockgatelaw2_BitsFill.j1 (998 + 1) n (List.replicate c 0) most = some true
    simp only [lockgatelaw2_BitsFill.j1]
    exact loop_ok c n most (by omega) (by omega) hm most 0 998 _ (filled_zero c) (by omega) (by omega)
  by_cases h5 : (n : Int) < ((8 * c : Nat) : Int)
  · rw [if_pos h5]; exact go n (by omega)
  · rw [if_neg h5]; exact go (8 * c) (by omega)

end Go.Proofs.Ytngkneggkjfiiaa.Pure
