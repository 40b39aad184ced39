/- BitsTurn: a bit that is set or cleared is there, no other one has changed, and the count has turned by just that; for every row of bytes and every place; no condition. -/
import Derived.Test.YtngkneggkjfiiaaPBitsTurnx1
import Derived.Test.YtngkneggkjfiiaaPlain
import Derived.OpenShut
namespace Go.Proofs.Ytngkneggkjfiiaa.Pure
open Go.RowKit Go.Proofs.Ytngkneggkjfiiaa.PBitsTurn Go.Proofs.Ytngkneggkjfiiaa.Given Go.Proofs.Ytngkneggkjfiiaa.PGet Go.Proofs.Ytngkneggkjfiiaa.PWith Go.Proofs.YtngkneggkjfiiaaW.PrintWords Go.Proofs.YtngkneggkjfiiaaW.PrintLast
set_option linter.unusedSimpArgs false

theorem alive : lockgatelaw2_alive.f = some true := by decide +kernel

/-- the end of the law, where all its numbers are known -/
theorem j3_ok (k : Nat) (x1 : Int) (x3 : Bool) (x10 : List Int) (x11 x12 : Bool) (d : Int) (hg : bits_Get.f x10 x1 = some (x11 && x3)) (hno : x11 = false → x12 = false)
    (hd : d = if x11 then ((bn x3 : Nat) : Int) - (bn x12 : Nat) else 0) (x77 : Bool) (h77 : x77 = (x11 && x3 && !x12)) : lockgatelaw2_BitsTurn.j3 (k + 1) x1 x3 x10 x11 x12 d 0 x77 = some true := by
  simp only [lockgatelaw2_BitsTurn.j3, hg, Option.bind_some]
  subst h77
  subst hd
  cases x11 <;> cases x3 <;> cases x12 <;> simp [bn] at *

theorem BitsTurn : lockgatelaw2_BitsTurn.Pure := by
  intro l a1 a2 on hm hr hb hw1 hw2
  have hB : Bytes l := fun x hx => by have := bounds_u8 (hb x hx); omega
  have b1 := bounds_i64 hw1
  have b2 := bounds_i64 hw2
  refine ⟨10, ?_⟩
  unfold lockgatelaw2_BitsTurn.f
  rw [alive, Option.bind_some, if_pos rfl]
  by_cases hl : (l.length : Int) > 500
  · rw [decide_eq_true hl]; simp only [lockgatelaw2_BitsTurn.j0, if_true]
  rw [decide_eq_false hl]
  have hl' : l.length < 1000000 := by omega
  -- the row with the bit turned
  obtain ⟨w, hwith, hlen, hBw, hother, hself, hcnt⟩ : ∃ w, (∀ k, bits_With.f (k + 1) l a1 on = some w) ∧ w.length = l.length ∧ Bytes w ∧ (a1 ≠ a2 → gI w a2 = gI l a2) ∧
      gI w a1 = (decide (0 ≤ a1 ∧ a1 < 8 * (l.length : Int)) && on) ∧
      ((cnt w (8 * l.length) : Int) - (cnt l (8 * l.length) : Int) = if decide (0 ≤ a1 ∧ a1 < 8 * (l.length : Int)) then ((bn on : Nat) : Int) - (bn (gI l a1) : Nat) else 0) := by
    by_cases h0 : a1 < 0
    · refine ⟨l, fun k => with_neg hl' h0 on k, rfl, hB, fun _ => rfl, ?_, ?_⟩
      · rw [gI_out hB (by omega), decide_eq_false (by omega)]; rfl
      · rw [decide_eq_false (by omega)]; simp
    · obtain ⟨i, rfl⟩ := Int.eq_ofNat_of_zero_le (show 0 ≤ a1 by omega)
      have hgw : ∀ j : Nat, j < 1152921504606846976 → getB (withB l i on) j = if i = j then (decide (i / 8 < l.length) && on) else getB l j := fun j hj => get_withB hB i j on hj
      refine ⟨withB l i on, fun k => with_nat hl' i (by omega) on k, withB_length l i on, withB_bytes hB i on, ?_, ?_, ?_⟩
      · intro hne
        unfold gI
        split
        · rw [hgw _ (by omega), if_neg (by omega)]
        · rfl
      · by_cases hin : (i : Int) < 8 * (l.length : Int)
        · unfold gI
          rw [if_pos (by omega), hgw _ (by omega), if_pos (by omega), decide_eq_true (by omega), decide_eq_true (by omega)]
        · rw [gI_out (withB_bytes hB i on) (by rw [withB_length]; omega), decide_eq_false (by omega)]; rfl
      · by_cases hin : (i : Int) < 8 * (l.length : Int)
        · have hc := count_turn (getB l) (fun j => if i = j then on else getB l j) i (fun j hj => if_neg (fun e => hj e.symm)) (8 * l.length) 0
          have hcg : (List.range' 0 (8 * l.length)).countP (getB (withB l i on)) = (List.range' 0 (8 * l.length)).countP (fun j => if i = j then on else getB l j) := by
            apply List.countP_congr
            intro j hj
            rw [List.mem_range'_1] at hj
            rw [hgw j (by omega), decide_eq_true (show i / 8 < l.length by omega), Bool.true_and]
          rw [if_pos (by omega), if_pos (by omega), if_pos rfl] at hc
          rw [decide_eq_true (by omega), if_pos rfl]
          unfold cnt
          rw [hcg]
          have hgl : gI l (i : Int) = getB l i := by unfold gI; rw [if_pos (by omega)]; rfl
          rw [hgl]
          omega
        · rw [decide_eq_false (by omega)]
          have : withB l i on = l := by unfold withB; rw [if_neg (by omega)]
          rw [this]; simp
  have hlw : w.length < 1000000 := by omega
  simp only [lockgatelaw2_BitsTurn.j0]
  rw [if_neg (by simp), hwith, Option.bind_some]
  -- whether the place lies in the row
  have hd8 : 0 ≤ a1 → wrap64 (Int.tdiv a1 8) = a1 / 8 := by
    intro h; rw [Int.tdiv_eq_ediv_of_nonneg h]; unfold wrap64; omega
  have key : ∀ k, lockgatelaw2_BitsTurn.j1 (k + 3) l a1 a2 on w (decide (0 ≤ a1 ∧ a1 < 8 * (l.length : Int))) = some true := by
    intro k
    have hw8 : wrap64 (8 * (l.length : Int)) = ((8 * l.length : Nat) : Int) := by unfold wrap64; omega
    have h2 : lockgatelaw2_BitsTurn.j2 (k + 2) l a1 on w (decide (0 ≤ a1 ∧ a1 < 8 * (l.length : Int))) false = some true := by
      simp only [lockgatelaw2_BitsTurn.j2]
      rw [if_neg (by simp), get_any hl' a1 (by omega), hw8, count_ok hlw _ (by omega), count_ok hl' _ (by omega)]
      simp only [Option.bind_some]
      have c1 := count_le w (8 * l.length)
      have c2 := count_le l (8 * l.length)
      have hwr : wrap64 ((cnt w (8 * l.length) : Int) - (cnt l (8 * l.length) : Int)) = (cnt w (8 * l.length) : Int) - (cnt l (8 * l.length) : Int) := by unfold wrap64; omega
      rw [hwr]
      have hgw : bits_Get.f w a1 = some (decide (0 ≤ a1 ∧ a1 < 8 * (l.length : Int)) && on) := by rw [get_any hlw a1 (by omega), hself]
      have hno : decide (0 ≤ a1 ∧ a1 < 8 * (l.length : Int)) = false → gI l a1 = false := fun h => gI_out hB (of_decide_eq_false h)
      have fin := j3_ok k a1 on w _ (gI l a1) _ hgw hno hcnt
      generalize decide (0 ≤ a1 ∧ a1 < 8 * (l.length : Int)) = inn at *
      cases inn <;> cases on <;> simp only [if_true, if_false, Bool.false_eq_true] <;> exact fin _ (by simp)
    simp only [lockgatelaw2_BitsTurn.j1]
    rw [if_pos (by omega)]
    by_cases he : a1 = a2
    · rw [if_pos he]; exact h2
    · rw [if_neg he, get_any hlw a2 (by omega), get_any hl' a2 (by omega)]
      simp only [Option.bind_some]
      rw [hother he, bne_self_eq_false]
      exact h2
  by_cases h0 : a1 ≥ 0
  · rw [if_pos h0, hd8 h0]
    have e : decide (a1 / 8 < (l.length : Int)) = decide (0 ≤ a1 ∧ a1 < 8 * (l.length : Int)) := by rw [decide_eq_decide]; omega
    rw [e]; exact key 6
  · rw [if_neg h0]
    have e : false = decide (0 ≤ a1 ∧ a1 < 8 * (l.length : Int)) := by symm; rw [decide_eq_false_iff_not]; omega
    rw [e]; exact key 6

end Go.Proofs.Ytngkneggkjfiiaa.Pure
