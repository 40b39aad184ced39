/- DinodeFree and DinodeEnds answer true; by hand over the contracts. -/
import Derived.Test.YtdjncafofcpoiaaG9
namespace Go.Proofs.Ytdjncafofcpoiaa.Given
open Go.RowKit Go.Proofs.YtdjncafofcpoiaaW.PrintWords Go.Proofs.YtdjncafofcpoiaaW.PrintLast Go.Proofs.YtdjncafofcpoiaaW.PrintMore Go.Proofs.YtdjncafofcpoiaaBase Go.Proofs.Ytdjncafofcpoiaa.PDFns Go.Proofs.Ytdjncafofcpoiaa.PEqual
set_option linter.unusedVariables false
set_option linter.unusedSimpArgs false
attribute [local go_sem ↓] eql24g neq24g zero24

def oneAt (j : Nat) (v : Int) : List Int := (List.replicate 64 0).set j v
theorem oneAt_len (j : Nat) (v : Int) : (oneAt j v).length = 64 := by simp [oneAt]
theorem oneAt_get (j : Nat) (v : Int) (i : Nat) (hi : i < 64) (hj : j < 64) : (oneAt j v)[i]? = some (if j = i then v else 0) := by
  unfold oneAt
  rw [List.getElem?_set]
  by_cases h : j = i
  · rw [if_pos h, if_pos h, if_pos (by simp; omega)]
  · rw [if_neg h, if_neg h, List.getElem?_replicate, if_pos hi]
theorem oneAt_rd (j : Nat) (v : Int) (i : Nat) (hi : i < 64) (hj : j < 64) : rd (oneAt j v) (i : Int) = if j = i then v else 0 := by
  unfold rd
  rw [Int.toNat_natCast, List.getD_eq_getElem?_getD, oneAt_get j v i hi hj]
  rfl
theorem oneAt_zero (j : Nat) : oneAt j 0 = List.replicate 64 0 := by
  apply List.ext_getElem?
  intro i
  by_cases hi : i < 64
  · unfold oneAt
    rw [List.getElem?_set, List.getElem?_replicate, if_pos hi]
    by_cases h : j = i
    · rw [if_pos h, if_pos (by simp; omega)]
    · rw [if_neg h]
  · rw [List.getElem?_eq_none (by rw [oneAt_len]; omega), List.getElem?_eq_none (by simp; omega)]
theorem oneAt_bytes (j : Nat) (v : Int) (hv : 0 ≤ v ∧ v < 256) : Bytes (oneAt j v) := by
  intro x hx
  rcases List.mem_or_eq_of_mem_set hx with h | h
  · exact zeros_rng x h
  · omega
theorem pack_zero : packI Ino.zero = List.replicate 64 0 := by decide +kernel
theorem oneAt_no (j : Nat) (v : Int) (hj : 2 ≤ j ∧ j ≤ 63) (hv : v ≠ 0) : isI (oneAt j v) = false := by
  cases h : isI (oneAt j v) with
  | false => rfl
  | true =>
    exfalso
    obtain ⟨_, h1, h2⟩ := isI_spec h
    have hk : (readI (oneAt j v)).k = 0 := by
      show val2 (rd (oneAt j v) ((0 : Nat) : Int)) (rd (oneAt j v) ((0 + 1 : Nat) : Int)) = 0
      rw [oneAt_rd j v 0 (by omega) (by omega), oneAt_rd j v (0 + 1) (by omega) (by omega), if_neg (by omega), if_neg (by omega)]
      rfl
    have hf : eqI (readI (oneAt j v)) Ino.zero = true := by
      simp only [okI, freeOk, Bool.and_eq_true] at h1
      have := h1.2
      rw [hk] at this
      simpa using this
    rw [(eqI_iff _ _).1 hf, pack_zero] at h2
    have h3 := oneAt_get j v j (by omega) (by omega)
    rw [← h2, List.getElem?_replicate, if_pos (by omega), if_pos rfl] at h3
    exact hv (Option.some.inj h3).symm

set_option maxRecDepth 100000 in
set_option maxHeartbeats 2000000 in
theorem dinodeFree_out (a v : Int) (w : World) (h : a < 2 ∨ 63 < a) : Calls Try.prog 6 #[.int .i64 a, .int .u8 v] w fun e w' => e = .returned (.bool true) ∧ Below w.heap.size w w' := by
  by_cases h1 : a < 2
  · clear h
    go_enter Try.func6, Try.ntmps6
    go_wp2_with (go_at_call 8; (with_reducible refine (lockgatelaw5_alive.calls true _ rfl).mono ?_); rintro e w1 ⟨rfl, hb1⟩)
    go_ret
    exact ⟨rfl, hb1⟩
  · have h2 : a > 63 := by omega
    clear h
    go_enter Try.func6, Try.ntmps6
    go_wp2_with (go_at_call 8; (with_reducible refine (lockgatelaw5_alive.calls true _ rfl).mono ?_); rintro e w1 ⟨rfl, hb1⟩)
    go_ret
    exact ⟨rfl, hb1⟩

set_option maxRecDepth 100000 in
set_option maxHeartbeats 2000000 in
theorem dinodeFree_in (a : Nat) (v : Int) (w : World) (ha : 2 ≤ a ∧ a ≤ 63) (hv : 0 ≤ v ∧ v < 256) (cd : Int) (hcd : cd = 0 ∨ cd = 5) (hR : ∀ (A0 : Option Addr) (c0 : Nat) (W : World), Kd.C (Kd.int .u8) W A0 64 (oneAt a v) → 64 ≤ c0 → Calls Try.prog 12 #[.slice A0 64 c0] W fun e w' => e = .returned (.tuple #[.agg Ino.zero.cells, .int .i64 cd]) ∧ Below W.heap.size W w') (heq : ((cd == 0) == (v == 0)) = true) :
    Calls Try.prog 6 #[.int .i64 (a : Int), .int .u8 v] w fun e w' => e = .returned (.bool true) ∧ Below w.heap.size w w' := by
  have HR := Lib.hid hR
  have hrefl : ∀ y, eqI y y = true := eqI_refl
  have hmk := make64
  have ha1 : (2 : Int) ≤ (a : Int) := by omega
  have ha2 : (a : Int) ≤ 63 := by omega
  have HA := Lib.hid ha
  clear hR ha
  go_enter Try.func6, Try.ntmps6
  go_upto_region 5 with (go_at_call 8; (with_reducible refine (lockgatelaw5_alive.calls true _ rfl).mono ?_); rintro e w1 ⟨rfl, hb1⟩; have HB1 := Lib.hid hb1; clear hb1)
  have hk1 : (w1.alloc (.cells Z64 5)).heap[w1.heap.size]? = some (.cells Z64 5) := blk_new w1 _
  obtain ⟨V, hV⟩ : ∃ V, V = w1.alloc (.cells Z64 5) := ⟨_, rfl⟩
  obtain ⟨B, hB⟩ : ∃ B, B = w1.heap.size := ⟨_, rfl⟩
  rw [← hV, ← hB] at hk1 ⊢
  have hBV : Below w.heap.size w V := by rw [hV]; exact below_alloc HB1.out _
  have hle : w.heap.size ≤ B := by rw [hB]; exact HB1.out.size
  have hcell : V.cell? ⟨B, a, none⟩ = some (.int .u8 0) := by
    rw [blk_cell hk1, Z64_nums]
    have h1 : a < 64 := by have := HA.out; omega
    rw [List.getElem?_toArray, nums, List.map_replicate, List.getElem?_replicate, if_pos h1]
  have hfr : V.frozen? ⟨B, a, none⟩ = false := blk_frozen hk1 a
  have HS := Lib.hid (blk_set hk1 a (.int .u8 v))
  have HSB := Lib.hid (hBV.setCell (p := ⟨B, a, none⟩) hle (.int .u8 v))
  have HZ : Hid (Z64.setIfInBounds a (.int .u8 v) = (nums .u8 (oneAt a v)).toArray) := Lib.hid (by rw [Z64_nums]; simp [nums, oneAt, List.map_set])
  have HRR : Hid (Kd.C (Kd.int .u8) (V.setCell ⟨B, a, none⟩ (.int .u8 v)) (some ⟨B, 0, none⟩) 64 (oneAt a v)) := Lib.hid (by
    have h := HS.out
    rw [HZ.out] at h
    have := R_of_block (k := .u8) (w := V.setCell ⟨B, a, none⟩ (.int .u8 v)) (B := B) (e := 5) (base := w.heap.size) (ok := fun _ => True) (xs := oneAt a v) h hle trivial (by rw [oneAt_len]; simp [maxLen])
    have h2 := (Kd.R_reads' this).2.2
    rwa [oneAt_len] at h2)
  clear hV hB hk1 hBV HB1 HS
  go_wp2_with (first
    | (go_at_call 12; (with_reducible refine (HR.out _ _ _ HRR.out ?c1).mono ?_); (case c1 => exact Nat.le_refl _); rintro e w2 ⟨rfl, hb2⟩; have HB2 := Lib.hid (HSB.out.trans (hb2.mono HSB.out.size)); clear hb2)
    | (go_at_call 11; (with_reducible refine (num_is cd _).mono ?_); rintro e w3 ⟨rfl, hd⟩; obtain ⟨nd, rfl⟩ := hd.out; clear hd))
  go_ret
  exact ⟨by first | rfl | simp [heq], by repeat (first | exact HB2.out | apply pw_below_drewN | apply below_alloc)⟩
theorem dinodeFree_walk (a v : Int) (w : World) (h0 : (Lit.int .i64 a).wf = true) (h1 : (Lit.int .u8 v).wf = true) : Calls Try.prog 6 #[.int .i64 a, .int .u8 v] w fun e w' => e = .returned (.bool true) ∧ Below w.heap.size w w' := by
  have hv : 0 ≤ v ∧ v < 256 := by have := bounds_u8 h1; omega
  by_cases h : a < 2 ∨ 63 < a
  · exact dinodeFree_out a v w h
  obtain ⟨n, rfl⟩ : ∃ n : Nat, a = n := ⟨a.toNat, by omega⟩
  have hn : 2 ≤ n ∧ n ≤ 63 := by omega
  by_cases hz : v = 0
  · subst hz
    refine dinodeFree_in n 0 w hn hv 0 (.inl rfl) (fun A0 c0 W hC hc => ?_) (by decide)
    rw [oneAt_zero] at hC
    exact Read_yes A0 c0 64 _ W Ino.zero rfl hC hc zeros_rng isI_zeros readI_zeros
  · refine dinodeFree_in n v w hn hv 5 (.inr rfl) (fun A0 c0 W hC hc => ?_) (by simp [hz])
    exact Read_no A0 c0 64 _ W (oneAt_len n v) hC hc (oneAt_bytes n v hv) (oneAt_no n v hn hz)
end Go.Proofs.Ytdjncafofcpoiaa.Given
