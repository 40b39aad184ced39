/- (*Alloc).Free: how many are free. -/
import Derived.Test.YtppjeikkodjjhaaSteps
import Derived.Test.YtppjeikkodjjhaaA10
import Derived.LoopTactic
namespace Go.Proofs.Ytppjeikkodjjhaa.Given
open Go.RowKit Go.Shelf Go.Proofs.YtppjeikkodjjhaaW.PrintWords Go.Proofs.YtppjeikkodjjhaaW.PrintLast Go.Proofs.YtppjeikkodjjhaaW.PrintMore Go.Proofs.YtppjeikkodjjhaaBase Go.Proofs.Ytppjeikkodjjhaa.PGeo Go.Proofs.Ytppjeikkodjjhaa.PGet Go.Proofs.Ytppjeikkodjjhaa.PWith
set_option linter.unusedVariables false
set_option linter.unusedSimpArgs false

theorem gN_fine {gr i d : Int} {n : Nat} (h : Fine gr i d) (hn : gr = (n : Int)) : gN gr i d = n := by unfold gN; rw [if_pos h, hn]; rfl
/-- how many are free -/
def freeN (l : List Bool) : Nat := l.countP (fun b => !b)
theorem freeN_le (l : List Bool) : freeN l ≤ l.length := List.countP_le_length
theorem seg_row {l : List Bool} {p n k : Nat} (hl : l.length = n * p) (hk : k < n) : (l.drop (k * p)).take p = (List.range p).map (placeF l p k) := by
  have h2 : (k + 1) * p ≤ n * p := Nat.mul_le_mul_right p hk
  rw [Nat.add_mul] at h2
  refine List.ext_getElem (by simp; omega) fun j h1 h3 => ?_
  have hj : j < p := by simp at h3; exact h3
  simp only [List.getElem_take, List.getElem_drop, List.getElem_map, List.getElem_range]
  unfold placeF
  rw [if_pos hj, List.getD_eq_getElem?_getD, List.getElem?_eq_getElem (by omega)]
  rfl
theorem countP_not (f : Nat → Bool) (xs : List Nat) : (xs.map f).countP (fun b => !b) + xs.countP f = xs.length := by
  induction xs with
  | nil => rfl
  | cons x xs ih =>
    rw [List.map_cons, List.countP_cons, List.countP_cons, List.length_cons]
    cases hf : f x <;> simp only [hf, Bool.not_false, Bool.not_true, if_true, Bool.false_eq_true, if_false] <;> omega
theorem freeN_step {l : List Bool} {p n k : Nat} (hl : l.length = n * p) (hk : k < n) :
    freeN (l.take ((k + 1) * p)) + (List.range p).countP (placeF l p k) = freeN (l.take (k * p)) + p ∧ (List.range p).countP (placeF l p k) ≤ p := by
  have e : l.take ((k + 1) * p) = l.take (k * p) ++ (List.range p).map (placeF l p k) := by
    rw [← seg_row hl hk, Nat.add_mul, Nat.one_mul, List.take_add]
  have h1 := countP_not (placeF l p k) (List.range p)
  have h2 : (List.range p).countP (placeF l p k) ≤ p := by
    have := List.countP_le_length (p := placeF l p k) (l := List.range p)
    simpa using this
  rw [List.length_range] at h1
  refine ⟨?_, h2⟩
  unfold freeN at *
  rw [e, List.countP_append]
  omega
theorem freeN_part (l : List Bool) (m : Nat) : freeN (l.take m) ≤ m := by
  refine Nat.le_trans (freeN_le _) ?_
  rw [List.length_take]
  omega

set_option maxRecDepth 100000 in
set_option maxHeartbeats 2000000 in
theorem freeA {base : Nat} {ok : Nat → Prop} {w : World} {g n p q : Nat} {gr i d : Int} {li ld : List Bool} (h : IsAA base ok w g gr i d n p q li ld) :
    Calls Try.prog 16 #[.pointer (some ⟨g, 0, none⟩)] w fun e w' => e = .returned (.tuple #[.int .i64 (freeN li : Int), .int .i64 (freeN ld : Int)]) ∧ Below w.heap.size w w' := by
  obtain ⟨gs, ⟨v, hI, hg, hR⟩, hA⟩ := h
  obtain ⟨A, c, rfl⟩ := Kd.R_slice hR
  have c3 := hI.c3
  have HI := Lib.hid hI
  have HR := Lib.hid hR
  have HA := Lib.hid hA
  have hlen := hA.gok.len
  rw [hlen] at c3
  have HLEN := Lib.hid hlen
  have hn8 := hA.le
  have hnR := (Kd.R_reads' hR)
  clear hI hR hA hg hlen hnR
  go_enter Try.func16, Try.ntmps16
  go_wp2
  go_loopw [4, 5, 13] (fun a b j wr => ∃ k : Nat, k ≤ n ∧ j = .int .i64 (k : Int) ∧ a = .int .i64 (freeN (li.take (k * p)) : Int) ∧ b = .int .i64 (freeN (ld.take (k * q)) : Int) ∧ Hid (Below w.heap.size w wr)) (fun _ _ j _ => n - (intOf j).toNat)
  case atStart => exact ⟨0, Nat.zero_le _, rfl, by simp [freeN], by simp [freeN], Lib.hid (Below.refl _ _)⟩
  case round =>
    obtain ⟨k, hk, rfl, rfl, rfl, HB⟩ := hrel
    by_cases hlt : k < n
    · obtain ⟨e1, e2, e3, hfine⟩ := HA.out.fine (by omega)
      obtain ⟨f1, f2, f3, f4, f5, f6⟩ := hfine
      have hp64 : p ≤ 64 := by omega
      have hq1 : q ≤ 1000 := by omega
      obtain ⟨y, hy⟩ : ∃ y, gs[k]? = some y := ⟨gs[k]'(by rw [HLEN.out]; exact hlt), List.getElem?_eq_getElem _⟩
      obtain ⟨G, c', hv, hG0, hG1, _⟩ := Kd.R_form HR.out (by rw [HLEN.out]; omega)
      injection hv with hv1 _ hv2
      subst hv1 hv2
      have hRw := Kd.R_below HR.out HB.out
      rw [HLEN.out] at hRw
      obtain ⟨A0, a0, A1, a1, hgrp⟩ := grp_at hRw hy
      obtain ⟨hr0, hr1⟩ := HA.out.gok.rows k y hy
      have hc0 := count_row hr0 (by omega) (m := p) (by omega)
      have hc1 := count_row hr1 (by omega) (m := q) (by omega)
      obtain ⟨s0, s1⟩ := freeN_step HA.out.gok.leni hlt
      obtain ⟨t0, t1⟩ := freeN_step HA.out.gok.lend hlt
      have b0 := freeN_part li (k * p)
      have b1 := freeN_part ld (k * q)
      have b2 : k * p ≤ 7 * 64 := Nat.mul_le_mul (by omega) hp64
      have b3 : k * q ≤ 7 * 1000 := Nat.mul_le_mul (by omega) hq1
      obtain ⟨C0, hC0⟩ : ∃ C, (List.range p).countP (placeF li p k) = C := ⟨_, rfl⟩
      obtain ⟨C1, hC1⟩ : ∃ C, (List.range q).countP (placeF ld q k) = C := ⟨_, rfl⟩
      obtain ⟨X0, hX0⟩ : ∃ C, freeN (li.take (k * p)) = C := ⟨_, rfl⟩
      obtain ⟨X1, hX1⟩ : ∃ C, freeN (ld.take (k * q)) = C := ⟨_, rfl⟩
      obtain ⟨Y0, hY0⟩ : ∃ C, freeN (li.take ((k + 1) * p)) = C := ⟨_, rfl⟩
      obtain ⟨Y1, hY1⟩ : ∃ C, freeN (ld.take ((k + 1) * q)) = C := ⟨_, rfl⟩
      rw [hC0] at hc0 s0 s1
      rw [hC1] at hc1 t0 t1
      rw [hX0] at s0 b0 ⊢
      rw [hX1] at t0 b1 ⊢
      rw [hY0] at s0
      rw [hY1] at t0
      have HY0 := Lib.hid hY0
      have HY1 := Lib.hid hY1
      have HC0 := Lib.hid hc0
      have HC1 := Lib.hid hc1
      have HGRP := Lib.hid hgrp
      have HGL := Lib.hid (blk_lt_G hRw)
      have HIW := Lib.hid (HI.out.below HB.out)
      have HE2 := Lib.hid e2
      have HE3 := Lib.hid e3
      have k0 := hgrp.k0
      have k1 := hgrp.k1
      have c3' := HIW.out.c3
      rw [HLEN.out] at c3'
      have hki : (k : Int) < (n : Int) := by omega
      have hk0 : (0 : Int) ≤ (k : Int) := by omega
      have hk7 : (k : Int) ≤ 7 := by omega
      have hX : (X0 : Int) ≤ 1000 := by omega
      have hX' : (X1 : Int) ≤ 10000 := by omega
      have hZ0 : (Y0 : Int) = (X0 : Int) + ((p : Int) - (C0 : Int)) := by omega
      have hZ1 : (Y1 : Int) = (X1 : Int) + ((q : Int) - (C1 : Int)) := by omega
      have HZ0 := Lib.hid hZ0
      have HZ1 := Lib.hid hZ1
      have hq00 : (0 : Int) ≤ (q : Int) - (C1 : Int) := by omega
      have hp00 : (0 : Int) ≤ (p : Int) - (C0 : Int) := by omega
      clear hc0 hc1 hC0 hC1 hX0 hX1 hY0 hY1 e1 e2 e3 hy hgrp hr0 hr1 hRw s0 t0 b0 b1 b2 b3 c3 hZ0 hZ1 hG0 hG1
      go_wp2
      have HBX : Hid ((wr.alloc (.cells #[.slice A0 y.f0.length a0, .slice A1 y.f1.length a1] 54)).heap[wr.heap.size]? = some (.cells #[.slice A0 y.f0.length a0, .slice A1 y.f1.length a1] 54 (0, 0))) := Lib.hid (blk_new wr (.cells #[.slice A0 y.f0.length a0, .slice A1 y.f1.length a1] 54))
      have HBV : Hid (Below wr.heap.size wr (wr.alloc (.cells #[.slice A0 y.f0.length a0, .slice A1 y.f1.length a1] 54))) := Lib.hid (below_alloc (Below.refl _ _) _)
      refine start_ (n := 11) (S := fun w' => w'.cell? ⟨wr.heap.size, 0, none⟩ = some (.slice A0 y.f0.length a0)) (ds := []) #[false, false, false, false, false, false, false, false, false, false, false] (by kernel_rfl) rfl rfl ((blk_cell HBX.out 0).trans rfl) (fun hHeld => ?_)
      have HBX1 : Hid ((wr.alloc (.cells #[.slice A0 y.f0.length a0, .slice A1 y.f1.length a1] 54)).drew.heap[wr.heap.size]? = some (.cells #[.slice A0 y.f0.length a0, .slice A1 y.f1.length a1] 54 (0, 0))) := Lib.hid HBX.out
      have HBV1 : Hid (Below wr.heap.size wr (wr.alloc (.cells #[.slice A0 y.f0.length a0, .slice A1 y.f1.length a1] 54)).drew) := Lib.hid (below_drew HBV.out)
      generalize (wr.alloc (.cells #[.slice A0 y.f0.length a0, .slice A1 y.f1.length a1] 54)).drew = V at hHeld HBX1 HBV1 ⊢
      refine pu_ 0 (some 17) (bm 11 1) ?_
      refine pu_ 1 (some 18) (bm 11 3) ?_
      refine pu_ 3 (some 20) (bm 11 11) ?_
      refine tk1_ 4 (some 21) (bm 11 27) hHeld ?_
      refine pu_ 5 (some 22) (bm 11 59) ?_
      refine one_ (i := 2) (N := some 19) (bm 11 63) rfl rfl (by kernel_rfl) (by decide) (fun K hK => ?_)
      refine goes_ Try.func29 (by kernel_rfl) rfl #[.pointer (some ⟨g, 0, none⟩)] (by rfl) rfl rfl (by (try simp only [List.map_toArray, List.map_cons, List.map_nil]); first | done | rfl) ?_
      refine (perGroup_calls g gr i d _ V p (HIW.out.below HBV1.out) (by omega) (by omega) HE2.out).mono ?_
      rintro e W9 ⟨rfl, rfl⟩
      refine ⟨_, rfl, hK.out _ _ hHeld (fun hHeld => ?_)⟩
      clear hK K
      refine norm_ (a' := ?_) ?_ ?_
      rotate_left
      · show Act.put _ (some 19) _ = _
        simp only [Act.put, List.setIfInBounds_toArray, List.set_cons_zero, List.set_cons_succ, i64_w, i32_w]
        rfl
      refine one_ (i := 6) (N := some 23) (bm 11 127) rfl rfl (by kernel_rfl) (by decide) (fun K hK => ?_)
      refine goes_ Try.func29 (by kernel_rfl) rfl #[.pointer (some ⟨g, 0, none⟩)] (by rfl) rfl rfl (by (try simp only [List.map_toArray, List.map_cons, List.map_nil]); first | done | rfl) ?_
      refine (perGroup_calls g gr i d _ V p (HIW.out.below HBV1.out) (by omega) (by omega) HE2.out).mono ?_
      rintro e W9 ⟨rfl, rfl⟩
      refine ⟨_, rfl, hK.out _ _ hHeld (fun hHeld => ?_)⟩
      clear hK K
      refine norm_ (a' := ?_) ?_ ?_
      rotate_left
      · show Act.put _ (some 23) _ = _
        simp only [Act.put, List.setIfInBounds_toArray, List.set_cons_zero, List.set_cons_succ, i64_w, i32_w]
        rfl
      refine one_ (i := 7) (N := some 24) (bm 11 255) rfl rfl (by kernel_rfl) (by decide) (fun K hK => ?_)
      refine goes_ Try.func35 (by kernel_rfl) rfl #[.slice A0 y.f0.length a0, .int .i64 (p : Int)] (by rfl) rfl rfl (by (try simp only [List.map_toArray, List.map_cons, List.map_nil]); first | done | rfl) ?_
      refine (bits_Count.calls A0 a0 y.f0 (p : Int) _ V (HGRP.out.below HGL.out HBV1.out).r0 HGRP.out.l0 HC0.out).mono ?_
      rintro e V1 ⟨rfl, hb1⟩
      have hS1 := pw_cell_below hb1 hHeld
      have hq1 := (hb1.block _ (blk_lt HBX1.out)).trans HBX1.out
      have HBV2 := Lib.hid (HBV1.out.trans (hb1.mono HBV1.out.size))
      clear hb1
      refine ⟨_, rfl, hK.out _ _ hS1 (fun hHeld => ?_)⟩
      clear hK K
      refine norm_ (a' := ?_) ?_ ?_
      rotate_left
      · show Act.put _ (some 24) _ = _
        simp only [Act.put, List.setIfInBounds_toArray, List.set_cons_zero, List.set_cons_succ, i64_w, i32_w]
        rfl
      have U1 : Hid (wrap64 ((p : Int) - (C0 : Int)) = (p : Int) - (C0 : Int)) := Lib.hid (by unfold wrap64; omega)
      have U2 : Hid (wrap64 ((X0 : Int) + ((p : Int) - (C0 : Int))) = (X0 : Int) + ((p : Int) - (C0 : Int))) := Lib.hid (by unfold wrap64; omega)
      refine pu_ 8 (some 25) (bm 11 511) ?_ (ha := by simp only [Act.put, List.setIfInBounds_toArray, List.set_cons_zero, List.set_cons_succ, i64_w, i32_w, U1.out, U2.out]; rfl)
      refine pu_ 9 (some 26) (bm 11 1023) ?_ (ha := by simp only [Act.put, List.setIfInBounds_toArray, List.set_cons_zero, List.set_cons_succ, i64_w, i32_w, U1.out, U2.out]; rfl)
      refine pu_ 10 (some 4) (bm 11 2047) ?_ (ha := by simp only [Act.put, List.setIfInBounds_toArray, List.set_cons_zero, List.set_cons_succ, i64_w, i32_w, U1.out, U2.out]; rfl)
      refine done_ (by kernel_rfl) ?_
      clear hHeld hS1
      go_wp2
      have HQ1 := Lib.hid hq1
      clear hq1
      refine start_ (n := 17) (S := fun w' => w'.cell? ⟨g, 2, none⟩ = some (.int .i64 (q : Int)) ∧ w'.cell? ⟨wr.heap.size, 1, none⟩ = some (.slice A1 y.f1.length a1)) (ds := []) #[false, false, false, false, false, false, false, false, false, false, false, false, false, false, false, false, false] (by kernel_rfl) rfl rfl ⟨by rw [← HE3.out]; exact (HIW.out.below HBV2.out).c2, (blk_cell HQ1.out 1).trans rfl⟩ (fun hHeld => ?_)
      have HBV3 : Hid (Below wr.heap.size wr V1.drew) := Lib.hid (below_drew HBV2.out)
      clear HBV2
      generalize V1.drew = V2 at hHeld HBV3 ⊢
      have U3 : Hid (wrap64 ((q : Int) - (C1 : Int)) = (q : Int) - (C1 : Int)) := Lib.hid (by unfold wrap64; omega)
      have U4 : Hid (wrap64 ((X1 : Int) + ((q : Int) - (C1 : Int))) = (X1 : Int) + ((q : Int) - (C1 : Int))) := Lib.hid (by unfold wrap64; omega)
      refine pu_ 0 (some 27) (bm 17 1) ?_ (ha := by simp only [Act.put, List.setIfInBounds_toArray, List.set_cons_zero, List.set_cons_succ, i64_w, i32_w, U3.out, U4.out]; rfl)
      refine pu_ 1 (some 28) (bm 17 3) ?_ (ha := by simp only [Act.put, List.setIfInBounds_toArray, List.set_cons_zero, List.set_cons_succ, i64_w, i32_w, U3.out, U4.out]; rfl)
      refine pu_ 2 (some 29) (bm 17 7) ?_ (ha := by simp only [Act.put, List.setIfInBounds_toArray, List.set_cons_zero, List.set_cons_succ, i64_w, i32_w, U3.out, U4.out]; rfl)
      refine pu_ 3 (some 30) (bm 17 15) ?_ (ha := by simp only [Act.put, List.setIfInBounds_toArray, List.set_cons_zero, List.set_cons_succ, i64_w, i32_w, U3.out, U4.out]; rfl)
      refine pu_ 4 (some 31) (bm 17 31) ?_ (ha := by simp only [Act.put, List.setIfInBounds_toArray, List.set_cons_zero, List.set_cons_succ, i64_w, i32_w, U3.out, U4.out]; rfl)
      refine tk2_ 5 (some 32) (bm 17 63) hHeld ?_ (ha := by simp only [Act.put, List.setIfInBounds_toArray, List.set_cons_zero, List.set_cons_succ, i64_w, i32_w, U3.out, U4.out]; rfl)
      refine pu_ 6 (some 33) (bm 17 127) ?_ (ha := by simp only [Act.put, List.setIfInBounds_toArray, List.set_cons_zero, List.set_cons_succ, i64_w, i32_w, U3.out, U4.out]; rfl)
      refine tk2_ 7 (some 34) (bm 17 255) hHeld ?_ (ha := by simp only [Act.put, List.setIfInBounds_toArray, List.set_cons_zero, List.set_cons_succ, i64_w, i32_w, U3.out, U4.out]; rfl)
      refine pu_ 8 (some 35) (bm 17 511) ?_ (ha := by simp only [Act.put, List.setIfInBounds_toArray, List.set_cons_zero, List.set_cons_succ, i64_w, i32_w, U3.out, U4.out]; rfl)
      refine pu_ 9 (some 36) (bm 17 1023) ?_ (ha := by simp only [Act.put, List.setIfInBounds_toArray, List.set_cons_zero, List.set_cons_succ, i64_w, i32_w, U3.out, U4.out]; rfl)
      refine pu_ 10 (some 37) (bm 17 2047) ?_ (ha := by simp only [Act.put, List.setIfInBounds_toArray, List.set_cons_zero, List.set_cons_succ, i64_w, i32_w, U3.out, U4.out]; rfl)
      refine pu_ 11 (some 38) (bm 17 4095) ?_ (ha := by simp only [Act.put, List.setIfInBounds_toArray, List.set_cons_zero, List.set_cons_succ, i64_w, i32_w, U3.out, U4.out]; rfl)
      refine tk2_ 12 (some 39) (bm 17 8191) hHeld ?_ (ha := by simp only [Act.put, List.setIfInBounds_toArray, List.set_cons_zero, List.set_cons_succ, i64_w, i32_w, U3.out, U4.out]; rfl)
      refine one_ (i := 13) (N := some 40) (bm 17 16383) rfl rfl (by kernel_rfl) (by decide) (fun K hK => ?_)
      refine goes_ Try.func35 (by kernel_rfl) rfl #[.slice A1 y.f1.length a1, .int .i64 (q : Int)] (by rfl) rfl rfl (by (try simp only [List.map_toArray, List.map_cons, List.map_nil]); first | done | rfl) ?_
      refine (bits_Count.calls A1 a1 y.f1 (q : Int) _ V2 (HGRP.out.below HGL.out HBV3.out).r1 HGRP.out.l1 HC1.out).mono ?_
      rintro e V3 ⟨rfl, hb3⟩
      have hS3 := And.intro (pw_cell_below hb3 hHeld.1) (pw_cell_below hb3 hHeld.2)
      have HBV2 := Lib.hid (HBV3.out.trans (hb3.mono HBV3.out.size))
      clear hb3
      refine ⟨_, rfl, hK.out _ _ hS3 (fun hHeld => ?_)⟩
      clear hK K
      refine norm_ (a' := ?_) ?_ ?_
      rotate_left
      · show Act.put _ (some 40) _ = _
        simp only [Act.put, List.setIfInBounds_toArray, List.set_cons_zero, List.set_cons_succ, i64_w, i32_w, U3.out, U4.out]
        rfl
      refine pu_ 14 (some 41) (bm 17 32767) ?_ (ha := by simp only [Act.put, List.setIfInBounds_toArray, List.set_cons_zero, List.set_cons_succ, i64_w, i32_w, U3.out, U4.out]; rfl)
      refine pu_ 15 (some 42) (bm 17 65535) ?_ (ha := by simp only [Act.put, List.setIfInBounds_toArray, List.set_cons_zero, List.set_cons_succ, i64_w, i32_w, U3.out, U4.out]; rfl)
      refine pu_ 16 (some 5) (bm 17 131071) ?_ (ha := by simp only [Act.put, List.setIfInBounds_toArray, List.set_cons_zero, List.set_cons_succ, i64_w, i32_w, U3.out, U4.out]; rfl)
      refine done_ (by kernel_rfl) ?_
      clear hHeld hS3
      go_wp2
      go_roundw
      case rel => exact ⟨k + 1, by omega, by go_num, by rw [HY0.out, HZ0.out], by rw [HY1.out, HZ1.out], Lib.hid (HB.out.trans (HBV2.out.mono HB.out.size))⟩
      case measure => simp [intOf]; omega
    · obtain rfl : k = n := by omega
      have e0 : li.take (k * p) = li := List.take_of_length_le (by rw [HA.out.gok.leni]; exact Nat.le_refl _)
      have e1 : ld.take (k * q) = ld := List.take_of_length_le (by rw [HA.out.gok.lend]; exact Nat.le_refl _)
      rw [e0, e1]
      clear e0 e1
      go_wp2
      go_ret2
      exact ⟨rfl, HB.out⟩
end Go.Proofs.Ytppjeikkodjjhaa.Given
