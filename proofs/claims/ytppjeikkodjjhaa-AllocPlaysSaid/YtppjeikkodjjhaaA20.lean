/- Bits: what the allocator and its reference tell of a group. -/
import Derived.Test.YtppjeikkodjjhaaSteps
import Derived.Test.YtppjeikkodjjhaaA19
namespace Go.Proofs.Ytppjeikkodjjhaa.Given
open Go.RowKit Go.Shelf Go.Proofs.YtppjeikkodjjhaaW.PrintWords Go.Proofs.YtppjeikkodjjhaaW.PrintLast Go.Proofs.YtppjeikkodjjhaaW.PrintMore Go.Proofs.YtppjeikkodjjhaaBase Go.Proofs.Ytppjeikkodjjhaa.PGeo Go.Proofs.Ytppjeikkodjjhaa.PGet Go.Proofs.Ytppjeikkodjjhaa.PWith
set_option linter.unusedVariables false
set_option linter.unusedSimpArgs false

theorem u64s (n : Nat) (h : n < 8) : IntKind.u64.wrap ((n : Nat) : Int) = (n : Int) := by
  have : ∀ i : Fin 8, IntKind.u64.wrap ((i.val : Nat) : Int) = (i.val : Int) := by decide +kernel
  exact this ⟨n, h⟩
theorem rwith_same {l : List Int} (hl : l.length < 1000000) (i : Int) (hi : i < 9223372036854775808) (on : Bool) (k : Nat) : ∃ r, r.length = l.length ∧ bits_With.f (k + 1) l i on = some r ∧ lockgateref1_With.f (k + 1) l i on = some r := by
  unfold lockgateref1_With.f
  rw [if_pos (by simp; omega), List.nil_append, Option.bind_some]
  by_cases h0 : i < 0
  · refine ⟨l, rfl, with_neg hl h0 on k, ?_⟩
    rw [if_pos h0]
    simp only [lockgateref1_With.j0, if_true]
  · obtain ⟨n, rfl⟩ := Int.eq_ofNat_of_zero_le (show 0 ≤ i by omega)
    refine ⟨withB l n on, withB_length _ _ _, with_nat hl n hi on k, ?_⟩
    have hd : wrap64 (Int.tdiv (n : Int) 8) = ((n / 8 : Nat) : Int) := by
      rw [Int.tdiv_eq_ediv_of_nonneg (by omega)]; unfold wrap64; omega
    have hm : Int.tmod (n : Int) 8 = ((n % 8 : Nat) : Int) := by rw [Int.tmod_eq_emod_of_nonneg (by omega)]; omega
    rw [hd, if_neg h0]
    unfold withB
    by_cases hj : n / 8 < l.length
    · rw [decide_eq_false (show ¬ (((n / 8 : Nat) : Int) ≥ (l.length : Int)) by omega), if_pos hj]
      simp only [lockgateref1_With.j0, hd, hm, u64s (n % 8) (by omega)]
      rw [if_neg (by simp), if_pos (show (0 : Int) ≤ ((n % 8 : Nat) : Int) by omega), if_pos (show (0 : Int) ≤ ((n / 8 : Nat) : Int) by omega), if_pos (show ((n / 8 : Nat) : Int) < (l.length : Int) by omega)]
      simp only [Option.bind_some, Int.toNat_natCast, rd, clr, sett]
      cases on with
      | false => simp only [Bool.false_eq_true, if_false]
      | true =>
        simp only [if_true]
        have e : (l.set (n / 8) (Go.bits .andNot .u8 (l.getD (n / 8) 0) (shl .u8 1 ((n % 8 : Nat) : Int)))).getD (n / 8) 0 = Go.bits .andNot .u8 (l.getD (n / 8) 0) (shl .u8 1 ((n % 8 : Nat) : Int)) := by
          rw [List.getD_eq_getElem?_getD, List.getElem?_set_self hj]; rfl
        rw [e, List.set_set]
    · rw [decide_eq_true (show ((n / 8 : Nat) : Int) ≥ (l.length : Int) by omega), if_neg hj]
      simp only [lockgateref1_With.j0, if_true]
theorem rwith_is {l : List Int} (hl : l.length < 1000000) (i : Nat) (hi : (i : Int) < 9223372036854775808) (on : Bool) : lockgateref1_With.f 1 l i on = some (withB l i on) := by
  obtain ⟨r, _, h1, h2⟩ := rwith_same hl (i : Int) hi on 0
  rw [with_nat hl i hi on 0] at h1
  rw [h2, ← h1]
/-- what is told of group k -/
def BitsOf (n p q : Nat) (li ld : List Bool) (k : Int) (b0 b1 : List Int) : Prop :=
  if 0 ≤ k ∧ k < (n : Int) then RowB 8 b0 (placeF li p k.toNat) ∧ RowB ((q + 7) / 8) b1 (placeF ld q k.toNat) else b0 = [] ∧ b1 = []
theorem BitsOf.same {n p q : Nat} {li ld : List Bool} {k : Int} {b0 b1 c0 c1 : List Int} (hq : 0 < n → q ≤ 1000) (h : BitsOf n p q li ld k b0 b1) (h' : BitsOf n p q li ld k c0 c1) : b0 = c0 ∧ b1 = c1 := by
  unfold BitsOf at h h'
  by_cases hk : 0 ≤ k ∧ k < (n : Int)
  · rw [if_pos hk] at h h'
    have := hq (by omega)
    exact ⟨h.1.unique h'.1 (by omega), h.2.unique h'.2 (by omega)⟩
  · rw [if_neg hk] at h h'
    exact ⟨h.1.trans h'.1.symm, h.2.trans h'.2.symm⟩
set_option maxRecDepth 100000 in
set_option maxHeartbeats 2000000 in
theorem bitsA {base : Nat} {ok : Nat → Prop} {w : World} {g n p q : Nat} {gr i d : Int} {li ld : List Bool} (k : Int) (h : IsAA base ok w g gr i d n p q li ld) :
    Calls Try.prog 24 #[.pointer (some ⟨g, 0, none⟩), .int .i64 k] w fun e w' => ∃ v0 v1 b0 b1, e = .returned (.tuple #[v0, v1]) ∧ (Kd.R (Kd.int .u8) 5 w' w.heap.size (fun _ => True) v0 b0 ∧ Kd.R (Kd.int .u8) 5 w' w.heap.size (fun _ => True) v1 b1) ∧ BitsOf n p q li ld k b0 b1 ∧ Below w.heap.size w w' := by
  obtain ⟨gs, ⟨v, hI, hg, hR⟩, hA⟩ := h
  obtain ⟨A, c, rfl⟩ := Kd.R_slice hR
  have hlen := hA.gok.len
  have c3 := hI.c3
  rw [hlen] at c3
  have HI := Lib.hid hI
  have HA := Lib.hid hA
  have HLEN := Lib.hid hlen
  by_cases hk : 0 ≤ k ∧ k < (n : Int)
  · obtain ⟨m, rfl⟩ : ∃ m : Nat, k = m := ⟨k.toNat, by omega⟩
    have hm : m < n := by omega
    obtain ⟨y, hy⟩ : ∃ y, gs[m]? = some y := ⟨gs[m]'(by omega), List.getElem?_eq_getElem _⟩
    obtain ⟨G, c', hv, _, _, _⟩ := Kd.R_form hR (by omega)
    injection hv with hv1 _ hv2
    subst hv1 hv2
    rw [hlen] at hR
    obtain ⟨A0, a0, A1, a1, hgrp⟩ := grp_at hR hy
    have hrows := hA.gok.rows m y hy
    obtain ⟨_, _, _, f1, f2, f3, f4, f5, f6⟩ := hA.fine (by omega)
    have hy0 : y.f0.length < 1000000 := by rw [hrows.1.1]; omega
    have hq1 : q ≤ 1000 := by obtain ⟨_, _, e3, _⟩ := hA.fine (by omega); omega
    have hy1 : y.f1.length < 1000000 := by rw [hrows.2.1]; omega
    have HGRP := Lib.hid hgrp
    have HGL := Lib.hid (blk_lt_G hR)
    have HB : Hid (BitsOf n p q li ld (m : Int) y.f0 y.f1) := Lib.hid (by unfold BitsOf; rw [if_pos hk, Int.toNat_natCast]; exact hrows)
    have k0 := hgrp.k0
    have k1 := hgrp.k1
    have t1 : decide ((m : Int) < 0) = false := decide_eq_false (by omega)
    have t2 : decide ((m : Int) ≥ (n : Int)) = false := decide_eq_false (by omega)
    have m0 : (0 : Int) ≤ (m : Int) := by omega
    have m1 : (m : Int) < (n : Int) := by omega
    have m2 : (m : Int) ≤ 8 := by have := HA.out.le; omega
    have hcl0 : slices_Clone_byte_byte.f y.f0 = some y.f0 := clone_ok hy0
    have hcl1 : slices_Clone_byte_byte.f y.f1 = some y.f1 := clone_ok hy1
    have HCL0 := Lib.hid hcl0
    have HCL1 := Lib.hid hcl1
    clear hI hg hR hA hlen hy hgrp hrows f1 f2 f3 f4 f5 f6 hk hcl0 hcl1
    go_enter Try.func24, Try.ntmps24
    go_wp2
    refine start_ (n := 20) (S := fun w' => w'.cell? ⟨g, 3, none⟩ = some (.slice (some ⟨G, 0, none⟩) n c) ∧ w'.cell? ⟨G, m * 2, none⟩ = some (.slice A0 y.f0.length a0) ∧ w'.cell? ⟨G, m * 2 + 1, none⟩ = some (.slice A1 y.f1.length a1)) (ds := []) #[false, false, false, false, false, false, false, false, false, false, false, false, false, false, false, false, false, false, false, false] (by kernel_rfl) rfl rfl ⟨c3, HGRP.out.k0, HGRP.out.k1⟩ (fun hHeld => ?_)
    refine pu_ 0 (some 17) (bm 20 1) ?_
    refine pu_ 1 (some 18) (bm 20 3) ?_
    refine pu_ 2 (some 19) (bm 20 7) ?_
    refine tk3_ 3 (some 20) (bm 20 15) hHeld ?_
    refine pu_ 4 (some 21) (bm 20 31) ?_
    refine pu_ 5 (some 22) (bm 20 63) ?_
    refine pu_ 6 (some 23) (bm 20 127) ?_
    refine tk3_ 7 (some 24) (bm 20 255) hHeld ?_
    refine pu_ 9 (some 26) (bm 20 767) ?_
    refine pu_ 10 (some 27) (bm 20 1791) ?_
    refine pu_ 11 (some 28) (bm 20 3839) ?_
    refine tk3_ 12 (some 29) (bm 20 7935) hHeld ?_
    refine pu_ 13 (some 30) (bm 20 16127) ?_
    refine pu_ 14 (some 31) (bm 20 32511) ?_
    refine pu_ 15 (some 32) (bm 20 65279) ?_
    refine tk3_ 16 (some 33) (bm 20 130815) hHeld ?_
    refine one_ (i := 8) (N := some 25) (bm 20 131071) rfl rfl (by kernel_rfl) (by decide) (fun K hK => ?_)
    refine goes_ Try.func38 (by kernel_rfl) rfl #[.slice A0 y.f0.length a0] (by rfl) rfl rfl (by (try simp only [List.map_toArray, List.map_cons, List.map_nil]); first | done | rfl) ?_
    refine (slices_Clone_byte_byte.calls A0 a0 y.f0 _ _ (HGRP.out.below HGL.out (below_drew (Below.refl _ w))).r0 HGRP.out.l0 HCL0.out).mono ?_
    rintro e w1 ⟨v0, rfl, hR0, hb1⟩
    obtain ⟨X0, x0, rfl⟩ := Kd.R_slice hR0
    have HBW1 : Hid (Below w.heap.size w w1) := Lib.hid ((below_drew (Below.refl _ w)).trans hb1)
    have HR0a := Lib.hid hR0
    have hS1 := And.intro (pw_cell_below hb1 hHeld.1) (And.intro (pw_cell_below hb1 hHeld.2.1) (pw_cell_below hb1 hHeld.2.2))
    clear hR0 hb1
    refine ⟨_, rfl, hK.out _ _ hS1 (fun hHeld => ?_)⟩
    clear hK K
    refine norm_ (a' := ?_) ?_ ?_
    rotate_left
    · show Act.put _ (some 25) _ = _
      simp only [Act.put, List.setIfInBounds_toArray, List.set_cons_zero, List.set_cons_succ, i64_w, i32_w]
      rfl
    refine one_ (i := 17) (N := some 34) (bm 20 262143) rfl rfl (by kernel_rfl) (by decide) (fun K hK => ?_)
    refine goes_ Try.func38 (by kernel_rfl) rfl #[.slice A1 y.f1.length a1] (by rfl) rfl rfl (by (try simp only [List.map_toArray, List.map_cons, List.map_nil]); first | done | rfl) ?_
    refine (slices_Clone_byte_byte.calls A1 a1 y.f1 _ _ (HGRP.out.below HGL.out HBW1.out).r1 HGRP.out.l1 HCL1.out).mono ?_
    rintro e w2 ⟨v1, rfl, hR1, hb2⟩
    obtain ⟨X1, x1, rfl⟩ := Kd.R_slice hR1
    have HBW : Hid (Below w.heap.size w w2) := Lib.hid (HBW1.out.trans (hb2.mono HBW1.out.size))
    have HR1 : Hid (Kd.R (Kd.int .u8) 5 w2 w.heap.size (fun _ => True) (.slice X1 y.f1.length x1) y.f1) := Lib.hid (Kd.R_lower hR1 HBW1.out.size)
    have HR0 : Hid (Kd.R (Kd.int .u8) 5 w2 w.heap.size (fun _ => True) (.slice X0 y.f0.length x0) y.f0) := Lib.hid (Kd.R_below HR0a.out hb2)
    have hS2 := And.intro (pw_cell_below hb2 hHeld.1) (And.intro (pw_cell_below hb2 hHeld.2.1) (pw_cell_below hb2 hHeld.2.2))
    clear hR1 hb2
    refine ⟨_, rfl, hK.out _ _ hS2 (fun hHeld => ?_)⟩
    clear hK K
    refine norm_ (a' := ?_) ?_ ?_
    rotate_left
    · show Act.put _ (some 34) _ = _
      simp only [Act.put, List.setIfInBounds_toArray, List.set_cons_zero, List.set_cons_succ, i64_w, i32_w]
      rfl
    refine pu_ 18 (some 4) (bm 20 524287) ?_
    refine pu_ 19 (some 5) (bm 20 1048575) ?_
    refine done_ (by kernel_rfl) ?_
    clear hHeld hS1 hS2
    go_wp2
    go_ret2
    exact ⟨_, _, y.f0, y.f1, rfl, ⟨HR0.out, HR1.out⟩, HB.out, HBW.out⟩
  · have HB : Hid (BitsOf n p q li ld k [] []) := Lib.hid (by unfold BitsOf; rw [if_neg hk]; exact ⟨rfl, rfl⟩)
    clear hI hg hR hA hlen
    by_cases hn : k < 0
    · have t1 : decide (k < 0) = true := decide_eq_true hn
      go_enter Try.func24, Try.ntmps24
      go_wp2
      go_ret2
      exact ⟨_, _, [], [], rfl, ⟨Kd.R_nil _ _ _ _ _, Kd.R_nil _ _ _ _ _⟩, HB.out, Below.refl _ _⟩
    · have t1 : decide (k < 0) = false := decide_eq_false hn
      have t2 : decide (k ≥ (n : Int)) = true := decide_eq_true (by omega)
      have t3 : decide ((n : Int) ≤ k) = true := decide_eq_true (by omega)
      go_enter Try.func24, Try.ntmps24
      go_wp2
      go_ret2
      exact ⟨_, _, rfl, [], [], ⟨Kd.R_nil _ _ _ _ _, Kd.R_nil _ _ _ _ _⟩, HB.out, Below.refl _ _⟩
theorem rhead_in {gr i d : Int} {n p : Nat} (h : Fine gr i d) (hn : gr = (n : Int)) (k : Nat) (hk : k < n) : ∃ r, lockgateref1_Head.f gr i d (k : Int) = some (r, true) := by
  obtain ⟨r, h1, h2⟩ := inodes_same gr i d
  unfold lockgateref1_Head.f
  rw [good_fine h, Option.bind_some, if_pos rfl, if_neg (by omega), if_neg (by omega)]
  exact ⟨_, rfl⟩
theorem rhead_out {gr i d k : Int} {n : Nat} (h0 : n = 0 → ¬ Fine gr i d) (hn : 0 < n → gr = (n : Int)) (hk : ¬ (0 ≤ k ∧ k < (n : Int))) : lockgateref1_Head.f gr i d k = some (0, false) := by
  unfold lockgateref1_Head.f
  by_cases hf : Fine gr i d
  · rcases Nat.eq_zero_or_pos n with h | h
    · exact absurd hf (h0 h)
    · have := hn h
      rw [good_fine hf, Option.bind_some, if_pos rfl]
      by_cases hneg : k < 0
      · rw [if_pos hneg]
      · rw [if_neg hneg, if_pos (by omega)]
  · rw [good_not hf, Option.bind_some, if_neg (by simp)]
theorem RowB.next {nb : Nat} {b : List Int} {l : List Bool} {at0 m : Nat} (h : RowB nb b (fun j => if j < m then l.getD (at0 + j) false else false)) (hnb : nb < 1000000) (hm : m < nb * 8) : RowB nb (withB b m (l.getD (at0 + m) false)) (fun j => if j < m + 1 then l.getD (at0 + j) false else false) := by
  refine (h.with hnb m (l.getD (at0 + m) false) hm).congr fun j hj => ?_
  by_cases e : m = j
  · subst e; rw [if_pos rfl, if_pos (by omega)]
  · rw [if_neg e]
    by_cases hlt : j < m
    · rw [if_pos hlt, if_pos (by omega)]
    · rw [if_neg hlt, if_neg (by omega)]
set_option maxRecDepth 100000 in
set_option maxHeartbeats 2000000 in
theorem rBits (g Bi Bb n p q : Nat) (gr i d : Int) (li ld : List Bool) (k : Int) (w : World) (h : IsR w g Bi Bb gr i d li ld) (hl : li.length = n * p) (hlb : ld.length = n * q)
    (hf : 0 < n → gr = (n : Int) ∧ i * 16 = (p : Int) ∧ d = (q : Int) ∧ Fine gr i d) (h0 : n = 0 → ¬ Fine gr i d) :
    Calls Try.prog 25 #[.pointer (some ⟨g, 0, none⟩), .int .i64 k] w fun e w' => ∃ v0 v1 b0 b1, e = .returned (.tuple #[v0, v1]) ∧ (Kd.R (Kd.int .u8) 5 w' w.heap.size (fun _ => True) v0 b0 ∧ Kd.R (Kd.int .u8) 5 w' w.heap.size (fun _ => True) v1 b1) ∧ BitsOf n p q li ld k b0 b1 ∧ Below w.heap.size w w' := by
  have c0 := h.c0
  have c1 := h.c1
  have c2 := h.c2
  have HIW0 := Lib.hid h
  clear h
  by_cases hk : 0 ≤ k ∧ k < (n : Int)
  · obtain ⟨k, rfl⟩ : ∃ m : Nat, k = m := ⟨k.toNat, by omega⟩
    have hkn : k < n := by omega
    obtain ⟨f1, f2, f3, f4⟩ := hf (by omega)
    obtain ⟨rh, hhd⟩ := rhead_in (p := p) f4 f1 k hkn
    obtain ⟨f41, f42, f43, f44, f45, f46⟩ := f4
    have hn8 : n ≤ 8 := by omega
    have hp8 : p ≤ 8 * 8 := by omega
    have hq8 : q ≤ 1000 := by omega
    have hki8 : k ≤ 8 := by omega
    have HHD := Lib.hid hhd
    have HI16 := Lib.hid f2
    have HNP : Hid (∀ m, m < p → k * p + m < li.length) := Lib.hid (fun m hm => by rw [hl]; exact Nat.lt_of_lt_of_le (by rw [Nat.add_one_mul]; omega : k * p + m < (k + 1) * p) (Nat.mul_le_mul_right p hkn))
    have HNQ : Hid (∀ m, m < q → k * q + m < ld.length) := Lib.hid (fun m hm => by rw [hlb]; exact Nat.lt_of_lt_of_le (by rw [Nat.add_one_mul]; omega : k * q + m < (k + 1) * q) (Nat.mul_le_mul_right q hkn))
    have HBI : Hid (∀ b0 b1, RowB 8 b0 (fun j => if j < p then li.getD (k * p + j) false else false) → RowB ((q + 7) / 8) b1 (fun j => if j < q then ld.getD (k * q + j) false else false) → BitsOf n p q li ld (k : Int) b0 b1) := Lib.hid (fun b0 b1 x0 x1 => by unfold BitsOf; rw [if_pos hk, Int.toNat_natCast]; exact ⟨x0, x1⟩)
    have hkp : k * p ≤ 8 * (8 * 8) := Nat.mul_le_mul hki8 hp8
    have hkq : k * q ≤ 8 * 1000 := Nat.mul_le_mul hki8 hq8
    have hU2 : (k : Int) * 16 * i = ((k * p : Nat) : Int) := by rw [Int.natCast_mul, ← f2, Int.mul_assoc, Int.mul_comm 16 i]
    have hU3 : (k : Int) * d = ((k * q : Nat) : Int) := by rw [Int.natCast_mul, f3]
    have hi16 : wrap64 (16 * i) = (p : Int) := by rw [w64_id (by omega) (by omega)]; omega
    have HU1 : Hid (wrap64 ((k : Int) * 16) = (k : Int) * 16) := Lib.hid (w64_id (by omega) (by omega))
    have HU2 : Hid (wrap64 ((k : Int) * 16 * i) = ((k * p : Nat) : Int)) := Lib.hid (by rw [hU2]; exact w64_id (by omega) (by omega))
    have HU3 : Hid (wrap64 ((k : Int) * d) = ((k * q : Nat) : Int)) := Lib.hid (by rw [hU3]; exact w64_id (by omega) (by omega))
    have HU4 := Lib.hid hi16
    have HD := Lib.hid f3
    clear hi16 hU2 hU3 f1 f2 f3 f41 f42 f43 f44 f45 f46 hhd hf h0 hl hlb hk
    generalize hP0 : k * p = P0 at HNP HBI HU2 hkp
    generalize hQ0 : k * q = Q0 at HNQ HBI HU3 hkq
    clear hP0 hQ0
    go_enter Try.func25, Try.ntmps25
    go_wp2_with (first | (go_at_call 32; refine (lockgateref1_Head.calls gr i d (k : Int) _ _ _ HHD.out).mono ?_; rintro e w1 ⟨rfl, hb⟩; obtain ⟨w2, hmk, hrow, hb2⟩ := madeR w1 8 8 rfl (by omega); have HROW := Lib.hid hrow; have HB2 := Lib.hid (hb.trans (hb2.mono hb.size)); have HZ1 := Lib.hid hb.size; clear hb hb2 hrow))
    go_loopw [8, 9] (fun x j wr => ∃ (m : Nat) (b : List Int), m ≤ p ∧ j = .int .i64 (m : Int) ∧ Hid (Kd.R (Kd.int .u8) 5 wr w.heap.size (fun _ => True) x b ∧ RowB 8 b (fun j => if j < m then li.getD (P0 + j) false else false) ∧ Below w.heap.size w wr)) (fun _ j _ => p - (intOf j).toNat)
    case atStart => exact ⟨0, List.replicate 8 0, Nat.zero_le _, rfl, Lib.hid ⟨Kd.R_lower HROW.out HZ1.out, (RowB.zero 8 (by omega)).congr (fun j hj => by rw [if_neg (by omega)]), HB2.out⟩⟩
    case round =>
      obtain ⟨m, b, hm, rfl, hst⟩ := hrel
      clear hmk HROW HB2 HZ1
      obtain ⟨hR, hRow, hB⟩ := hst.out
      obtain ⟨XA, xc, rfl, hcl, hCb⟩ := Kd.R_reads hR
      have HIW : Hid (IsR wr g Bi Bb gr i d li ld) := Lib.hid (HIW0.out.below hB)
      have c0 := HIW.out.c0
      have c1 := HIW.out.c1
      have c2 := HIW.out.c2
      have HCB := Lib.hid hCb
      have HCL := Lib.hid hcl
      have HROW := Lib.hid hRow
      have HBW := Lib.hid hB
      have HRX := Lib.hid hR
      have hb8 : b.length = 8 := hRow.1
      clear hR hRow hB hCb hcl hst
      by_cases hlt : m < p
      · obtain ⟨Pn, hPn⟩ : ∃ x, P0 + m = x := ⟨_, rfl⟩
        have hPl : Pn < li.length := hPn ▸ HNP.out m hlt
        obtain ⟨s, hs⟩ : ∃ s, li.getD Pn false = s := ⟨_, rfl⟩
        have HS1 : Hid (wr.cell? ⟨Bi, Pn, none⟩ = some (.bool s)) := Lib.hid (hs ▸ HIW.out.2.1.1.cell hPl)
        have HWI : Hid (lockgateref1_With.f 1 b (m : Int) s = some (withB b m s)) := Lib.hid (rwith_is (by omega) m (by omega) s)
        have HRN : Hid (RowB 8 (withB b m s) (fun j => if j < m + 1 then li.getD (P0 + j) false else false)) := Lib.hid (by have := HROW.out.next (by omega) (show m < 8 * 8 by omega); rw [hPn, hs] at this; exact this)
        have U3 : Hid (wrap64 ((P0 : Int) + (m : Int)) = (Pn : Int)) := Lib.hid (by rw [← hPn, Int.natCast_add]; exact w64_id (by omega) (by omega))
        have hP0 : (0 : Int) ≤ (Pn : Int) := by omega
        have hP1 : (Pn : Int) < (li.length : Int) := by omega
        have U1 := HU1
        have U2 := HU2
        have t1 : decide ((m : Int) < wrap64 (16 * i)) = true := decide_eq_true (by rw [HU4.out]; omega)
        clear hs hPn hb8 hPl
        go_wp2
        refine start_ (n := 20) (S := fun w' => w'.cell? ⟨g, 3, none⟩ = some (.slice (some ⟨Bi, 0, none⟩) li.length li.length) ∧ w'.cell? ⟨g, 1, none⟩ = some (.int .i64 i) ∧ w'.cell? ⟨Bi, Pn, none⟩ = some (.bool s)) (ds := []) #[false, false, false, false, false, false, false, false, false, false, false, false, false, false, false, false, false, false, false, false] (by kernel_rfl) rfl rfl ⟨HIW.out.c3, HIW.out.c1, HS1.out⟩ (fun hHeld => ?_)
        have HBD : Hid (Below wr.heap.size wr wr.drew) := Lib.hid (below_drew (Below.refl _ wr))
        generalize wr.drew = wd at hHeld HBD ⊢
        refine pu_ 0 (some 34) (bm 20 1) ?_ (ha := by simp only [Act.put, List.setIfInBounds_toArray, List.set_cons_zero, List.set_cons_succ, i64_w, i32_w, U1.out, U2.out, U3.out]; rfl)
        refine pu_ 1 (some 35) (bm 20 3) ?_ (ha := by simp only [Act.put, List.setIfInBounds_toArray, List.set_cons_zero, List.set_cons_succ, i64_w, i32_w, U1.out, U2.out, U3.out]; rfl)
        refine pu_ 2 (some 36) (bm 20 7) ?_ (ha := by simp only [Act.put, List.setIfInBounds_toArray, List.set_cons_zero, List.set_cons_succ, i64_w, i32_w, U1.out, U2.out, U3.out]; rfl)
        refine pu_ 3 (some 37) (bm 20 15) ?_ (ha := by simp only [Act.put, List.setIfInBounds_toArray, List.set_cons_zero, List.set_cons_succ, i64_w, i32_w, U1.out, U2.out, U3.out]; rfl)
        refine pu_ 4 (some 38) (bm 20 31) ?_ (ha := by simp only [Act.put, List.setIfInBounds_toArray, List.set_cons_zero, List.set_cons_succ, i64_w, i32_w, U1.out, U2.out, U3.out]; rfl)
        refine tk3_ 5 (some 39) (bm 20 63) hHeld ?_ (ha := by simp only [Act.put, List.setIfInBounds_toArray, List.set_cons_zero, List.set_cons_succ, i64_w, i32_w, U1.out, U2.out, U3.out]; rfl)
        refine pu_ 6 (some 40) (bm 20 127) ?_ (ha := by simp only [Act.put, List.setIfInBounds_toArray, List.set_cons_zero, List.set_cons_succ, i64_w, i32_w, U1.out, U2.out, U3.out]; rfl)
        refine pu_ 7 (some 41) (bm 20 255) ?_ (ha := by simp only [Act.put, List.setIfInBounds_toArray, List.set_cons_zero, List.set_cons_succ, i64_w, i32_w, U1.out, U2.out, U3.out]; rfl)
        refine pu_ 8 (some 42) (bm 20 511) ?_ (ha := by simp only [Act.put, List.setIfInBounds_toArray, List.set_cons_zero, List.set_cons_succ, i64_w, i32_w, U1.out, U2.out, U3.out]; rfl)
        refine pu_ 9 (some 43) (bm 20 1023) ?_ (ha := by simp only [Act.put, List.setIfInBounds_toArray, List.set_cons_zero, List.set_cons_succ, i64_w, i32_w, U1.out, U2.out, U3.out]; rfl)
        refine pu_ 10 (some 44) (bm 20 2047) ?_ (ha := by simp only [Act.put, List.setIfInBounds_toArray, List.set_cons_zero, List.set_cons_succ, i64_w, i32_w, U1.out, U2.out, U3.out]; rfl)
        refine pu_ 11 (some 45) (bm 20 4095) ?_ (ha := by simp only [Act.put, List.setIfInBounds_toArray, List.set_cons_zero, List.set_cons_succ, i64_w, i32_w, U1.out, U2.out, U3.out]; rfl)
        refine tk3_ 12 (some 46) (bm 20 8191) hHeld ?_ (ha := by simp only [Act.put, List.setIfInBounds_toArray, List.set_cons_zero, List.set_cons_succ, i64_w, i32_w, U1.out, U2.out, U3.out]; rfl)
        refine pu_ 13 (some 47) (bm 20 16383) ?_ (ha := by simp only [Act.put, List.setIfInBounds_toArray, List.set_cons_zero, List.set_cons_succ, i64_w, i32_w, U1.out, U2.out, U3.out]; rfl)
        refine pu_ 14 (some 48) (bm 20 32767) ?_ (ha := by simp only [Act.put, List.setIfInBounds_toArray, List.set_cons_zero, List.set_cons_succ, i64_w, i32_w, U1.out, U2.out, U3.out]; rfl)
        refine pu_ 15 (some 49) (bm 20 65535) ?_ (ha := by simp only [Act.put, List.setIfInBounds_toArray, List.set_cons_zero, List.set_cons_succ, i64_w, i32_w, U1.out, U2.out, U3.out]; rfl)
        refine pu_ 16 (some 50) (bm 20 131071) ?_ (ha := by simp only [Act.put, List.setIfInBounds_toArray, List.set_cons_zero, List.set_cons_succ, i64_w, i32_w, U1.out, U2.out, U3.out]; rfl)
        refine tk3_ 17 (some 51) (bm 20 262143) hHeld ?_ (ha := by simp only [Act.put, List.setIfInBounds_toArray, List.set_cons_zero, List.set_cons_succ, i64_w, i32_w, U1.out, U2.out, U3.out]; rfl)
        refine one_ (i := 18) (N := some 52) (bm 20 524287) rfl rfl (by kernel_rfl) (by decide) (fun K hK => ?_)
        refine goes_ Try.func39 (by kernel_rfl) rfl #[.slice XA b.length xc, .int .i64 (m : Int), .bool s] (by rfl) rfl rfl (by (try simp only [List.map_toArray, List.map_cons, List.map_nil]); first | done | rfl) ?_
        refine (lockgateref1_With.calls 1 XA xc b (m : Int) s _ _ (Kd.C_below HCB.out HBD.out) HCL.out HWI.out).mono ?_
        rintro e w5 ⟨v5, rfl, hR5, hb5⟩
        obtain ⟨X5, x5, rfl⟩ := Kd.R_slice hR5
        have HR5 : Hid (Kd.R (Kd.int .u8) 5 w5 w.heap.size (fun _ => True) (.slice X5 (withB b m s).length x5) (withB b m s)) := Lib.hid (Kd.R_lower hR5 (Nat.le_trans HBW.out.size HBD.out.size))
        have HBE : Hid (Below wr.heap.size wr w5) := Lib.hid (HBD.out.trans (hb5.mono HBD.out.size))
        have hS5 := And.intro (pw_cell_below hb5 hHeld.1) (And.intro (pw_cell_below hb5 hHeld.2.1) (pw_cell_below hb5 hHeld.2.2))
        clear hR5 hb5
        refine ⟨_, rfl, hK.out _ _ hS5 (fun hHeld => ?_)⟩
        clear hK K
        refine norm_ (a' := ?_) ?_ ?_
        rotate_left
        · show Act.put _ (some 52) _ = _
          simp only [Act.put, List.setIfInBounds_toArray, List.set_cons_zero, List.set_cons_succ, i64_w, i32_w, U1.out, U2.out, U3.out]
          rfl
        refine pu_ 19 (some 8) (bm 20 1048575) ?_ (ha := by simp only [Act.put, List.setIfInBounds_toArray, List.set_cons_zero, List.set_cons_succ, i64_w, i32_w, U1.out, U2.out, U3.out]; rfl)
        refine done_ (by kernel_rfl) ?_
        clear hHeld hS5
        go_wp2
        go_round
        case rel => exact ⟨m + 1, withB b m s, by omega, by go_num, Lib.hid ⟨HR5.out, HRN.out, HBW.out.trans (HBE.out.mono HBW.out.size)⟩⟩
        case measure => simp [intOf]; omega
      · obtain rfl : m = p := by omega
        have t1 : decide ((m : Int) < wrap64 (16 * i)) = false := decide_eq_false (by rw [HU4.out]; omega)
        obtain ⟨wl, hwl⟩ : ∃ x : World, x = wr := ⟨_, rfl⟩
        subst hwl
        have HBWR := HBW
        have hd := HD.out
        have hq7 : wrap64 (d + 7) = d + 7 := w64_id (by omega) (by omega)
        have hq9 : Int.tdiv (d + 7) 8 = (((q + 7) / 8 : Nat) : Int) := by rw [Int.tdiv_eq_ediv_of_nonneg (by omega)]; omega
        have hq8' : wrap64 (Int.tdiv (wrap64 (d + 7)) 8) = (((q + 7) / 8 : Nat) : Int) := by rw [hq7, hq9]; exact w64_id (by omega) (by omega)
        obtain ⟨w5, hmk, hrow, hb5⟩ := madeR wl ((q + 7) / 8) (wrap64 (Int.tdiv (wrap64 (d + 7)) 8)) hq8' (by omega)
        have HRW5 := Lib.hid hrow
        have HB5 := Lib.hid hb5
        have HZ5 := Lib.hid HBW.out.size
        clear hq7 hq9 hq8' hrow hb5 hd hb8 HU1 HU2 HU4 HNP
        go_wp2
        go_loopw [10, 11] (fun x j wr => ∃ (m : Nat) (b : List Int), m ≤ q ∧ j = .int .i64 (m : Int) ∧ Hid (Kd.R (Kd.int .u8) 5 wr w.heap.size (fun _ => True) x b ∧ RowB ((q + 7) / 8) b (fun j => if j < m then ld.getD (Q0 + j) false else false) ∧ Below wl.heap.size wl wr)) (fun _ j _ => q - (intOf j).toNat)
        case atStart => exact ⟨0, List.replicate ((q + 7) / 8) 0, Nat.zero_le _, rfl, Lib.hid ⟨Kd.R_lower HRW5.out HZ5.out, (RowB.zero _ (by omega)).congr (fun j hj => by rw [if_neg (by omega)]), HB5.out⟩⟩
        case round =>
          obtain ⟨mz, bz, hmz, rfl, hst⟩ := hrel
          clear hmk HRW5 HB5
          obtain ⟨hR, hRow, hB⟩ := hst.out
          obtain ⟨XZ, xz, rfl, hcl, hCb⟩ := Kd.R_reads hR
          have HIZ : Hid (IsR wr g Bi Bb gr i d li ld) := Lib.hid (HIW.out.below hB)
          have c0 := HIZ.out.c0
          have c1 := HIZ.out.c1
          have c2 := HIZ.out.c2
          have HCB := Lib.hid hCb
          have HCL := Lib.hid hcl
          have HROZ := Lib.hid hRow
          have HBW := Lib.hid hB
          have HRZ := Lib.hid hR
          have hbq : bz.length = (q + 7) / 8 := hRow.1
          clear hR hRow hB hCb hcl hst
          by_cases hltz : mz < q
          · obtain ⟨Qn, hQn⟩ : ∃ x, Q0 + mz = x := ⟨_, rfl⟩
            have hQl : Qn < ld.length := hQn ▸ HNQ.out mz hltz
            obtain ⟨s, hs⟩ : ∃ s, ld.getD Qn false = s := ⟨_, rfl⟩
            have HS1 : Hid (wr.cell? ⟨Bb, Qn, none⟩ = some (.bool s)) := Lib.hid (hs ▸ HIZ.out.2.1.2.cell hQl)
            have HWI : Hid (lockgateref1_With.f 1 bz (mz : Int) s = some (withB bz mz s)) := Lib.hid (rwith_is (by omega) mz (by omega) s)
            have HRN : Hid (RowB ((q + 7) / 8) (withB bz mz s) (fun j => if j < mz + 1 then ld.getD (Q0 + j) false else false)) := Lib.hid (by have := HROZ.out.next (by omega) (show mz < (q + 7) / 8 * 8 by omega); rw [hQn, hs] at this; exact this)
            have U3 : Hid (wrap64 ((Q0 : Int) + (mz : Int)) = (Qn : Int)) := Lib.hid (by rw [← hQn, Int.natCast_add]; exact w64_id (by omega) (by omega))
            have hP0 : (0 : Int) ≤ (Qn : Int) := by omega
            have hP1 : (Qn : Int) < (ld.length : Int) := by omega
            have U1 := HU3
            have U2 := HU3
            have t2 : decide ((mz : Int) < d) = true := decide_eq_true (by rw [HD.out]; omega)
            clear hs hQn hbq hQl
            go_wp2
            refine start_ (n := 19) (S := fun w' => w'.cell? ⟨g, 4, none⟩ = some (.slice (some ⟨Bb, 0, none⟩) ld.length ld.length) ∧ w'.cell? ⟨g, 2, none⟩ = some (.int .i64 d) ∧ w'.cell? ⟨Bb, Qn, none⟩ = some (.bool s)) (ds := []) #[false, false, false, false, false, false, false, false, false, false, false, false, false, false, false, false, false, false, false] (by kernel_rfl) rfl rfl ⟨HIZ.out.c4, HIZ.out.c2, HS1.out⟩ (fun hHeld => ?_)
            have HBD : Hid (Below wr.heap.size wr wr.drew) := Lib.hid (below_drew (Below.refl _ wr))
            generalize wr.drew = wd at hHeld HBD ⊢
            refine pu_ 0 (some 70) (bm 19 1) ?_ (ha := by simp only [Act.put, List.setIfInBounds_toArray, List.set_cons_zero, List.set_cons_succ, i64_w, i32_w, U1.out, U2.out, U3.out]; rfl)
            refine pu_ 1 (some 71) (bm 19 3) ?_ (ha := by simp only [Act.put, List.setIfInBounds_toArray, List.set_cons_zero, List.set_cons_succ, i64_w, i32_w, U1.out, U2.out, U3.out]; rfl)
            refine pu_ 2 (some 72) (bm 19 7) ?_ (ha := by simp only [Act.put, List.setIfInBounds_toArray, List.set_cons_zero, List.set_cons_succ, i64_w, i32_w, U1.out, U2.out, U3.out]; rfl)
            refine pu_ 3 (some 73) (bm 19 15) ?_ (ha := by simp only [Act.put, List.setIfInBounds_toArray, List.set_cons_zero, List.set_cons_succ, i64_w, i32_w, U1.out, U2.out, U3.out]; rfl)
            refine pu_ 4 (some 74) (bm 19 31) ?_ (ha := by simp only [Act.put, List.setIfInBounds_toArray, List.set_cons_zero, List.set_cons_succ, i64_w, i32_w, U1.out, U2.out, U3.out]; rfl)
            refine tk3_ 5 (some 75) (bm 19 63) hHeld ?_ (ha := by simp only [Act.put, List.setIfInBounds_toArray, List.set_cons_zero, List.set_cons_succ, i64_w, i32_w, U1.out, U2.out, U3.out]; rfl)
            refine pu_ 6 (some 76) (bm 19 127) ?_ (ha := by simp only [Act.put, List.setIfInBounds_toArray, List.set_cons_zero, List.set_cons_succ, i64_w, i32_w, U1.out, U2.out, U3.out]; rfl)
            refine pu_ 7 (some 77) (bm 19 255) ?_ (ha := by simp only [Act.put, List.setIfInBounds_toArray, List.set_cons_zero, List.set_cons_succ, i64_w, i32_w, U1.out, U2.out, U3.out]; rfl)
            refine pu_ 8 (some 78) (bm 19 511) ?_ (ha := by simp only [Act.put, List.setIfInBounds_toArray, List.set_cons_zero, List.set_cons_succ, i64_w, i32_w, U1.out, U2.out, U3.out]; rfl)
            refine pu_ 9 (some 79) (bm 19 1023) ?_ (ha := by simp only [Act.put, List.setIfInBounds_toArray, List.set_cons_zero, List.set_cons_succ, i64_w, i32_w, U1.out, U2.out, U3.out]; rfl)
            refine pu_ 10 (some 80) (bm 19 2047) ?_ (ha := by simp only [Act.put, List.setIfInBounds_toArray, List.set_cons_zero, List.set_cons_succ, i64_w, i32_w, U1.out, U2.out, U3.out]; rfl)
            refine tk3_ 11 (some 81) (bm 19 4095) hHeld ?_ (ha := by simp only [Act.put, List.setIfInBounds_toArray, List.set_cons_zero, List.set_cons_succ, i64_w, i32_w, U1.out, U2.out, U3.out]; rfl)
            refine pu_ 12 (some 82) (bm 19 8191) ?_ (ha := by simp only [Act.put, List.setIfInBounds_toArray, List.set_cons_zero, List.set_cons_succ, i64_w, i32_w, U1.out, U2.out, U3.out]; rfl)
            refine pu_ 13 (some 83) (bm 19 16383) ?_ (ha := by simp only [Act.put, List.setIfInBounds_toArray, List.set_cons_zero, List.set_cons_succ, i64_w, i32_w, U1.out, U2.out, U3.out]; rfl)
            refine pu_ 14 (some 84) (bm 19 32767) ?_ (ha := by simp only [Act.put, List.setIfInBounds_toArray, List.set_cons_zero, List.set_cons_succ, i64_w, i32_w, U1.out, U2.out, U3.out]; rfl)
            refine pu_ 15 (some 85) (bm 19 65535) ?_ (ha := by simp only [Act.put, List.setIfInBounds_toArray, List.set_cons_zero, List.set_cons_succ, i64_w, i32_w, U1.out, U2.out, U3.out]; rfl)
            refine tk3_ 16 (some 86) (bm 19 131071) hHeld ?_ (ha := by simp only [Act.put, List.setIfInBounds_toArray, List.set_cons_zero, List.set_cons_succ, i64_w, i32_w, U1.out, U2.out, U3.out]; rfl)
            refine one_ (i := 17) (N := some 87) (bm 19 262143) rfl rfl (by kernel_rfl) (by decide) (fun K hK => ?_)
            refine goes_ Try.func39 (by kernel_rfl) rfl #[.slice XZ bz.length xz, .int .i64 (mz : Int), .bool s] (by rfl) rfl rfl (by (try simp only [List.map_toArray, List.map_cons, List.map_nil]); first | done | rfl) ?_
            refine (lockgateref1_With.calls 1 XZ xz bz (mz : Int) s _ _ (Kd.C_below HCB.out HBD.out) HCL.out HWI.out).mono ?_
            rintro e w5 ⟨v5, rfl, hR5, hb5⟩
            obtain ⟨X5, x5, rfl⟩ := Kd.R_slice hR5
            have HR5 : Hid (Kd.R (Kd.int .u8) 5 w5 w.heap.size (fun _ => True) (.slice X5 (withB bz mz s).length x5) (withB bz mz s)) := Lib.hid (Kd.R_lower hR5 (Nat.le_trans (Nat.le_trans HZ5.out HBW.out.size) HBD.out.size))
            have HBE : Hid (Below wr.heap.size wr w5) := Lib.hid (HBD.out.trans (hb5.mono HBD.out.size))
            have hS5 := And.intro (pw_cell_below hb5 hHeld.1) (And.intro (pw_cell_below hb5 hHeld.2.1) (pw_cell_below hb5 hHeld.2.2))
            clear hR5 hb5
            refine ⟨_, rfl, hK.out _ _ hS5 (fun hHeld => ?_)⟩
            clear hK K
            refine norm_ (a' := ?_) ?_ ?_
            rotate_left
            · show Act.put _ (some 87) _ = _
              simp only [Act.put, List.setIfInBounds_toArray, List.set_cons_zero, List.set_cons_succ, i64_w, i32_w, U1.out, U2.out, U3.out]
              rfl
            refine pu_ 18 (some 10) (bm 19 524287) ?_ (ha := by simp only [Act.put, List.setIfInBounds_toArray, List.set_cons_zero, List.set_cons_succ, i64_w, i32_w, U1.out, U2.out, U3.out]; rfl)
            refine done_ (by kernel_rfl) ?_
            clear hHeld hS5
            go_wp2
            go_round
            case rel => exact ⟨mz + 1, withB bz mz s, by omega, by go_num, Lib.hid ⟨HR5.out, HRN.out, HBW.out.trans (HBE.out.mono HBW.out.size)⟩⟩
            case measure => simp [intOf]; omega
          · obtain rfl : mz = q := by omega
            have t2 : decide ((mz : Int) < d) = false := decide_eq_false (by rw [HD.out]; omega)
            go_wp2
            go_ret2
            exact ⟨_, _, b, bz, rfl, ⟨Kd.R_below HRX.out HBW.out, HRZ.out⟩, HBI.out _ _ HROW.out HROZ.out, HBWR.out.trans (HBW.out.mono HZ5.out)⟩
  · have HHD := Lib.hid (rhead_out (k := k) (i := i) (d := d) h0 (fun h => (hf h).1) hk)
    have HB : Hid (BitsOf n p q li ld k [] []) := Lib.hid (by unfold BitsOf; rw [if_neg hk]; exact ⟨rfl, rfl⟩)
    clear hf h0 hk hl hlb
    go_enter Try.func25, Try.ntmps25
    go_wp2_with (first | (go_at_call 32; refine (lockgateref1_Head.calls gr i d k _ _ _ HHD.out).mono ?_; rintro e w1 ⟨rfl, hb⟩; have HB2 := Lib.hid hb; clear hb))
    go_ret2
    exact ⟨_, _, [], [], rfl, ⟨Kd.R_nil _ _ _ _ _, Kd.R_nil _ _ _ _ _⟩, HB.out, HB2.out⟩
end Go.Proofs.Ytppjeikkodjjhaa.Given
