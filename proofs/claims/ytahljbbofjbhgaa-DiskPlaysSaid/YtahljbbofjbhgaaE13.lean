/- DiskAgain answers true. -/
import Derived.Test.YtahljbbofjbhgaaK38
import Derived.Deep.QuietTactic
import Derived.BigQuiet
namespace Go.Proofs.Ytahljbbofjbhgaa.Given
open Go.RowKit Go.Shelf Go.Proofs.YtahljbbofjbhgaaW.PrintWords Go.Proofs.YtahljbbofjbhgaaW.PrintLast Go.Proofs.YtahljbbofjbhgaaW.PrintMore Go.Proofs.YtahljbbofjbhgaaBase
set_option linter.unusedVariables false
set_option linter.unusedSimpArgs false

theorem again_plain (b x : List Int) (hb : b.length = 6144) (hx : x.length = 1024) (r : DS × Bool) (hr : r = writeD 2 x ⟨b, [], -1, false⟩) :
    r.2 = true ∧ r.1.dead = false ∧ r.1.b.length = 6144 ∧ r.1.l.length = 2 ∧ (∀ y ∈ r.1.l, y.f1.length = 512) ∧ readP r.1.b false 2 = some x := by
  have h0 := secOf_length x 0 hx (by omega)
  have h1 := secOf_length x 1 hx (by omega)
  have h : writeD 2 x ⟨b, [], -1, false⟩ = (⟨Go.splice b 2048 x, [⟨4, secOf x 0⟩, ⟨5, secOf x 1⟩], -1, false⟩, true) := by
    unfold writeD
    rw [if_pos ⟨by simp [hb], hx⟩]
    have hs := splice_block b x 2 hx (by omega)
    rw [show Go.splice b 2048 x = Go.splice b (2 * 1024) x from rfl, ← hs]
    rfl
  rw [hr, h]
  have hl : (Go.splice b 2048 x).length = 6144 := by simp [Go.splice]; omega
  refine ⟨rfl, rfl, hl, rfl, ?_, ?_⟩
  · intro y hy
    simp only [List.mem_cons, List.not_mem_nil, or_false] at hy
    rcases hy with hy | hy
    · rw [hy]; exact h0
    · rw [hy]; exact h1
  · unfold readP
    rw [if_pos (by rw [hl]; simp)]
    exact congrArg some (splice_read b x 2 hx (by omega))
theorem again_row : ∃ x : List Int, (List.replicate 1024 (0 : Int)).set 5 9 = x ∧ x.length = 1024 := ⟨_, rfl, by simp only [List.length_set, List.length_replicate]⟩

set_option maxRecDepth 100000 in
set_option maxHeartbeats 1000000 in
theorem again_early (A : Option Addr) (c : Nat) (l : List S38) (w : World) (h : 100 < l.length) :
    Calls Try.prog 6 #[.slice A l.length c] w fun e w' => e = .returned (.bool true) ∧ Below w.heap.size w w' := by
  have t1 : decide ((l.length : Int) > 100) = true := decide_eq_true (by omega)
  go_enter Try.func6, Try.ntmps6
  go_wp2_with (first | (go_at_call 7; refine (alive_calls _).mono ?_; rintro e w1 ⟨rfl, hb⟩; have HB := Lib.hid hb; clear hb))
  go_ret
  exact ⟨rfl, HB.out⟩
theorem wf_hi {n : Int} (h : (Lit.int .i64 n).wf = true) : n ≤ 9223372036854775807 := by
  simp only [Lit.wf, Bool.and_eq_true, decide_eq_true_eq] at h
  exact h.2
def AgI (w : World) (N1 g j : Nat) (wr : World) : Prop := ∃ s : DS, IsD N1 (fun k => N1 ≤ k ∧ k < wr.heap.size) wr g s.b s.l s.cut s.dead ∧ DSok s 6144 (2 * j) ∧ Below w.heap.size w wr ∧ N1 ≤ wr.heap.size ∧ w.heap.size ≤ N1
theorem DSok.cut {s : DS} {n m : Nat} (h : DSok s n m) (x : Int) (hx : x ≤ 9223372036854775807) : DSok { s with cut := cutOf x } n m := ⟨h.len, h.log, by simp only [cutOf]; split <;> omega, by simp only [cutOf]; split <;> omega, h.sec⟩
theorem DSok.more {s : DS} {n m m' : Nat} (h : DSok s n m) (hm : m ≤ m') : DSok s n m' := ⟨h.len, Nat.le_trans h.log hm, h.cut0, h.cut1, h.sec⟩

set_option maxRecDepth 100000 in
set_option maxHeartbeats 4000000 in
theorem again_main (A : Option Addr) (c : Nat) (l : List S38) (w : World) (hC : Kd.C k38 w A l.length l) (hc : l.length ≤ c) (hl : l.length ≤ 100) (hwf : ∀ y ∈ l, (Lit.int .i64 y.f2).wf = true) :
    Calls Try.prog 6 #[.slice A l.length c] w fun e w' => e = .returned (.bool true) ∧ Below w.heap.size w w' := by
  have t1 : decide ((l.length : Int) > 100) = false := decide_eq_false (by omega)
  have HC := Lib.hid hC
  have HWF := Lib.hid hwf
  clear hC hwf
  obtain ⟨Z, hZ⟩ : ∃ Z : List Int, List.replicate (blocksOf 6 * 1024) 0 = Z := ⟨_, rfl⟩
  have hZl : Z.length = 6144 := by rw [← hZ, List.length_replicate]; rfl
  have HZ := Lib.hid hZ
  have HZL := Lib.hid hZl
  clear hZ hZl
  go_enter Try.func6, Try.ntmps6
  go_wp2_with (first | (go_at_call 7; refine (alive_calls _).mono ?_; rintro e w1 ⟨rfl, hb⟩; have HB := Lib.hid hb; clear hb) | (go_at_call 8; refine (new_calls 6 _).mono ?_; rintro e w2 ⟨g, rfl, hd, hb⟩; rw [HZ.out] at hd; have HI0 := Lib.hid (show AgI w w1.heap.size g 0 w2 from ⟨⟨Z, [], -1, false⟩, hd.bound.mono (fun k hk => ⟨hk.2.1, hk.2.2⟩), ⟨HZL.out, by simp, by simp, by simp, by simp⟩, HB.out.trans (hb.mono HB.out.size), hb.size, HB.out.size⟩); clear hd hb))
  go_loopw [5] (fun i wr => ∃ j : Nat, j ≤ l.length ∧ i = .int .i64 (j : Int) ∧ Hid (AgI w w1.heap.size g j wr)) (fun i _ => l.length - (intOf i).toNat)
  case atStart => exact ⟨0, by omega, rfl, HI0⟩
  case round =>
    obtain ⟨j, hj, rfl, HI⟩ := hrel
    by_cases hlt : j < l.length
    · have hlt2 : (j : Int) < (l.length : Int) := by omega
      obtain ⟨s, hd, hs, hb, hz1, hz0⟩ := HI.out
      obtain ⟨ad, A3, c3, e0, k0, k1, k2, k3, l3, g3⟩ := at_T38 HC.out j hlt
      subst e0
      have mv : ∀ {a : Addr} {v : Value}, w.cell? a = some v → wr.cell? a = some v := fun h => (hb.cell (World.block_lt_of_cell? w _ h)).trans h
      replace k0 := mv k0
      replace k1 := mv k1
      replace k2 := mv k2
      replace k3 := mv k3
      obtain ⟨y, hy⟩ : ∃ y, rd_T38 l (j : Int) = y := ⟨_, rfl⟩
      rw [hy] at k0 k1 k2 k3 l3 g3
      have hmem : y ∈ l := by
        rw [← hy, rd_T38, Int.toNat_natCast, List.getD_eq_getElem?_getD, List.getElem?_eq_getElem hlt, Option.getD_some]
        exact List.getElem_mem _
      have hw2 := HWF.out y hmem
      have hw2b : y.f2 ≤ 9223372036854775807 := wf_hi hw2
      have HD := Lib.hid hd
      have HS := Lib.hid hs
      have HB := Lib.hid hb
      have HW2 := Lib.hid hw2b
      have hFx : Kd.F (Kd.int .u8) wr (fun k => k < w.heap.size) A3 y.f3.length y.f3 := Kd.F_below (Kd.C_F (Kd.heap_int _) g3) hb
      have HFX := Lib.hid hFx
      clear hd hs hb hy hmem hw2 hw2b hFx g3 mv
      by_cases h3 : 3000 < y.f3.length
      · have t3 : decide ((y.f3.length : Int) > 3000) = true := decide_eq_true (by omega)
        go_wp2
        go_ret
        exact ⟨rfl, HB.out⟩
      · have t3 : decide ((y.f3.length : Int) > 3000) = false := decide_eq_false (by omega)
        by_cases h0 : y.f0 = 2
        · have t4 : (y.f0 == 2) = true := by simp [h0]
          clear h0
          go_wp2_with (first | (go_at_call 9; refine (cutD y.f2 HD.out).mono ?_; rintro e w4 ⟨rfl, hd4, ho4⟩; have HI4 := Lib.hid (show AgI w w1.heap.size g (j + 1) w4 from ⟨{ s with cut := cutOf y.f2 }, hd4.bound.mono (fun k hk => ⟨hk.2.1, hk.2.2⟩), (HS.out.cut _ HW2.out).more (by omega), Off.keepB HB.out ho4 (fun k hk => by omega) HB.out.size, by have := ho4.size; omega, hz0⟩); clear hd4 ho4))
          go_roundw
          case rel => exact ⟨j + 1, by omega, by go_num, HI4⟩
          case measure => simp [intOf]; omega
        · have t4 : (y.f0 == 2) = false := by simp [h0]
          clear h0
          go_upto_region 12 with (fail)
          refine start_ (n := 12) (S := fun w' => w'.cell? ⟨(ad.add (j * 4)).block, (ad.add (j * 4)).off + 1, none⟩ = some (.int .i64 y.f1) ∧ w'.cell? ⟨(ad.add (j * 4)).block, (ad.add (j * 4)).off + 3, none⟩ = some (.slice A3 y.f3.length c3)) (ds := [11]) #[false, false, false, false, false, false, false, false, false, false, false, false] (by kernel_rfl) rfl rfl ⟨k1, k3⟩ (fun hHeld => ?_)
          refine pure_ (i := 0) (N := some 47) (v := ?_) (a' := ?_) #[true, false, false, false, false, false, false, false, false, false, false, false] rfl rfl (by kernel_rfl) (fun _ _ _ h => h) (Or.inl ⟨by rfl, ?_⟩) ?_ ?_
          rotate_left
          · intro w'
            go_simp
            with_reducible rfl
          rotate_left
          · simp only [Act.put, List.setIfInBounds_toArray, List.set_cons_zero, List.set_cons_succ, i64_w, i32_w]
            rfl
          refine pure_ (i := 1) (N := some 48) (v := ?_) (a' := ?_) #[true, true, false, false, false, false, false, false, false, false, false, false] rfl rfl (by kernel_rfl) (fun _ _ _ h => h) (Or.inl ⟨by rfl, ?_⟩) ?_ ?_
          rotate_left
          · intro w'
            go_simp
            with_reducible rfl
          rotate_left
          · simp only [Act.put, List.setIfInBounds_toArray, List.set_cons_zero, List.set_cons_succ, i64_w, i32_w]
            rfl
          refine pure_ (i := 2) (N := some 49) (v := ?_) (a' := ?_) #[true, true, true, false, false, false, false, false, false, false, false, false] rfl rfl (by kernel_rfl) (fun _ _ _ h => h) (Or.inl ⟨by rfl, ?_⟩) ?_ ?_
          rotate_left
          · intro w'
            go_simp
            with_reducible rfl
          rotate_left
          · simp only [Act.put, List.setIfInBounds_toArray, List.set_cons_zero, List.set_cons_succ, i64_w, i32_w]
            rfl
          refine pure_ (i := 3) (N := some 50) (v := ?_) (a' := ?_) #[true, true, true, true, false, false, false, false, false, false, false, false] rfl rfl (by kernel_rfl) (fun _ _ _ h => h) (Or.inl ⟨by rfl, ?_⟩) ?_ ?_
          rotate_left
          · intro w'
            go_simp
            with_reducible rfl
          rotate_left
          · simp only [Act.put, List.setIfInBounds_toArray, List.set_cons_zero, List.set_cons_succ, i64_w, i32_w]
            rfl
          refine pure_ (i := 4) (N := some 51) (v := ?_) (a' := ?_) #[true, true, true, true, true, false, false, false, false, false, false, false] rfl rfl (by kernel_rfl) (fun _ _ _ h => h) (Or.inl ⟨by rfl, ?_⟩) ?_ ?_
          rotate_left
          · intro w'
            go_simp
            with_reducible rfl
          rotate_left
          · simp only [Act.put, List.setIfInBounds_toArray, List.set_cons_zero, List.set_cons_succ, i64_w, i32_w]
            rfl
          refine take_ (i := 5) (N := some 52) (v := ?_) (a' := ?_) #[true, true, true, true, true, true, false, false, false, false, false, false] rfl rfl (by kernel_rfl) (fun _ _ _ h => h) (Or.inl ⟨by rfl, ?_⟩) hHeld ?_ ?_
          rotate_left
          · rintro w' ⟨s0, s1⟩
            go_simp
            with_reducible rfl
          rotate_left
          · simp only [Act.put, List.setIfInBounds_toArray, List.set_cons_zero, List.set_cons_succ, i64_w, i32_w]
            rfl
          refine pure_ (i := 6) (N := some 53) (v := ?_) (a' := ?_) #[true, true, true, true, true, true, true, false, false, false, false, false] rfl rfl (by kernel_rfl) (fun _ _ _ h => h) (Or.inl ⟨by rfl, ?_⟩) ?_ ?_
          rotate_left
          · intro w'
            go_simp
            with_reducible rfl
          rotate_left
          · simp only [Act.put, List.setIfInBounds_toArray, List.set_cons_zero, List.set_cons_succ, i64_w, i32_w]
            rfl
          refine pure_ (i := 7) (N := some 54) (v := ?_) (a' := ?_) #[true, true, true, true, true, true, true, true, false, false, false, false] rfl rfl (by kernel_rfl) (fun _ _ _ h => h) (Or.inl ⟨by rfl, ?_⟩) ?_ ?_
          rotate_left
          · intro w'
            go_simp
            with_reducible rfl
          rotate_left
          · simp only [Act.put, List.setIfInBounds_toArray, List.set_cons_zero, List.set_cons_succ, i64_w, i32_w]
            rfl
          refine pure_ (i := 8) (N := some 55) (v := ?_) (a' := ?_) #[true, true, true, true, true, true, true, true, true, false, false, false] rfl rfl (by kernel_rfl) (fun _ _ _ h => h) (Or.inl ⟨by rfl, ?_⟩) ?_ ?_
          rotate_left
          · intro w'
            go_simp
            with_reducible rfl
          rotate_left
          · simp only [Act.put, List.setIfInBounds_toArray, List.set_cons_zero, List.set_cons_succ, i64_w, i32_w]
            rfl
          refine pure_ (i := 9) (N := some 56) (v := ?_) (a' := ?_) #[true, true, true, true, true, true, true, true, true, true, false, false] rfl rfl (by kernel_rfl) (fun _ _ _ h => h) (Or.inl ⟨by rfl, ?_⟩) ?_ ?_
          rotate_left
          · intro w'
            go_simp
            with_reducible rfl
          rotate_left
          · simp only [Act.put, List.setIfInBounds_toArray, List.set_cons_zero, List.set_cons_succ, i64_w, i32_w]
            rfl
          refine take_ (i := 10) (N := some 57) (v := ?_) (a' := ?_) #[true, true, true, true, true, true, true, true, true, true, true, false] rfl rfl (by kernel_rfl) (fun _ _ _ h => h) (Or.inl ⟨by rfl, ?_⟩) hHeld ?_ ?_
          rotate_left
          · rintro w' ⟨s0, s1⟩
            go_simp
            with_reducible rfl
          rotate_left
          · simp only [Act.put, List.setIfInBounds_toArray, List.set_cons_zero, List.set_cons_succ, i64_w, i32_w]
            rfl
          refine last_ (i := 11) (N := some 58) #[true, true, true, true, true, true, true, true, true, true, true, true] rfl rfl (by kernel_rfl) (by decide) (fun K hK => ?_)
          refine goes_ Try.func10 (by kernel_rfl) rfl #[.pointer (some ⟨g, 0, none⟩), .int .i64 y.f1, .slice A3 y.f3.length c3] (by rfl) rfl rfl (by (try simp only [List.map_toArray, List.map_cons, List.map_nil]); first | done | rfl) ?_
          refine (write_calls g w1.heap.size (fun k => w1.heap.size ≤ k ∧ k < wr.heap.size) (fun k => k < w.heap.size) s y.f1 A3 c3 y.f3 wr.drew (HD.out.below (below_drew (Below.refl _ _))) (fun k hk => hk.2) hz1 (Kd.F_drew HFX.out) l3 (fun k hk h2 => by omega) (by rw [HS.out.len]; omega) (by have := HS.out.log; omega) HS.out.cut1 HS.out.cut0).mono ?_
          rintro e w4 ⟨rfl, hd4, ho4⟩
          have HI4 := Lib.hid (show AgI w w1.heap.size g (j + 1) w4 from ⟨_, hd4.bound.mono (fun k hk => ⟨hk.2.1, hk.2.2⟩), (HS.out.write y.f1 y.f3).more (by omega), Off.keepB (below_drew HB.out) ho4 (fun k hk => by omega) HB.out.size, Nat.le_trans hz1 ho4.size, hz0⟩)
          clear hd4 ho4
          refine ⟨_, rfl, hK.out _ _ ?_⟩
          clear hK K
          refine norm_ (a' := ?_) ?_ ?_
          rotate_left
          · show Act.put _ (some 58) _ = _
            simp only [Act.put, List.setIfInBounds_toArray, List.set_cons_zero, List.set_cons_succ, i64_w, i32_w]
            rfl
          refine done_ (by kernel_rfl) ?_
          go_wp2
          go_roundw
          case rel => exact ⟨j + 1, by omega, by go_num, HI4⟩
          case measure => simp [intOf]; omega
    · obtain rfl : j = l.length := by omega
      obtain ⟨s, hd, hs, hb, hz1, hz0⟩ := HI.out
      have HD := Lib.hid hd
      have HS := Lib.hid hs
      have HB2 := Lib.hid hb
      clear hd hs hb HI hlt hj
      obtain ⟨x, hx, hxl⟩ := again_row
      have HX := Lib.hid hx
      have HXL := Lib.hid hxl
      clear hx hxl
      go_wp2_with (first | (go_at_call 17; refine (imageD HD.out (by rw [HS.out.len]; omega)).mono ?_; rintro e w5 ⟨v5, rfl, hR5, hb5⟩; obtain ⟨A5, c5, rfl⟩ := Kd.R_slice hR5; have HR5 := Lib.hid hR5; have HB5 := Lib.hid (HB2.out.trans (hb5.mono HB2.out.size)); clear hR5 hb5) | (go_at_call 18; refine (of_calls A5 c5 s.b _ (Kd.R_reads' HR5.out).2.2 (Kd.R_reads' HR5.out).2.1 (by rw [HS.out.len]; decide)).mono ?_; rintro e w6 ⟨ge, rfl, hd6, hb6⟩; rw [HS.out.len, show s.b.take ((if 20000 < 6144 / 1024 then 20000 else 6144 / 1024) * 1024) = s.b from List.take_of_length_le (by rw [HS.out.len]; decide)] at hd6; have HD6 := Lib.hid (hd6.bound.mono (ok' := fun k => w5.heap.size ≤ k ∧ k < w6.heap.size) (fun k hk => ⟨hk.2.1, hk.2.2⟩)); have HZ6 := Lib.hid hb6.size; have HB6 := Lib.hid (HB5.out.trans (hb6.mono HB5.out.size)); obtain ⟨w7, hmk, hR7, hb7, hz7⟩ := madeR w6 1024 1024 rfl (by decide); have k5 := (R_cell hR7 5 (by decide)).1; have f5 := (R_cell hR7 5 (by decide)).2; have HR7 := Lib.hid hR7; have HB7 := Lib.hid hb7; have HZ7 := Lib.hid hz7; clear hd6 hb6 hR7 hb7 hz7) | (go_at_call 10; refine mk_ ?_))
      unfold Mk_
      have hR8 := R_put HR7.out 5 9
      rw [HX.out] at hR8
      have hD8 : IsD w5.heap.size (fun k => w5.heap.size ≤ k ∧ k < w6.heap.size) (w7.setCell ⟨w6.heap.size, 5, none⟩ (.int .u8 9)) ge s.b [] (-1) false := (HD6.out.below HB7.out).move (fun k hk => Below.heap_setCell _ _ _ _ (by simp only; omega))
      have hz8 : (w7.setCell ⟨w6.heap.size, 5, none⟩ (.int .u8 9)).heap.size = w6.heap.size + 1 := by simp [HZ7.out]
      have hB8 : Below w.heap.size w (w7.setCell ⟨w6.heap.size, 5, none⟩ (.int .u8 9)) := (HB6.out.trans (HB7.out.mono HB6.out.size)).setCell (by simp only; exact HB6.out.size) _
      have hw := write_calls ge w5.heap.size (fun k => w5.heap.size ≤ k ∧ k < w6.heap.size) (fun k => k = w6.heap.size) ⟨s.b, [], -1, false⟩ 2 (some ⟨w6.heap.size, 0, none⟩) 1024 x _ hD8 (fun k hk => by rw [hz8]; omega) (by rw [hz8]; have := HZ6.out; omega)
        (Kd.F_mono (by have := Kd.R_F hR8; rw [HXL.out]; exact this) (fun _ h => h)) (by rw [HXL.out]; exact Nat.le_refl _) (fun k hk h2 => by omega) (by simp only; rw [HS.out.len]; decide) (by simp) (by simp) (by simp)
      rw [HXL.out] at hw
      obtain ⟨p1, p2, p3, p4, p5, p6⟩ := again_plain s.b x HS.out.len HXL.out _ rfl
      have hs8 := Kd.C_F (Kd.heap_int _) (show Kd.C (Kd.int .u8) _ (some ⟨w6.heap.size, 0, none⟩) 1024 x from by have := (Kd.R_reads' hR8).2.2; rw [HXL.out] at this; exact this)
      have HX8 := Lib.hid (Kd.R_F hR8)
      have HZ8 := Lib.hid hz8
      have HB8 := Lib.hid hB8
      clear hz8 hB8 hD8 hR8 k5 f5 hmk hs8
      generalize (w7.setCell ⟨w6.heap.size, 5, none⟩ (.int .u8 9)) = w8 at hw HZ8 HB8 HX8 ⊢
      refine hw.mono ?_
      rintro e w9 ⟨rfl, hd9, ho9⟩
      obtain ⟨S, hS⟩ : ∃ S, writeD 2 x ⟨s.b, [], -1, false⟩ = S := ⟨_, rfl⟩
      rw [hS] at p1 p2 p3 p4 p5 p6 hd9
      rw [hS, p1]
      rw [p2] at hd9
      have HD9 := Lib.hid hd9.bound
      have HB9 := Lib.hid (Off.keepB HB8.out ho9 (fun k hk => by have := HB5.out.size; omega) HB8.out.size)
      have HX9 := Lib.hid (Off.F HX8.out ho9 (fun k hk h2 => by omega))
      have P3 := Lib.hid p3
      have P4 := Lib.hid p4
      have P5 := Lib.hid p5
      have P6 := Lib.hid p6
      clear hw hd9 ho9 p1 p2 p3 p4 p5 p6 hS
      have t12 : (((S.1.b.length / 1024 : Nat) : Int) == 6) = true := by rw [P3.out]; rfl
      go_wp2_with (first | (go_at_call 13; refine (readD 2 HD9.out (by rw [P3.out]; decide)).mono ?_; rw [P6.out]; rintro e w10 ⟨v10, rfl, hR10, hb10⟩; simp only [Option.getD_some] at hR10; obtain ⟨A10, c10, rfl⟩ := Kd.R_slice hR10; have HD10 := Lib.hid (HD9.out.below hb10); have HB10 := Lib.hid (HB9.out.trans (hb10.mono HB9.out.size)); have HZ10 := Lib.hid hb10.size; have HR10 := Lib.hid hR10; have HX10 := Lib.hid (Kd.F_below HX9.out hb10); clear hR10 hb10) | (go_at_call 12; refine (deadD HD10.out).mono ?_; rintro e w' ⟨rfl, hd⟩; obtain ⟨nd, rfl⟩ := hd; have f0 := Kd.C_string (P := Try.prog) (c := c10) Try.underlying26 Try.underlying5 Try.underlying9 (Kd.C_drewN (Kd.R_reads' HR10.out).2.2 nd); have f1 := Kd.C_string (P := Try.prog) (c := 1024) Try.underlying26 Try.underlying5 Try.underlying9 (by have := Kd.F_now (Kd.F_drewN HX10.out nd); rw [← HXL.out] at this; exact this); rw [HXL.out] at f1) | (go_at_call 11; refine (logD (HD10.out.drewN nd) (fun k hk => Nat.lt_of_lt_of_le hk.2.2 HZ10.out) (by rw [P4.out]; decide) (fun y hy => by rw [P5.out y hy]; decide)).mono ?_; rintro e w11 ⟨v11, rfl, hN11, hb11⟩; obtain ⟨A11, c11, rfl⟩ := Kd.N_slice hN11; rw [P4.out]; have HD11 := Lib.hid ((HD10.out.drewN nd).below hb11); have HB11 := Lib.hid ((pw_below_drewN HB10.out nd).trans (hb11.mono HB10.out.size)); clear hN11 hb11) | (go_at_call 16; refine (blocksD HD11.out (by rw [P3.out]; decide)).mono ?_; rintro e w' ⟨rfl, hd⟩; obtain ⟨nd2, rfl⟩ := hd))
      go_ret
      exact ⟨by have h6 := P3.out; first | rfl | (simp; done) | (simp; omega), pw_below_drewN HB11.out nd2⟩

theorem again_row_ (A : Option Addr) (c : Nat) (l : List S38) (w : World) (hC : Kd.C k38 w A l.length l) (hc : l.length ≤ c)
    (h : l.length ≤ maxLen ∧ ∀ y ∈ l, ((Lit.int .i64 y.f0).wf = true ∧ (Lit.int .i64 y.f1).wf = true ∧ (Lit.int .i64 y.f2).wf = true ∧ (y.f3.length ≤ maxLen ∧ ∀ x ∈ y.f3, (Lit.int .u8 x).wf = true))) :
    Calls Try.prog 6 #[.slice A l.length c] w fun e w' => e = .returned (.bool true) ∧ Below w.heap.size w w' := by
  by_cases h1 : 100 < l.length
  · exact again_early A c l w h1
  · exact again_main A c l w hC hc (by omega) (fun y hy => (h.2 y hy).2.2.1)
end Go.Proofs.Ytahljbbofjbhgaa.Given
