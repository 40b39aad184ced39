/- AllocPlays answers true. -/
import Derived.Test.YtppjeikkodjjhaaSteps
import Derived.Test.YtppjeikkodjjhaaA21
namespace Go.Proofs.Ytppjeikkodjjhaa.Given
open Go.RowKit Go.Shelf Go.Proofs.YtppjeikkodjjhaaW.PrintWords Go.Proofs.YtppjeikkodjjhaaW.PrintLast Go.Proofs.YtppjeikkodjjhaaW.PrintMore Go.Proofs.YtppjeikkodjjhaaBase Go.Proofs.Ytppjeikkodjjhaa.PGeo Go.Proofs.Ytppjeikkodjjhaa.PGet Go.Proofs.Ytppjeikkodjjhaa.PWith
set_option linter.unusedVariables false
set_option linter.unusedSimpArgs false

theorem rin_any (gr i d : Int) : lockgateref1_Inodes.f gr i d = some ((gN gr i d * (i * 16).toNat : Nat) : Int) ∧ gN gr i d * (i * 16).toNat ≤ 8 * 64 := by
  by_cases h : Fine gr i d
  · obtain ⟨h1, h2, h3, h4, h5, h6⟩ := h
    have hg : gN gr i d = gr.toNat := gN_fine ⟨h1, h2, h3, h4, h5, h6⟩ (by omega)
    rw [hg]
    exact ⟨rinodes_is ⟨h1, h2, h3, h4, h5, h6⟩ (by omega) (by omega), Nat.mul_le_mul (by omega) (by omega)⟩
  · have hg : gN gr i d = 0 := by unfold gN; rw [if_neg h]
    rw [hg, Nat.zero_mul]
    refine ⟨?_, by omega⟩
    unfold lockgateref1_Inodes.f
    rw [good_not h, Option.bind_some, if_neg (by simp)]
    rfl
theorem rbn_any (gr i d : Int) : lockgateref1_Blocks.f gr i d = some ((gN gr i d * d.toNat : Nat) : Int) ∧ gN gr i d * d.toNat ≤ 8 * 1000 := by
  by_cases h : Fine gr i d
  · obtain ⟨h1, h2, h3, h4, h5, h6⟩ := h
    have hg : gN gr i d = gr.toNat := gN_fine ⟨h1, h2, h3, h4, h5, h6⟩ (by omega)
    rw [hg]
    exact ⟨rblocks_is ⟨h1, h2, h3, h4, h5, h6⟩ (by omega) (by omega), Nat.mul_le_mul (by omega) (by omega)⟩
  · have hg : gN gr i d = 0 := by unfold gN; rw [if_neg h]
    rw [hg, Nat.zero_mul]
    refine ⟨?_, by omega⟩
    unfold lockgateref1_Blocks.f
    rw [good_not h, Option.bind_some, if_neg (by simp)]
    rfl
/-- what the three are when all are made -/
theorem Tri.start {wx w2 w3 w4 w5 : World} {a o g Bi Bb n p q X : Nat} {gr i d : Int} {li ld : List Bool} (hX : X < wx.heap.size) (hb2 : Below wx.heap.size wx w2) (hz2 : wx.heap.size ≤ w2.heap.size)
    (h1 : IsAA w2.heap.size (fun k => w2.heap.size ≤ k ∧ k < w3.heap.size) w3 a gr i d n p q li ld) (hb3 : Below w2.heap.size w2 w3)
    (h2 : IsAA w3.heap.size (fun k => w3.heap.size ≤ k ∧ k < w4.heap.size) w4 o gr i d n p q li ld) (hb4 : Below w3.heap.size w3 w4)
    (h3 : IsR w5 g Bi Bb gr i d li ld) (hg : w4.heap.size ≤ g ∧ w4.heap.size ≤ Bi ∧ w4.heap.size ≤ Bb) (hb5 : Below w4.heap.size w4 w5) : Tri wx X a o g Bi Bb n p q gr i d li ld li ld w5 := by
  have z3 := hb3.size
  have z4 := hb4.size
  have z5 := hb5.size
  exact ⟨_, _, li, ld, ⟨((h1.below hb4).below hb5).lower hz2, (h2.below hb5).lower (by omega), h3⟩, ⟨h1.li_length, h1.ld_length⟩, ⟨fun j hj => ⟨by omega, by omega⟩, fun j hj => ⟨by omega, by omega⟩, by omega, by omega, by omega⟩,
    ⟨fun j hj => ⟨fun hk => by omega, by omega, by omega, by omega, by omega⟩, fun j hj => ⟨by omega, by omega, by omega, by omega⟩, ⟨by omega, by omega, by omega⟩, by omega⟩, hb2.trans ((hb3.trans ((hb4.trans (hb5.mono z4)).mono z3)).mono hz2)⟩
theorem x_cells {W : World} {X : Nat} {x0 x1 x2 x3 : Int} (h : W.heap[X]? = some (.cells #[.int .i64 x0, .int .i64 x1, .int .i64 x2, .int .i64 x3] 42 (0, 0))) :
    W.cell? ⟨X, 0, none⟩ = some (.int .i64 x0) ∧ W.cell? ⟨X, 1, none⟩ = some (.int .i64 x1) ∧ W.cell? ⟨X, 2, none⟩ = some (.int .i64 x2) ∧ W.cell? ⟨X, 3, none⟩ = some (.int .i64 x3) :=
  ⟨(blk_cell h 0).trans rfl, (blk_cell h 1).trans rfl, (blk_cell h 2).trans rfl, (blk_cell h 3).trans rfl⟩
theorem row_put {k : IntKind} {e : Nat} {W : World} {base : Nat} {ok : Nat → Prop} {g n cap : Nat} {xs : List Int} (h : Kd.R (Kd.int k) e W base ok (.slice (some ⟨g, 0, none⟩) n cap) xs) (i : Nat) (x : Int) :
    Kd.R (Kd.int k) e (W.setCell ⟨g, i, none⟩ (.int k x)) base ok (.slice (some ⟨g, 0, none⟩) n cap) (xs.set i x) := by
  have hn := (Kd.R_reads' h).1
  subst hn
  have h1 := (own_store_of (enc := Value.int k) (Kd.own_of_R h) (i : Int) x).1
  rw [Int.toNat_natCast] at h1
  refine Kd.R_of_own ?_ h.1
  rw [List.length_set]
  exact h1
theorem row_cell {W : World} {base B n cap : Nat} {ok : Nat → Prop} {xs : List Int} (h : Kd.R (Kd.int .u8) 5 W base ok (.slice (some ⟨B, 0, none⟩) n cap) xs) (i : Nat) (hi : i < n) : W.cell? ⟨B, i, none⟩ = some (.int .u8 (rd xs (i : Int))) ∧ W.frozen? ⟨B, i, none⟩ = false := by
  obtain ⟨c, hcl, hM, hcc, hfr⟩ := Kd.R_elem h 0 (i : Int) (by omega) (by omega)
  have hM : c = [Value.int .u8 (xs.getD (i : Int).toNat 0)] := hM
  subst hM
  have h0 := hcc 0 _ rfl
  have h1 := hfr 0
  have hsz : (Kd.int .u8).sz = 1 := rfl
  rw [hsz, Int.toNat_natCast, Nat.mul_one, Nat.add_zero] at h0 h1
  exact ⟨h0, h1⟩
theorem BitsOf.len {n p q : Nat} {li ld : List Bool} {k : Int} {b0 b1 : List Int} (hq : 0 < n → q ≤ 1000) (h : BitsOf n p q li ld k b0 b1) : b1.length ≤ 1000 := by
  unfold BitsOf at h
  by_cases hk : 0 ≤ k ∧ k < (n : Int)
  · rw [if_pos hk] at h
    have := hq (by omega)
    rw [h.2.1]
    omega
  · rw [if_neg hk] at h
    rw [h.2]
    simp
theorem C_same {w W : World} {A : Option Addr} {n : Nat} {xs : List S42} (hC : Kd.C k42 w A n xs) (hb : Below w.heap.size w W) : Kd.C k42 W A n xs := Kd.C_below hC hb

set_option maxRecDepth 100000 in
set_option maxHeartbeats 4000000 in
theorem plays_fine (gr i d : Int) (A : Option Addr) (c : Nat) (l : List S42) (w : World) (hf : Fine gr i d) (hd : d ≤ 100) (hl : l.length ≤ 300) (hC : Kd.C k42 w A l.length l) (hc : l.length ≤ c) :
    Calls Try.prog 6 #[.agg #[.int .i64 gr, .int .i64 i, .int .i64 d], .slice A l.length c] w fun e w' => e = .returned (.bool true) ∧ Below w.heap.size w w' := by
  have HGD := Lib.hid (good_fine hf)
  have tl1 : decide ((l.length : Int) > 300) = false := decide_eq_false (by omega)
  have td1 : decide (d > 100) = false := decide_eq_false (by omega)
  obtain ⟨hin, hnp⟩ := rin_any gr i d
  obtain ⟨hbn, hnq⟩ := rbn_any gr i d
  obtain ⟨n, hn⟩ : ∃ n, gN gr i d = n := ⟨_, rfl⟩
  obtain ⟨p, hp⟩ : ∃ p, (i * 16).toNat = p := ⟨_, rfl⟩
  obtain ⟨q, hq⟩ : ∃ q, d.toNat = q := ⟨_, rfl⟩
  rw [hn, hp] at hin hnp
  rw [hn, hq] at hbn hnq
  have HNEW : Hid (∀ W, Calls Try.prog 8 #[.agg #[.int .i64 gr, .int .i64 i, .int .i64 d]] W fun e w' => ∃ g, e = .returned (.pointer (some ⟨g, 0, none⟩)) ∧ IsAA W.heap.size (fun k => W.heap.size ≤ k ∧ k < w'.heap.size) w' g gr i d n p q (List.replicate (n * p) false) (List.replicate (n * q) false) ∧ Below W.heap.size W w') := Lib.hid (fun W => by have := newA gr i d W; rw [hn, hp, hq] at this; exact this)
  have HRN : Hid (∀ W, Calls Try.prog 18 #[.agg #[.int .i64 gr, .int .i64 i, .int .i64 d]] W fun e w' => ∃ g Bi Bb, e = .returned (.pointer (some ⟨g, 0, none⟩)) ∧ IsR w' g Bi Bb gr i d (List.replicate (n * p) false) (List.replicate (n * q) false) ∧ (W.heap.size ≤ g ∧ W.heap.size ≤ Bi ∧ W.heap.size ≤ Bb) ∧ Below W.heap.size W w') := Lib.hid (fun W => rNew gr i d (n * p) (n * q) W hin hbn (by omega) (by omega))
  clear hin hbn hnp hnq hn hp hq hf
  have HCW := Lib.hid hC
  have HLC := Lib.hid hc
  clear hC hc
  obtain ⟨wx, hwx⟩ : ∃ wx, w.alloc (.cells #[.int .i64 gr, .int .i64 i, .int .i64 d] 24) = wx := ⟨_, rfl⟩
  have hx0 : wx.heap[w.heap.size]? = some (.cells #[.int .i64 gr, .int .i64 i, .int .i64 d] 24 (0, 0)) := by rw [← hwx]; exact blk_new w _
  have HXW : Hid (Below w.heap.size w wx) := Lib.hid (by rw [← hwx]; exact (Below.refl _ w).alloc (Nat.le_refl _) _)
  have HXS : Hid (w.heap.size < wx.heap.size) := Lib.hid (blk_lt hx0)
  have y0 : wx.cell? ⟨w.heap.size, 0, none⟩ = some (.int .i64 gr) := (blk_cell hx0 0).trans rfl
  have y1 : wx.cell? ⟨w.heap.size, 1, none⟩ = some (.int .i64 i) := (blk_cell hx0 1).trans rfl
  have y2 : wx.cell? ⟨w.heap.size, 2, none⟩ = some (.int .i64 d) := (blk_cell hx0 2).trans rfl
  have Y0 := Lib.hid y0
  have Y1 := Lib.hid y1
  have Y2 := Lib.hid y2
  clear hx0 y0 y1 y2
  go_enter Try.func6, Try.ntmps6
  go_wp2_with (first | (go_at_call 7; refine (alive_calls _).mono ?_; rintro e w1 ⟨rfl, hb⟩; have HB1 := Lib.hid hb; have z0 := pw_cell_below hb Y0.out; have z1 := pw_cell_below hb Y1.out; have z2 := pw_cell_below hb Y2.out; clear hb) | (go_at_call 12; refine (lockgateref1_Good.calls gr i d _ _ HGD.out).mono ?_; rintro e w2 ⟨rfl, hb⟩; have HB2 := Lib.hid (HB1.out.trans (hb.mono HB1.out.size)); have z0 := pw_cell_below HB2.out Y0.out; have z1 := pw_cell_below HB2.out Y1.out; have z2 := pw_cell_below HB2.out Y2.out; clear hb) | (go_at_call 8; first | (have HT := HA3; clear HT; refine (HNEW.out _).mono ?_; rintro e w4 ⟨o, rfl, hA, hb⟩; have HA4 := Lib.hid hA; have HB4 := Lib.hid hb; have HBB := Lib.hid (HB3B.out.trans (hb.mono HB3B.out.size)); have z0 := pw_cell_below HBB.out Y0.out; have z1 := pw_cell_below HBB.out Y1.out; have z2 := pw_cell_below HBB.out Y2.out; clear hb hA) | (refine (HNEW.out _).mono ?_; rintro e w3 ⟨a, rfl, hA, hb⟩; have HA3 := Lib.hid hA; have HB3 := Lib.hid hb; have HB3B := Lib.hid (HB2.out.trans (hb.mono HB2.out.size)); have z0 := pw_cell_below HB3B.out Y0.out; have z1 := pw_cell_below HB3B.out Y1.out; have z2 := pw_cell_below HB3B.out Y2.out; clear hb hA)) | (go_at_call 18; refine (HRN.out _).mono ?_; rintro e w5 ⟨g, Bi, Bb, rfl, hR, hge, hb⟩; have HT5 := Lib.hid (Tri.start HXS.out HB2.out HB2.out.size HA3.out HB3.out HA4.out HB4.out hR hge hb); clear hR hge hb))
  have HQ : Hid (0 < n → q ≤ 1000) := Lib.hid (fun h0 => by obtain ⟨_, _, e3, _, _, _, _, _, f6⟩ := HT5.out.fine.1 h0; omega)
  clear z0 z1 z2 HA3 HA4 HB3 HB4 HB3B HBB HB1 HB2 HNEW HRN
  go_loopw [10] (fun iv wr => ∃ (k : Nat) (li ld : List Bool) (X : Nat), k ≤ l.length ∧ iv = .int .i64 (k : Int) ∧ Hid (Tri wx X a o g Bi Bb n p q gr i d li ld li ld wr)) (fun iv _ => l.length - (intOf iv).toNat)
  case atStart => exact ⟨0, _, _, _, Nat.zero_le _, rfl, HT5⟩
  case round =>
    obtain ⟨k, li, ld, X, hk, rfl, hT⟩ := hrel
    clear HT5
    by_cases hlt : k < l.length
    · have hT' := hT.out
      have hCr := Kd.C_below HCW.out (HXW.out.trans (hT'.bel.mono HXW.out.size))
      obtain ⟨ad, rfl, hcell⟩ := at_T42 hCr (by omega)
      obtain ⟨z0, z1, z2, z3⟩ := hcell k hlt
      obtain ⟨x0, hx0⟩ : ∃ x, (l.getD k z42).f0 = x := ⟨_, rfl⟩
      obtain ⟨x1, hx1⟩ : ∃ x, (l.getD k z42).f1 = x := ⟨_, rfl⟩
      obtain ⟨x2, hx2⟩ : ∃ x, (l.getD k z42).f2 = x := ⟨_, rfl⟩
      obtain ⟨x3, hx3⟩ : ∃ x, (l.getD k z42).f3 = x := ⟨_, rfl⟩
      rw [hx0] at z0
      rw [hx1] at z1
      rw [hx2] at z2
      rw [hx3] at z3
      have hki : (k : Int) < (l.length : Int) := by omega
      have hk0 : (0 : Int) ≤ (k : Int) := by omega
      obtain ⟨wy, hwy⟩ : ∃ wy, wr.alloc (.cells #[.int .i64 x0, .int .i64 x1, .int .i64 x2, .int .i64 x3] 42) = wy := ⟨_, rfl⟩
      have hbx := blk_new wr (.cells #[.int .i64 x0, .int .i64 x1, .int .i64 x2, .int .i64 x3] 42)
      rw [hwy] at hbx
      have XY := Lib.hid hbx
      have TY := Lib.hid (hT'.next (W1 := wy) (by rw [← hwy]; exact (Below.refl _ _).alloc (Nat.le_refl _) _) (blk_lt hbx))
      clear hcell hx0 hx1 hx2 hx3 hCr hT' hlt hbx hT
      by_cases w0 : x0 = 0
      · have s0 : (x0 == 0) = true := beq_iff_eq.mpr w0
        clear w0
        go_wp2_with (first | (go_at_call 9; have hgd := TP; clear hgd; refine (TP.out.inodeA x1).mono ?_; rintro e wQ ⟨rfl, hT, hx⟩; have TQ := Lib.hid hT; have XQ := Lib.hid (hx.trans XP.out); obtain ⟨k0, k1, k2, k3⟩ := x_cells XQ.out; clear hT hx) | (go_at_call 9; have hgd := TY; clear hgd; refine (TY.out.inodeO).mono ?_; rintro e wO ⟨lo, lp, rfl, hT, hx⟩; have TO := Lib.hid hT; have XO := Lib.hid (hx.trans XY.out); obtain ⟨k0, k1, k2, k3⟩ := x_cells XO.out; clear hT hx) | (go_at_call 10; have hgd := TO; clear hgd; refine (TO.out.blockO).mono ?_; rintro e wP ⟨lo, lp, rfl, hT, hx⟩; have TP := Lib.hid hT; have XP := Lib.hid (hx.trans XO.out); obtain ⟨k0, k1, k2, k3⟩ := x_cells XP.out; clear hT hx) | (go_at_call 19; have hgd := TQ; clear hgd; refine (TQ.out.rInode x1).mono ?_; rintro e wS ⟨rfl, hT, hx⟩; have TS := Lib.hid hT; have XS := Lib.hid (hx.trans XQ.out); obtain ⟨k0, k1, k2, k3⟩ := x_cells XS.out; clear hT hx) | (go_at_call 16; have hgd := TS; clear hgd; refine (TS.out.freeA).mono ?_; rintro e wF ⟨rfl, hT, hx⟩; have TF := Lib.hid hT; have XF := Lib.hid (hx.trans XS.out); obtain ⟨k0, k1, k2, k3⟩ := x_cells XF.out; clear hT hx) | (go_at_call 23; refine (TF.out.rFree).mono ?_; rintro e w9 ⟨rfl, rfl⟩))
        go_roundw
        case rel => exact ⟨k + 1, _, _, _, by omega, by go_num, TF⟩
        case measure => simp [intOf]; omega
      · have s0 : (x0 == 0) = false := beq_eq_false_iff_ne.mpr w0
        clear w0
        by_cases w1 : x0 = 1
        · have s1 : (x0 == 1) = true := beq_iff_eq.mpr w1
          clear w1
          go_wp2_with (first | (go_at_call 10; have hgd := TP; clear hgd; refine (TP.out.blockA x1).mono ?_; rintro e wQ ⟨rfl, hT, hx⟩; have TQ := Lib.hid hT; have XQ := Lib.hid (hx.trans XP.out); obtain ⟨k0, k1, k2, k3⟩ := x_cells XQ.out; clear hT hx) | (go_at_call 9; have hgd := TY; clear hgd; refine (TY.out.inodeO).mono ?_; rintro e wO ⟨lo, lp, rfl, hT, hx⟩; have TO := Lib.hid hT; have XO := Lib.hid (hx.trans XY.out); obtain ⟨k0, k1, k2, k3⟩ := x_cells XO.out; clear hT hx) | (go_at_call 10; have hgd := TO; clear hgd; refine (TO.out.blockO).mono ?_; rintro e wP ⟨lo, lp, rfl, hT, hx⟩; have TP := Lib.hid hT; have XP := Lib.hid (hx.trans XO.out); obtain ⟨k0, k1, k2, k3⟩ := x_cells XP.out; clear hT hx) | (go_at_call 20; have hgd := TQ; clear hgd; refine (TQ.out.rTake x1).mono ?_; rintro e wS ⟨rfl, hT, hx⟩; have TS := Lib.hid hT; have XS := Lib.hid (hx.trans XQ.out); obtain ⟨k0, k1, k2, k3⟩ := x_cells XS.out; clear hT hx) | (go_at_call 16; have hgd := TS; clear hgd; refine (TS.out.freeA).mono ?_; rintro e wF ⟨rfl, hT, hx⟩; have TF := Lib.hid hT; have XF := Lib.hid (hx.trans XS.out); obtain ⟨k0, k1, k2, k3⟩ := x_cells XF.out; clear hT hx) | (go_at_call 23; refine (TF.out.rFree).mono ?_; rintro e w9 ⟨rfl, rfl⟩))
          go_roundw
          case rel => exact ⟨k + 1, _, _, _, by omega, by go_num, TF⟩
          case measure => simp [intOf]; omega
        · have s1 : (x0 == 1) = false := beq_eq_false_iff_ne.mpr w1
          clear w1
          by_cases w2 : x0 = 2
          · have s2 : (x0 == 2) = true := beq_iff_eq.mpr w2
            clear w2
            go_wp2_with (first | (go_at_call 9; have hgd := TY; clear hgd; refine (TY.out.inodeO).mono ?_; rintro e wO ⟨lo, lp, rfl, hT, hx⟩; have TO := Lib.hid hT; have XO := Lib.hid (hx.trans XY.out); obtain ⟨k0, k1, k2, k3⟩ := x_cells XO.out; clear hT hx) | (go_at_call 10; have hgd := TO; clear hgd; refine (TO.out.blockO).mono ?_; rintro e wP ⟨lo, lp, rfl, hT, hx⟩; have TP := Lib.hid hT; have XP := Lib.hid (hx.trans XO.out); obtain ⟨k0, k1, k2, k3⟩ := x_cells XP.out; clear hT hx))
            refine start_ (n := 13) (S := fun w' => w'.cell? ⟨wr.heap.size, 2, none⟩ = some (.int .i64 x2) ∧ w'.cell? ⟨wr.heap.size, 3, none⟩ = some (.int .i64 x3)) (ds := []) #[false, false, false, false, false, false, false, false, false, false, false, false, false] (by kernel_rfl) rfl rfl ⟨k2, k3⟩ (fun hHeld => ?_)
            have TV := Lib.hid (TP.out.below (below_drew (Below.refl _ wP)))
            have XV : Hid (wP.drew.heap[wr.heap.size]? = some (.cells #[.int .i64 x0, .int .i64 x1, .int .i64 x2, .int .i64 x3] 42 (0, 0))) := Lib.hid XP.out
            clear k0 k1 k2 k3
            generalize wP.drew = V at hHeld TV XV ⊢
            refine pu_ 0 (some 140) (bm 13 1) ?_
            refine pu_ 1 (some 141) (bm 13 3) ?_
            refine tk2_ 2 (some 142) (bm 13 7) hHeld ?_
            refine pu_ 3 (some 143) (bm 13 15) ?_
            refine tk2_ 4 (some 144) (bm 13 31) hHeld ?_
            refine pu_ 6 (some 146) (bm 13 95) ?_
            refine pu_ 7 (some 147) (bm 13 223) ?_
            refine tk2_ 8 (some 148) (bm 13 479) hHeld ?_
            refine pu_ 9 (some 149) (bm 13 991) ?_
            refine tk2_ 10 (some 150) (bm 13 2015) hHeld ?_
            refine one_ (i := 5) (N := some 145) (bm 13 2047) rfl rfl (by kernel_rfl) (by decide) (fun K hK => ?_)
            refine goes_ Try.func21 (by kernel_rfl) rfl #[.pointer (some ⟨a, 0, none⟩), .int .i64 x2, .int .i64 x3] (by rfl) rfl rfl (by (try simp only [List.map_toArray, List.map_cons, List.map_nil]); first | done | rfl) ?_
            refine (TV.out.takeA x2 x3).mono ?_
            rintro e wQ ⟨rfl, hT, hx⟩
            have TQ := Lib.hid hT
            have XQ := Lib.hid (hx.trans XV.out)
            obtain ⟨_, _, k2, k3⟩ := x_cells XQ.out
            clear hT hx hHeld
            refine ⟨_, rfl, hK.out _ _ ⟨k2, k3⟩ (fun hHeld => ?_)⟩
            clear hK K
            refine norm_ (a' := ?_) ?_ ?_
            rotate_left
            · show Act.put _ (some 145) _ = _
              simp only [Act.put, List.setIfInBounds_toArray, List.set_cons_zero, List.set_cons_succ, i64_w, i32_w]
              rfl
            refine one_ (i := 11) (N := some 151) (bm 13 4095) rfl rfl (by kernel_rfl) (by decide) (fun K hK => ?_)
            refine goes_ Try.func22 (by kernel_rfl) rfl #[.pointer (some ⟨g, 0, none⟩), .int .i64 x2, .int .i64 x3, .bool true] (by rfl) rfl rfl (by (try simp only [List.map_toArray, List.map_cons, List.map_nil]); first | done | rfl) ?_
            refine (TQ.out.rSet x2 x3 true).mono ?_
            rintro e wS ⟨rfl, hT, hx⟩
            have TS := Lib.hid hT
            have XS := Lib.hid (hx.trans XQ.out)
            obtain ⟨_, _, k2, k3⟩ := x_cells XS.out
            clear hT hx hHeld
            refine ⟨_, rfl, hK.out _ _ ⟨k2, k3⟩ (fun hHeld => ?_)⟩
            clear hK K
            refine norm_ (a' := ?_) ?_ ?_
            rotate_left
            · show Act.put _ (some 151) _ = _
              simp only [Act.put, List.setIfInBounds_toArray, List.set_cons_zero, List.set_cons_succ, i64_w, i32_w]
              rfl
            refine pu_ 12 (some 152) (bm 13 8191) ?_
            refine done_ (by kernel_rfl) ?_
            clear hHeld
            go_wp2_with (first | (go_at_call 16; have hgd := TS; clear hgd; refine (TS.out.freeA).mono ?_; rintro e wF ⟨rfl, hT, hx⟩; have TF := Lib.hid hT; have XF := Lib.hid (hx.trans XS.out); obtain ⟨k0, k1, k2, k3⟩ := x_cells XF.out; clear hT hx) | (go_at_call 23; refine (TF.out.rFree).mono ?_; rintro e w9 ⟨rfl, rfl⟩))
            go_roundw
            case rel => exact ⟨k + 1, _, _, _, by omega, by go_num, TF⟩
            case measure => simp [intOf]; omega
          · have s2 : (x0 == 2) = false := beq_eq_false_iff_ne.mpr w2
            clear w2
            go_wp2_with (first | (go_at_call 9; have hgd := TY; clear hgd; refine (TY.out.inodeO).mono ?_; rintro e wO ⟨lo, lp, rfl, hT, hx⟩; have TO := Lib.hid hT; have XO := Lib.hid (hx.trans XY.out); obtain ⟨k0, k1, k2, k3⟩ := x_cells XO.out; clear hT hx) | (go_at_call 10; have hgd := TO; clear hgd; refine (TO.out.blockO).mono ?_; rintro e wP ⟨lo, lp, rfl, hT, hx⟩; have TP := Lib.hid hT; have XP := Lib.hid (hx.trans XO.out); obtain ⟨k0, k1, k2, k3⟩ := x_cells XP.out; clear hT hx))
            refine start_ (n := 13) (S := fun w' => w'.cell? ⟨wr.heap.size, 2, none⟩ = some (.int .i64 x2) ∧ w'.cell? ⟨wr.heap.size, 3, none⟩ = some (.int .i64 x3)) (ds := []) #[false, false, false, false, false, false, false, false, false, false, false, false, false] (by kernel_rfl) rfl rfl ⟨k2, k3⟩ (fun hHeld => ?_)
            have TV := Lib.hid (TP.out.below (below_drew (Below.refl _ wP)))
            have XV : Hid (wP.drew.heap[wr.heap.size]? = some (.cells #[.int .i64 x0, .int .i64 x1, .int .i64 x2, .int .i64 x3] 42 (0, 0))) := Lib.hid XP.out
            clear k0 k1 k2 k3
            generalize wP.drew = V at hHeld TV XV ⊢
            refine pu_ 0 (some 77) (bm 13 1) ?_
            refine pu_ 1 (some 78) (bm 13 3) ?_
            refine tk2_ 2 (some 79) (bm 13 7) hHeld ?_
            refine pu_ 3 (some 80) (bm 13 15) ?_
            refine tk2_ 4 (some 81) (bm 13 31) hHeld ?_
            refine pu_ 6 (some 83) (bm 13 95) ?_
            refine pu_ 7 (some 84) (bm 13 223) ?_
            refine tk2_ 8 (some 85) (bm 13 479) hHeld ?_
            refine pu_ 9 (some 86) (bm 13 991) ?_
            refine tk2_ 10 (some 87) (bm 13 2015) hHeld ?_
            refine one_ (i := 5) (N := some 82) (bm 13 2047) rfl rfl (by kernel_rfl) (by decide) (fun K hK => ?_)
            refine goes_ Try.func17 (by kernel_rfl) rfl #[.pointer (some ⟨a, 0, none⟩), .int .i64 x2, .int .i64 x3] (by rfl) rfl rfl (by (try simp only [List.map_toArray, List.map_cons, List.map_nil]); first | done | rfl) ?_
            refine (TV.out.giveA x2 x3).mono ?_
            rintro e wQ ⟨rfl, hT, hx⟩
            have TQ := Lib.hid hT
            have XQ := Lib.hid (hx.trans XV.out)
            obtain ⟨_, _, k2, k3⟩ := x_cells XQ.out
            clear hT hx hHeld
            refine ⟨_, rfl, hK.out _ _ ⟨k2, k3⟩ (fun hHeld => ?_)⟩
            clear hK K
            refine norm_ (a' := ?_) ?_ ?_
            rotate_left
            · show Act.put _ (some 82) _ = _
              simp only [Act.put, List.setIfInBounds_toArray, List.set_cons_zero, List.set_cons_succ, i64_w, i32_w]
              rfl
            refine one_ (i := 11) (N := some 88) (bm 13 4095) rfl rfl (by kernel_rfl) (by decide) (fun K hK => ?_)
            refine goes_ Try.func22 (by kernel_rfl) rfl #[.pointer (some ⟨g, 0, none⟩), .int .i64 x2, .int .i64 x3, .bool false] (by rfl) rfl rfl (by (try simp only [List.map_toArray, List.map_cons, List.map_nil]); first | done | rfl) ?_
            refine (TQ.out.rSet x2 x3 false).mono ?_
            rintro e wS ⟨rfl, hT, hx⟩
            have TS := Lib.hid hT
            have XS := Lib.hid (hx.trans XQ.out)
            obtain ⟨_, _, k2, k3⟩ := x_cells XS.out
            clear hT hx hHeld
            refine ⟨_, rfl, hK.out _ _ ⟨k2, k3⟩ (fun hHeld => ?_)⟩
            clear hK K
            refine norm_ (a' := ?_) ?_ ?_
            rotate_left
            · show Act.put _ (some 88) _ = _
              simp only [Act.put, List.setIfInBounds_toArray, List.set_cons_zero, List.set_cons_succ, i64_w, i32_w]
              rfl
            refine pu_ 12 (some 89) (bm 13 8191) ?_
            refine done_ (by kernel_rfl) ?_
            clear hHeld
            go_wp2_with (first | (go_at_call 16; have hgd := TS; clear hgd; refine (TS.out.freeA).mono ?_; rintro e wF ⟨rfl, hT, hx⟩; have TF := Lib.hid hT; have XF := Lib.hid (hx.trans XS.out); obtain ⟨k0, k1, k2, k3⟩ := x_cells XF.out; clear hT hx) | (go_at_call 23; refine (TF.out.rFree).mono ?_; rintro e w9 ⟨rfl, rfl⟩))
            go_roundw
            case rel => exact ⟨k + 1, _, _, _, by omega, by go_num, TF⟩
            case measure => simp [intOf]; omega
    · have tk : ¬ ((k : Int) < (l.length : Int)) := by omega
      clear hlt
      go_wp2
      go_loopw [24] (fun iv wz => ∃ K : Int, -1 ≤ K ∧ K ≤ 9 ∧ iv = .int .i64 K ∧ Hid (Tri wx X a o g Bi Bb n p q gr i d li ld li ld wz)) (fun iv _ => (9 - intOf iv).toNat)
      case atStart => exact ⟨-1, by omega, by omega, rfl, hT⟩
      case round =>
        clear hT tk
        obtain ⟨K, hK0, hK9, rfl, hT⟩ := hrel
        obtain ⟨wz, hwz⟩ : ∃ x : World, x = wr := ⟨_, rfl⟩
        subst hwz
        by_cases hlt : K < 9
        · have t1 : decide (K < 9) = true := decide_eq_true hlt
          go_wp2_with (first | (go_at_call 24; refine (hT.out.bits K).mono ?_; rintro e w1 ⟨v0, v1, b0, b1, rfl, ⟨hR0, hR1⟩, hbo, hb⟩; obtain ⟨A0, c0, rfl⟩ := Kd.R_slice hR0; obtain ⟨A1, c1, rfl⟩ := Kd.R_slice hR1; have T1 := Lib.hid (hT.out.below hb); have HB1 := Lib.hid hb; have R0 := Lib.hid hR0; have R1 := Lib.hid hR1; have HBO := Lib.hid hbo; have hbl := BitsOf.len HQ.out hbo; clear hR0 hR1 hbo hb) | (go_at_call 25; refine (T1.out.rBits K).mono ?_; rintro e w2 ⟨v2, v3, d0, d1, rfl, ⟨hR2, hR3⟩, hbo2, hb2⟩; obtain ⟨rfl, rfl⟩ := BitsOf.same HQ.out HBO.out hbo2; obtain ⟨A2, c2, rfl, _, hC2⟩ := Kd.R_reads hR2; obtain ⟨A3, c3, rfl, _, hC3⟩ := Kd.R_reads hR3; have R1' := Kd.R_below R1.out hb2; have q0 := Kd.C_string (P := Try.prog) (c := c0) Try.underlying44 Try.underlying5 Try.underlying9 (Kd.R_reads' (Kd.R_below R0.out hb2)).2.2; have q1 := Kd.C_string (P := Try.prog) (c := c1) Try.underlying44 Try.underlying5 Try.underlying9 (Kd.R_reads' R1').2.2; have q2 := Kd.C_string (P := Try.prog) (c := c2) Try.underlying44 Try.underlying5 Try.underlying9 hC2; have q3 := Kd.C_string (P := Try.prog) (c := c3) Try.underlying44 Try.underlying5 Try.underlying9 hC3; have R2 := Lib.hid R1'; have HB2 := Lib.hid (HB1.out.trans (hb2.mono HB1.out.size)); clear hR2 hR3 hbo2 hb2 hC2 hC3 R1'))
          clear q0 q1 q2 q3 R0 R1 HB1 HBO T1
          go_loopw [29] (fun iv wq => ∃ (m : Nat) (ys : List Int), m ≤ b1.length ∧ iv = .int .i64 (m : Int) ∧ Hid (Kd.R (Kd.int .u8) 5 wq wz.heap.size (fun _ => True) (.slice A1 b1.length c1) ys ∧ Below wz.heap.size wz wq)) (fun iv _ => b1.length - (intOf iv).toNat)
          case atStart => exact ⟨0, b1, Nat.zero_le _, rfl, Lib.hid ⟨R2.out, HB2.out⟩⟩
          case round =>
            clear R2 HB2
            obtain ⟨m, ys, hm, rfl, hst⟩ := hrel
            by_cases hltm : m < b1.length
            · obtain ⟨hR, hB⟩ := hst.out
              have hys := (Kd.R_reads' hR).1
              obtain ⟨B, c', hv, hB0, _, _⟩ := Kd.R_form hR (by omega)
              injection hv with hv1 _ hv2
              subst hv1
              obtain ⟨s1, s2⟩ := row_cell hR m hltm
              obtain ⟨y, hy⟩ : ∃ y, rd ys (m : Int) = y := ⟨_, rfl⟩
              rw [hy] at s1
              have HR := Lib.hid hR
              have HB := Lib.hid hB
              have HB0 := Lib.hid hB0
              have m0 : (0 : Int) ≤ (m : Int) := by omega
              have m1 : (m : Int) < (b1.length : Int) := by omega
              clear hst hR hB hB0 hys hv2 hy
              go_wp2
              go_roundw
              case rel => exact ⟨m + 1, ys.set m _, by omega, by go_num, Lib.hid ⟨row_put HR.out m _, HB.out.setCell HB0.out _⟩⟩
              case measure => simp [intOf]; omega
            · have m1 : ¬ ((m : Int) < (b1.length : Int)) := by omega
              go_wp2
              go_roundw
              case rel => exact ⟨K + 1, by omega, by omega, by go_num, Lib.hid (hT.out.below hst.out.2)⟩
              case measure => simp [intOf]; omega
        · have t1 : decide (K < 9) = false := decide_eq_false hlt
          go_wp2
          go_ret
          exact ⟨rfl, HXW.out.trans (hT.out.bel.mono HXW.out.size)⟩
set_option maxRecDepth 100000 in
set_option maxHeartbeats 4000000 in
theorem plays_not (gr i d : Int) (A : Option Addr) (c : Nat) (l : List S42) (w : World) (hf : ¬ Fine gr i d) (hl : l.length ≤ 300) (hC : Kd.C k42 w A l.length l) (hc : l.length ≤ c) :
    Calls Try.prog 6 #[.agg #[.int .i64 gr, .int .i64 i, .int .i64 d], .slice A l.length c] w fun e w' => e = .returned (.bool true) ∧ Below w.heap.size w w' := by
  have HGD := Lib.hid (good_not hf)
  have tl1 : decide ((l.length : Int) > 300) = false := decide_eq_false (by omega)
  obtain ⟨hin, hnp⟩ := rin_any gr i d
  obtain ⟨hbn, hnq⟩ := rbn_any gr i d
  obtain ⟨n, hn⟩ : ∃ n, gN gr i d = n := ⟨_, rfl⟩
  obtain ⟨p, hp⟩ : ∃ p, (i * 16).toNat = p := ⟨_, rfl⟩
  obtain ⟨q, hq⟩ : ∃ q, d.toNat = q := ⟨_, rfl⟩
  rw [hn, hp] at hin hnp
  rw [hn, hq] at hbn hnq
  have HNEW : Hid (∀ W, Calls Try.prog 8 #[.agg #[.int .i64 gr, .int .i64 i, .int .i64 d]] W fun e w' => ∃ g, e = .returned (.pointer (some ⟨g, 0, none⟩)) ∧ IsAA W.heap.size (fun k => W.heap.size ≤ k ∧ k < w'.heap.size) w' g gr i d n p q (List.replicate (n * p) false) (List.replicate (n * q) false) ∧ Below W.heap.size W w') := Lib.hid (fun W => by have := newA gr i d W; rw [hn, hp, hq] at this; exact this)
  have HRN : Hid (∀ W, Calls Try.prog 18 #[.agg #[.int .i64 gr, .int .i64 i, .int .i64 d]] W fun e w' => ∃ g Bi Bb, e = .returned (.pointer (some ⟨g, 0, none⟩)) ∧ IsR w' g Bi Bb gr i d (List.replicate (n * p) false) (List.replicate (n * q) false) ∧ (W.heap.size ≤ g ∧ W.heap.size ≤ Bi ∧ W.heap.size ≤ Bb) ∧ Below W.heap.size W w') := Lib.hid (fun W => rNew gr i d (n * p) (n * q) W hin hbn (by omega) (by omega))
  clear hin hbn hnp hnq hn hp hq hf
  have HCW := Lib.hid hC
  have HLC := Lib.hid hc
  clear hC hc
  obtain ⟨wx, hwx⟩ : ∃ wx, w.alloc (.cells #[.int .i64 gr, .int .i64 i, .int .i64 d] 24) = wx := ⟨_, rfl⟩
  have hx0 : wx.heap[w.heap.size]? = some (.cells #[.int .i64 gr, .int .i64 i, .int .i64 d] 24 (0, 0)) := by rw [← hwx]; exact blk_new w _
  have HXW : Hid (Below w.heap.size w wx) := Lib.hid (by rw [← hwx]; exact (Below.refl _ w).alloc (Nat.le_refl _) _)
  have HXS : Hid (w.heap.size < wx.heap.size) := Lib.hid (blk_lt hx0)
  have y0 : wx.cell? ⟨w.heap.size, 0, none⟩ = some (.int .i64 gr) := (blk_cell hx0 0).trans rfl
  have y1 : wx.cell? ⟨w.heap.size, 1, none⟩ = some (.int .i64 i) := (blk_cell hx0 1).trans rfl
  have y2 : wx.cell? ⟨w.heap.size, 2, none⟩ = some (.int .i64 d) := (blk_cell hx0 2).trans rfl
  have Y0 := Lib.hid y0
  have Y1 := Lib.hid y1
  have Y2 := Lib.hid y2
  clear hx0 y0 y1 y2
  go_enter Try.func6, Try.ntmps6
  go_wp2_with (first | (go_at_call 7; refine (alive_calls _).mono ?_; rintro e w1 ⟨rfl, hb⟩; have HB1 := Lib.hid hb; have z0 := pw_cell_below hb Y0.out; have z1 := pw_cell_below hb Y1.out; have z2 := pw_cell_below hb Y2.out; clear hb) | (go_at_call 12; refine (lockgateref1_Good.calls gr i d _ _ HGD.out).mono ?_; rintro e w2 ⟨rfl, hb⟩; have HB2 := Lib.hid (HB1.out.trans (hb.mono HB1.out.size)); have z0 := pw_cell_below HB2.out Y0.out; have z1 := pw_cell_below HB2.out Y1.out; have z2 := pw_cell_below HB2.out Y2.out; clear hb) | (go_at_call 8; first | (have HT := HA3; clear HT; refine (HNEW.out _).mono ?_; rintro e w4 ⟨o, rfl, hA, hb⟩; have HA4 := Lib.hid hA; have HB4 := Lib.hid hb; have HBB := Lib.hid (HB3B.out.trans (hb.mono HB3B.out.size)); have z0 := pw_cell_below HBB.out Y0.out; have z1 := pw_cell_below HBB.out Y1.out; have z2 := pw_cell_below HBB.out Y2.out; clear hb hA) | (refine (HNEW.out _).mono ?_; rintro e w3 ⟨a, rfl, hA, hb⟩; have HA3 := Lib.hid hA; have HB3 := Lib.hid hb; have HB3B := Lib.hid (HB2.out.trans (hb.mono HB2.out.size)); have z0 := pw_cell_below HB3B.out Y0.out; have z1 := pw_cell_below HB3B.out Y1.out; have z2 := pw_cell_below HB3B.out Y2.out; clear hb hA)) | (go_at_call 18; refine (HRN.out _).mono ?_; rintro e w5 ⟨g, Bi, Bb, rfl, hR, hge, hb⟩; have HT5 := Lib.hid (Tri.start HXS.out HB2.out HB2.out.size HA3.out HB3.out HA4.out HB4.out hR hge hb); clear hR hge hb))
  have HQ : Hid (0 < n → q ≤ 1000) := Lib.hid (fun h0 => by obtain ⟨_, _, e3, _, _, _, _, _, f6⟩ := HT5.out.fine.1 h0; omega)
  clear z0 z1 z2 HA3 HA4 HB3 HB4 HB3B HBB HB1 HB2 HNEW HRN
  go_loopw [10] (fun iv wr => ∃ (k : Nat) (li ld : List Bool) (X : Nat), k ≤ l.length ∧ iv = .int .i64 (k : Int) ∧ Hid (Tri wx X a o g Bi Bb n p q gr i d li ld li ld wr)) (fun iv _ => l.length - (intOf iv).toNat)
  case atStart => exact ⟨0, _, _, _, Nat.zero_le _, rfl, HT5⟩
  case round =>
    obtain ⟨k, li, ld, X, hk, rfl, hT⟩ := hrel
    clear HT5
    by_cases hlt : k < l.length
    · have hT' := hT.out
      have hCr := Kd.C_below HCW.out (HXW.out.trans (hT'.bel.mono HXW.out.size))
      obtain ⟨ad, rfl, hcell⟩ := at_T42 hCr (by omega)
      obtain ⟨z0, z1, z2, z3⟩ := hcell k hlt
      obtain ⟨x0, hx0⟩ : ∃ x, (l.getD k z42).f0 = x := ⟨_, rfl⟩
      obtain ⟨x1, hx1⟩ : ∃ x, (l.getD k z42).f1 = x := ⟨_, rfl⟩
      obtain ⟨x2, hx2⟩ : ∃ x, (l.getD k z42).f2 = x := ⟨_, rfl⟩
      obtain ⟨x3, hx3⟩ : ∃ x, (l.getD k z42).f3 = x := ⟨_, rfl⟩
      rw [hx0] at z0
      rw [hx1] at z1
      rw [hx2] at z2
      rw [hx3] at z3
      have hki : (k : Int) < (l.length : Int) := by omega
      have hk0 : (0 : Int) ≤ (k : Int) := by omega
      obtain ⟨wy, hwy⟩ : ∃ wy, wr.alloc (.cells #[.int .i64 x0, .int .i64 x1, .int .i64 x2, .int .i64 x3] 42) = wy := ⟨_, rfl⟩
      have hbx := blk_new wr (.cells #[.int .i64 x0, .int .i64 x1, .int .i64 x2, .int .i64 x3] 42)
      rw [hwy] at hbx
      have XY := Lib.hid hbx
      have TY := Lib.hid (hT'.next (W1 := wy) (by rw [← hwy]; exact (Below.refl _ _).alloc (Nat.le_refl _) _) (blk_lt hbx))
      clear hcell hx0 hx1 hx2 hx3 hCr hT' hlt hbx hT
      by_cases w0 : x0 = 0
      · have s0 : (x0 == 0) = true := beq_iff_eq.mpr w0
        clear w0
        go_wp2_with (first | (go_at_call 9; have hgd := TP; clear hgd; refine (TP.out.inodeA x1).mono ?_; rintro e wQ ⟨rfl, hT, hx⟩; have TQ := Lib.hid hT; have XQ := Lib.hid (hx.trans XP.out); obtain ⟨k0, k1, k2, k3⟩ := x_cells XQ.out; clear hT hx) | (go_at_call 9; have hgd := TY; clear hgd; refine (TY.out.inodeO).mono ?_; rintro e wO ⟨lo, lp, rfl, hT, hx⟩; have TO := Lib.hid hT; have XO := Lib.hid (hx.trans XY.out); obtain ⟨k0, k1, k2, k3⟩ := x_cells XO.out; clear hT hx) | (go_at_call 10; have hgd := TO; clear hgd; refine (TO.out.blockO).mono ?_; rintro e wP ⟨lo, lp, rfl, hT, hx⟩; have TP := Lib.hid hT; have XP := Lib.hid (hx.trans XO.out); obtain ⟨k0, k1, k2, k3⟩ := x_cells XP.out; clear hT hx) | (go_at_call 19; have hgd := TQ; clear hgd; refine (TQ.out.rInode x1).mono ?_; rintro e wS ⟨rfl, hT, hx⟩; have TS := Lib.hid hT; have XS := Lib.hid (hx.trans XQ.out); obtain ⟨k0, k1, k2, k3⟩ := x_cells XS.out; clear hT hx) | (go_at_call 16; have hgd := TS; clear hgd; refine (TS.out.freeA).mono ?_; rintro e wF ⟨rfl, hT, hx⟩; have TF := Lib.hid hT; have XF := Lib.hid (hx.trans XS.out); obtain ⟨k0, k1, k2, k3⟩ := x_cells XF.out; clear hT hx) | (go_at_call 23; refine (TF.out.rFree).mono ?_; rintro e w9 ⟨rfl, rfl⟩))
        go_roundw
        case rel => exact ⟨k + 1, _, _, _, by omega, by go_num, TF⟩
        case measure => simp [intOf]; omega
      · have s0 : (x0 == 0) = false := beq_eq_false_iff_ne.mpr w0
        clear w0
        by_cases w1 : x0 = 1
        · have s1 : (x0 == 1) = true := beq_iff_eq.mpr w1
          clear w1
          go_wp2_with (first | (go_at_call 10; have hgd := TP; clear hgd; refine (TP.out.blockA x1).mono ?_; rintro e wQ ⟨rfl, hT, hx⟩; have TQ := Lib.hid hT; have XQ := Lib.hid (hx.trans XP.out); obtain ⟨k0, k1, k2, k3⟩ := x_cells XQ.out; clear hT hx) | (go_at_call 9; have hgd := TY; clear hgd; refine (TY.out.inodeO).mono ?_; rintro e wO ⟨lo, lp, rfl, hT, hx⟩; have TO := Lib.hid hT; have XO := Lib.hid (hx.trans XY.out); obtain ⟨k0, k1, k2, k3⟩ := x_cells XO.out; clear hT hx) | (go_at_call 10; have hgd := TO; clear hgd; refine (TO.out.blockO).mono ?_; rintro e wP ⟨lo, lp, rfl, hT, hx⟩; have TP := Lib.hid hT; have XP := Lib.hid (hx.trans XO.out); obtain ⟨k0, k1, k2, k3⟩ := x_cells XP.out; clear hT hx) | (go_at_call 20; have hgd := TQ; clear hgd; refine (TQ.out.rTake x1).mono ?_; rintro e wS ⟨rfl, hT, hx⟩; have TS := Lib.hid hT; have XS := Lib.hid (hx.trans XQ.out); obtain ⟨k0, k1, k2, k3⟩ := x_cells XS.out; clear hT hx) | (go_at_call 16; have hgd := TS; clear hgd; refine (TS.out.freeA).mono ?_; rintro e wF ⟨rfl, hT, hx⟩; have TF := Lib.hid hT; have XF := Lib.hid (hx.trans XS.out); obtain ⟨k0, k1, k2, k3⟩ := x_cells XF.out; clear hT hx) | (go_at_call 23; refine (TF.out.rFree).mono ?_; rintro e w9 ⟨rfl, rfl⟩))
          go_roundw
          case rel => exact ⟨k + 1, _, _, _, by omega, by go_num, TF⟩
          case measure => simp [intOf]; omega
        · have s1 : (x0 == 1) = false := beq_eq_false_iff_ne.mpr w1
          clear w1
          by_cases w2 : x0 = 2
          · have s2 : (x0 == 2) = true := beq_iff_eq.mpr w2
            clear w2
            go_wp2_with (first | (go_at_call 9; have hgd := TY; clear hgd; refine (TY.out.inodeO).mono ?_; rintro e wO ⟨lo, lp, rfl, hT, hx⟩; have TO := Lib.hid hT; have XO := Lib.hid (hx.trans XY.out); obtain ⟨k0, k1, k2, k3⟩ := x_cells XO.out; clear hT hx) | (go_at_call 10; have hgd := TO; clear hgd; refine (TO.out.blockO).mono ?_; rintro e wP ⟨lo, lp, rfl, hT, hx⟩; have TP := Lib.hid hT; have XP := Lib.hid (hx.trans XO.out); obtain ⟨k0, k1, k2, k3⟩ := x_cells XP.out; clear hT hx))
            refine start_ (n := 13) (S := fun w' => w'.cell? ⟨wr.heap.size, 2, none⟩ = some (.int .i64 x2) ∧ w'.cell? ⟨wr.heap.size, 3, none⟩ = some (.int .i64 x3)) (ds := []) #[false, false, false, false, false, false, false, false, false, false, false, false, false] (by kernel_rfl) rfl rfl ⟨k2, k3⟩ (fun hHeld => ?_)
            have TV := Lib.hid (TP.out.below (below_drew (Below.refl _ wP)))
            have XV : Hid (wP.drew.heap[wr.heap.size]? = some (.cells #[.int .i64 x0, .int .i64 x1, .int .i64 x2, .int .i64 x3] 42 (0, 0))) := Lib.hid XP.out
            clear k0 k1 k2 k3
            generalize wP.drew = V at hHeld TV XV ⊢
            refine pu_ 0 (some 140) (bm 13 1) ?_
            refine pu_ 1 (some 141) (bm 13 3) ?_
            refine tk2_ 2 (some 142) (bm 13 7) hHeld ?_
            refine pu_ 3 (some 143) (bm 13 15) ?_
            refine tk2_ 4 (some 144) (bm 13 31) hHeld ?_
            refine pu_ 6 (some 146) (bm 13 95) ?_
            refine pu_ 7 (some 147) (bm 13 223) ?_
            refine tk2_ 8 (some 148) (bm 13 479) hHeld ?_
            refine pu_ 9 (some 149) (bm 13 991) ?_
            refine tk2_ 10 (some 150) (bm 13 2015) hHeld ?_
            refine one_ (i := 5) (N := some 145) (bm 13 2047) rfl rfl (by kernel_rfl) (by decide) (fun K hK => ?_)
            refine goes_ Try.func21 (by kernel_rfl) rfl #[.pointer (some ⟨a, 0, none⟩), .int .i64 x2, .int .i64 x3] (by rfl) rfl rfl (by (try simp only [List.map_toArray, List.map_cons, List.map_nil]); first | done | rfl) ?_
            refine (TV.out.takeA x2 x3).mono ?_
            rintro e wQ ⟨rfl, hT, hx⟩
            have TQ := Lib.hid hT
            have XQ := Lib.hid (hx.trans XV.out)
            obtain ⟨_, _, k2, k3⟩ := x_cells XQ.out
            clear hT hx hHeld
            refine ⟨_, rfl, hK.out _ _ ⟨k2, k3⟩ (fun hHeld => ?_)⟩
            clear hK K
            refine norm_ (a' := ?_) ?_ ?_
            rotate_left
            · show Act.put _ (some 145) _ = _
              simp only [Act.put, List.setIfInBounds_toArray, List.set_cons_zero, List.set_cons_succ, i64_w, i32_w]
              rfl
            refine one_ (i := 11) (N := some 151) (bm 13 4095) rfl rfl (by kernel_rfl) (by decide) (fun K hK => ?_)
            refine goes_ Try.func22 (by kernel_rfl) rfl #[.pointer (some ⟨g, 0, none⟩), .int .i64 x2, .int .i64 x3, .bool true] (by rfl) rfl rfl (by (try simp only [List.map_toArray, List.map_cons, List.map_nil]); first | done | rfl) ?_
            refine (TQ.out.rSet x2 x3 true).mono ?_
            rintro e wS ⟨rfl, hT, hx⟩
            have TS := Lib.hid hT
            have XS := Lib.hid (hx.trans XQ.out)
            obtain ⟨_, _, k2, k3⟩ := x_cells XS.out
            clear hT hx hHeld
            refine ⟨_, rfl, hK.out _ _ ⟨k2, k3⟩ (fun hHeld => ?_)⟩
            clear hK K
            refine norm_ (a' := ?_) ?_ ?_
            rotate_left
            · show Act.put _ (some 151) _ = _
              simp only [Act.put, List.setIfInBounds_toArray, List.set_cons_zero, List.set_cons_succ, i64_w, i32_w]
              rfl
            refine pu_ 12 (some 152) (bm 13 8191) ?_
            refine done_ (by kernel_rfl) ?_
            clear hHeld
            go_wp2_with (first | (go_at_call 16; have hgd := TS; clear hgd; refine (TS.out.freeA).mono ?_; rintro e wF ⟨rfl, hT, hx⟩; have TF := Lib.hid hT; have XF := Lib.hid (hx.trans XS.out); obtain ⟨k0, k1, k2, k3⟩ := x_cells XF.out; clear hT hx) | (go_at_call 23; refine (TF.out.rFree).mono ?_; rintro e w9 ⟨rfl, rfl⟩))
            go_roundw
            case rel => exact ⟨k + 1, _, _, _, by omega, by go_num, TF⟩
            case measure => simp [intOf]; omega
          · have s2 : (x0 == 2) = false := beq_eq_false_iff_ne.mpr w2
            clear w2
            go_wp2_with (first | (go_at_call 9; have hgd := TY; clear hgd; refine (TY.out.inodeO).mono ?_; rintro e wO ⟨lo, lp, rfl, hT, hx⟩; have TO := Lib.hid hT; have XO := Lib.hid (hx.trans XY.out); obtain ⟨k0, k1, k2, k3⟩ := x_cells XO.out; clear hT hx) | (go_at_call 10; have hgd := TO; clear hgd; refine (TO.out.blockO).mono ?_; rintro e wP ⟨lo, lp, rfl, hT, hx⟩; have TP := Lib.hid hT; have XP := Lib.hid (hx.trans XO.out); obtain ⟨k0, k1, k2, k3⟩ := x_cells XP.out; clear hT hx))
            refine start_ (n := 13) (S := fun w' => w'.cell? ⟨wr.heap.size, 2, none⟩ = some (.int .i64 x2) ∧ w'.cell? ⟨wr.heap.size, 3, none⟩ = some (.int .i64 x3)) (ds := []) #[false, false, false, false, false, false, false, false, false, false, false, false, false] (by kernel_rfl) rfl rfl ⟨k2, k3⟩ (fun hHeld => ?_)
            have TV := Lib.hid (TP.out.below (below_drew (Below.refl _ wP)))
            have XV : Hid (wP.drew.heap[wr.heap.size]? = some (.cells #[.int .i64 x0, .int .i64 x1, .int .i64 x2, .int .i64 x3] 42 (0, 0))) := Lib.hid XP.out
            clear k0 k1 k2 k3
            generalize wP.drew = V at hHeld TV XV ⊢
            refine pu_ 0 (some 77) (bm 13 1) ?_
            refine pu_ 1 (some 78) (bm 13 3) ?_
            refine tk2_ 2 (some 79) (bm 13 7) hHeld ?_
            refine pu_ 3 (some 80) (bm 13 15) ?_
            refine tk2_ 4 (some 81) (bm 13 31) hHeld ?_
            refine pu_ 6 (some 83) (bm 13 95) ?_
            refine pu_ 7 (some 84) (bm 13 223) ?_
            refine tk2_ 8 (some 85) (bm 13 479) hHeld ?_
            refine pu_ 9 (some 86) (bm 13 991) ?_
            refine tk2_ 10 (some 87) (bm 13 2015) hHeld ?_
            refine one_ (i := 5) (N := some 82) (bm 13 2047) rfl rfl (by kernel_rfl) (by decide) (fun K hK => ?_)
            refine goes_ Try.func17 (by kernel_rfl) rfl #[.pointer (some ⟨a, 0, none⟩), .int .i64 x2, .int .i64 x3] (by rfl) rfl rfl (by (try simp only [List.map_toArray, List.map_cons, List.map_nil]); first | done | rfl) ?_
            refine (TV.out.giveA x2 x3).mono ?_
            rintro e wQ ⟨rfl, hT, hx⟩
            have TQ := Lib.hid hT
            have XQ := Lib.hid (hx.trans XV.out)
            obtain ⟨_, _, k2, k3⟩ := x_cells XQ.out
            clear hT hx hHeld
            refine ⟨_, rfl, hK.out _ _ ⟨k2, k3⟩ (fun hHeld => ?_)⟩
            clear hK K
            refine norm_ (a' := ?_) ?_ ?_
            rotate_left
            · show Act.put _ (some 82) _ = _
              simp only [Act.put, List.setIfInBounds_toArray, List.set_cons_zero, List.set_cons_succ, i64_w, i32_w]
              rfl
            refine one_ (i := 11) (N := some 88) (bm 13 4095) rfl rfl (by kernel_rfl) (by decide) (fun K hK => ?_)
            refine goes_ Try.func22 (by kernel_rfl) rfl #[.pointer (some ⟨g, 0, none⟩), .int .i64 x2, .int .i64 x3, .bool false] (by rfl) rfl rfl (by (try simp only [List.map_toArray, List.map_cons, List.map_nil]); first | done | rfl) ?_
            refine (TQ.out.rSet x2 x3 false).mono ?_
            rintro e wS ⟨rfl, hT, hx⟩
            have TS := Lib.hid hT
            have XS := Lib.hid (hx.trans XQ.out)
            obtain ⟨_, _, k2, k3⟩ := x_cells XS.out
            clear hT hx hHeld
            refine ⟨_, rfl, hK.out _ _ ⟨k2, k3⟩ (fun hHeld => ?_)⟩
            clear hK K
            refine norm_ (a' := ?_) ?_ ?_
            rotate_left
            · show Act.put _ (some 88) _ = _
              simp only [Act.put, List.setIfInBounds_toArray, List.set_cons_zero, List.set_cons_succ, i64_w, i32_w]
              rfl
            refine pu_ 12 (some 89) (bm 13 8191) ?_
            refine done_ (by kernel_rfl) ?_
            clear hHeld
            go_wp2_with (first | (go_at_call 16; have hgd := TS; clear hgd; refine (TS.out.freeA).mono ?_; rintro e wF ⟨rfl, hT, hx⟩; have TF := Lib.hid hT; have XF := Lib.hid (hx.trans XS.out); obtain ⟨k0, k1, k2, k3⟩ := x_cells XF.out; clear hT hx) | (go_at_call 23; refine (TF.out.rFree).mono ?_; rintro e w9 ⟨rfl, rfl⟩))
            go_roundw
            case rel => exact ⟨k + 1, _, _, _, by omega, by go_num, TF⟩
            case measure => simp [intOf]; omega
    · have tk : ¬ ((k : Int) < (l.length : Int)) := by omega
      clear hlt
      go_wp2
      go_loopw [24] (fun iv wz => ∃ K : Int, -1 ≤ K ∧ K ≤ 9 ∧ iv = .int .i64 K ∧ Hid (Tri wx X a o g Bi Bb n p q gr i d li ld li ld wz)) (fun iv _ => (9 - intOf iv).toNat)
      case atStart => exact ⟨-1, by omega, by omega, rfl, hT⟩
      case round =>
        clear hT tk
        obtain ⟨K, hK0, hK9, rfl, hT⟩ := hrel
        obtain ⟨wz, hwz⟩ : ∃ x : World, x = wr := ⟨_, rfl⟩
        subst hwz
        by_cases hlt : K < 9
        · have t1 : decide (K < 9) = true := decide_eq_true hlt
          go_wp2_with (first | (go_at_call 24; refine (hT.out.bits K).mono ?_; rintro e w1 ⟨v0, v1, b0, b1, rfl, ⟨hR0, hR1⟩, hbo, hb⟩; obtain ⟨A0, c0, rfl⟩ := Kd.R_slice hR0; obtain ⟨A1, c1, rfl⟩ := Kd.R_slice hR1; have T1 := Lib.hid (hT.out.below hb); have HB1 := Lib.hid hb; have R0 := Lib.hid hR0; have R1 := Lib.hid hR1; have HBO := Lib.hid hbo; have hbl := BitsOf.len HQ.out hbo; clear hR0 hR1 hbo hb) | (go_at_call 25; refine (T1.out.rBits K).mono ?_; rintro e w2 ⟨v2, v3, d0, d1, rfl, ⟨hR2, hR3⟩, hbo2, hb2⟩; obtain ⟨rfl, rfl⟩ := BitsOf.same HQ.out HBO.out hbo2; obtain ⟨A2, c2, rfl, _, hC2⟩ := Kd.R_reads hR2; obtain ⟨A3, c3, rfl, _, hC3⟩ := Kd.R_reads hR3; have R1' := Kd.R_below R1.out hb2; have q0 := Kd.C_string (P := Try.prog) (c := c0) Try.underlying44 Try.underlying5 Try.underlying9 (Kd.R_reads' (Kd.R_below R0.out hb2)).2.2; have q1 := Kd.C_string (P := Try.prog) (c := c1) Try.underlying44 Try.underlying5 Try.underlying9 (Kd.R_reads' R1').2.2; have q2 := Kd.C_string (P := Try.prog) (c := c2) Try.underlying44 Try.underlying5 Try.underlying9 hC2; have q3 := Kd.C_string (P := Try.prog) (c := c3) Try.underlying44 Try.underlying5 Try.underlying9 hC3; have R2 := Lib.hid R1'; have HB2 := Lib.hid (HB1.out.trans (hb2.mono HB1.out.size)); clear hR2 hR3 hbo2 hb2 hC2 hC3 R1'))
          clear q0 q1 q2 q3 R0 R1 HB1 HBO T1
          go_loopw [29] (fun iv wq => ∃ (m : Nat) (ys : List Int), m ≤ b1.length ∧ iv = .int .i64 (m : Int) ∧ Hid (Kd.R (Kd.int .u8) 5 wq wz.heap.size (fun _ => True) (.slice A1 b1.length c1) ys ∧ Below wz.heap.size wz wq)) (fun iv _ => b1.length - (intOf iv).toNat)
          case atStart => exact ⟨0, b1, Nat.zero_le _, rfl, Lib.hid ⟨R2.out, HB2.out⟩⟩
          case round =>
            clear R2 HB2
            obtain ⟨m, ys, hm, rfl, hst⟩ := hrel
            by_cases hltm : m < b1.length
            · obtain ⟨hR, hB⟩ := hst.out
              have hys := (Kd.R_reads' hR).1
              obtain ⟨B, c', hv, hB0, _, _⟩ := Kd.R_form hR (by omega)
              injection hv with hv1 _ hv2
              subst hv1
              obtain ⟨s1, s2⟩ := row_cell hR m hltm
              obtain ⟨y, hy⟩ : ∃ y, rd ys (m : Int) = y := ⟨_, rfl⟩
              rw [hy] at s1
              have HR := Lib.hid hR
              have HB := Lib.hid hB
              have HB0 := Lib.hid hB0
              have m0 : (0 : Int) ≤ (m : Int) := by omega
              have m1 : (m : Int) < (b1.length : Int) := by omega
              clear hst hR hB hB0 hys hv2 hy
              go_wp2
              go_roundw
              case rel => exact ⟨m + 1, ys.set m _, by omega, by go_num, Lib.hid ⟨row_put HR.out m _, HB.out.setCell HB0.out _⟩⟩
              case measure => simp [intOf]; omega
            · have m1 : ¬ ((m : Int) < (b1.length : Int)) := by omega
              go_wp2
              go_roundw
              case rel => exact ⟨K + 1, by omega, by omega, by go_num, Lib.hid (hT.out.below hst.out.2)⟩
              case measure => simp [intOf]; omega
        · have t1 : decide (K < 9) = false := decide_eq_false hlt
          go_wp2
          go_ret
          exact ⟨rfl, HXW.out.trans (hT.out.bel.mono HXW.out.size)⟩
set_option maxRecDepth 100000 in
set_option maxHeartbeats 2000000 in
theorem plays_other (gr i d : Int) (A : Option Addr) (c : Nat) (l : List S42) (w : World) (h : (∃ gd, lockgateref1_Good.f gr i d = some gd) ∧ 300 < l.length ∨ (l.length ≤ 300 ∧ Fine gr i d ∧ 100 < d)) :
    Calls Try.prog 6 #[.agg #[.int .i64 gr, .int .i64 i, .int .i64 d], .slice A l.length c] w fun e w' => e = .returned (.bool true) ∧ Below w.heap.size w w' := by
  obtain ⟨wx, hwx⟩ : ∃ wx, w.alloc (.cells #[.int .i64 gr, .int .i64 i, .int .i64 d] 24) = wx := ⟨_, rfl⟩
  have hx0 : wx.heap[w.heap.size]? = some (.cells #[.int .i64 gr, .int .i64 i, .int .i64 d] 24 (0, 0)) := by rw [← hwx]; exact blk_new w _
  have HXW : Hid (Below w.heap.size w wx) := Lib.hid (by rw [← hwx]; exact (Below.refl _ w).alloc (Nat.le_refl _) _)
  have y0 : wx.cell? ⟨w.heap.size, 0, none⟩ = some (.int .i64 gr) := (blk_cell hx0 0).trans rfl
  have y1 : wx.cell? ⟨w.heap.size, 1, none⟩ = some (.int .i64 i) := (blk_cell hx0 1).trans rfl
  have y2 : wx.cell? ⟨w.heap.size, 2, none⟩ = some (.int .i64 d) := (blk_cell hx0 2).trans rfl
  have Y0 := Lib.hid y0
  have Y1 := Lib.hid y1
  have Y2 := Lib.hid y2
  clear hx0 y0 y1 y2
  rcases h with ⟨⟨gd, hgd⟩, hl⟩ | ⟨hl, hf, hd⟩
  · have HGD := Lib.hid hgd
    have tl1 : decide ((l.length : Int) > 300) = true := decide_eq_true (by omega)
    clear hgd
    go_enter Try.func6, Try.ntmps6
    go_wp2_with (first | (go_at_call 7; refine (alive_calls _).mono ?_; rintro e w1 ⟨rfl, hb⟩; have HB1 := Lib.hid hb; have z0 := pw_cell_below hb Y0.out; have z1 := pw_cell_below hb Y1.out; have z2 := pw_cell_below hb Y2.out; clear hb) | (go_at_call 12; refine (lockgateref1_Good.calls gr i d _ _ HGD.out).mono ?_; rintro e w2 ⟨rfl, hb⟩; have HB2 := Lib.hid (HB1.out.trans (hb.mono HB1.out.size)); have z0 := pw_cell_below HB2.out Y0.out; have z1 := pw_cell_below HB2.out Y1.out; have z2 := pw_cell_below HB2.out Y2.out; clear hb))
    go_ret
    exact ⟨rfl, HXW.out.trans (HB2.out.mono HXW.out.size)⟩
  · have HGD := Lib.hid (good_fine hf)
    have tl1 : decide ((l.length : Int) > 300) = false := decide_eq_false (by omega)
    have td1 : decide (d > 100) = true := decide_eq_true (by omega)
    clear hf
    go_enter Try.func6, Try.ntmps6
    go_wp2_with (first | (go_at_call 7; refine (alive_calls _).mono ?_; rintro e w1 ⟨rfl, hb⟩; have HB1 := Lib.hid hb; have z0 := pw_cell_below hb Y0.out; have z1 := pw_cell_below hb Y1.out; have z2 := pw_cell_below hb Y2.out; clear hb) | (go_at_call 12; refine (lockgateref1_Good.calls gr i d _ _ HGD.out).mono ?_; rintro e w2 ⟨rfl, hb⟩; have HB2 := Lib.hid (HB1.out.trans (hb.mono HB1.out.size)); have z0 := pw_cell_below HB2.out Y0.out; have z1 := pw_cell_below HB2.out Y1.out; have z2 := pw_cell_below HB2.out Y2.out; clear hb))
    go_ret
    exact ⟨rfl, HXW.out.trans (HB2.out.mono HXW.out.size)⟩
theorem plays_row (gr i d : Int) (A : Option Addr) (c : Nat) (l : List S42) (w : World) (hC : Kd.C k42 w A l.length l) (hc : l.length ≤ c) (_ : (Lit.int .i64 gr).wf = true) (_ : (Lit.int .i64 i).wf = true) (_ : (Lit.int .i64 d).wf = true) (_ : l.length ≤ maxLen ∧ ∀ y ∈ l, ((Lit.int .i64 y.f0).wf = true ∧ (Lit.int .i64 y.f1).wf = true ∧ (Lit.int .i64 y.f2).wf = true ∧ (Lit.int .i64 y.f3).wf = true)) :
    Calls Try.prog 6 #[.agg #[.int .i64 gr, .int .i64 i, .int .i64 d], .slice A l.length c] w fun e w' => e = .returned (.bool true) ∧ Below w.heap.size w w' := by
  by_cases hl : 300 < l.length
  · refine plays_other gr i d A c l w (.inl ⟨?_, hl⟩)
    by_cases hf : Fine gr i d
    · exact ⟨_, good_fine hf⟩
    · exact ⟨_, good_not hf⟩
  · by_cases hf : Fine gr i d
    · by_cases hd : 100 < d
      · exact plays_other gr i d A c l w (.inr ⟨by omega, hf, hd⟩)
      · exact plays_fine gr i d A c l w hf (by omega) (by omega) hC hc
    · exact plays_not gr i d A c l w hf (by omega) hC hc
end Go.Proofs.Ytppjeikkodjjhaa.Given
