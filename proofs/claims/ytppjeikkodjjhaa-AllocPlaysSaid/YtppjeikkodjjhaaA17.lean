/- The reference's Inode, TakeBlock, Set, Free. -/
import Derived.Test.YtppjeikkodjjhaaSteps
import Derived.Test.YtppjeikkodjjhaaA16
namespace Go.Proofs.Ytppjeikkodjjhaa.Given
open Go.RowKit Go.Shelf Go.Proofs.YtppjeikkodjjhaaW.PrintWords Go.Proofs.YtppjeikkodjjhaaW.PrintLast Go.Proofs.YtppjeikkodjjhaaW.PrintMore Go.Proofs.YtppjeikkodjjhaaBase Go.Proofs.Ytppjeikkodjjhaa.PGeo Go.Proofs.Ytppjeikkodjjhaa.PGet Go.Proofs.Ytppjeikkodjjhaa.PWith
set_option linter.unusedVariables false
set_option linter.unusedSimpArgs false

theorem rdata_is {gr i d : Int} {n q : Nat} (h : Fine gr i d) (hn : gr = (n : Int)) (hq : d = (q : Int)) {k : Nat} (hk : k < n * q) : lockgateref1_Data.f gr i d (k : Int) = some (dataAt i q k, true) := by
  obtain ⟨r, h1, h2⟩ := data_same gr i d (k : Int) 11 (by omega)
  rw [data_is h hn hq hk] at h1
  rw [h2, ← h1]
theorem off_set {B : Nat} {W W1 : World} (hb : Below W.heap.size W W1) (j : Nat) (v : Value) : Off (fun k => k = B) W (W1.setCell ⟨B, j, none⟩ v) := (Off.of_below hb (fun k => k = B)).setCell (p := ⟨B, j, none⟩) (.inl rfl) v

set_option maxRecDepth 100000 in
set_option maxHeartbeats 2000000 in
theorem rInode (g Bi Bb n p : Nat) (gr i d : Int) (li ld : List Bool) (from0 : Int) (w : World) (h : IsR w g Bi Bb gr i d li ld) (hl : li.length = n * p) (hp : 0 < n → i * 16 = (p : Int) ∧ 0 < p ∧ p ≤ 64) (hn : n ≤ 8) :
    Calls Try.prog 19 #[.pointer (some ⟨g, 0, none⟩), .int .i64 from0] w fun e w' => e = .returned (.tuple #[.int .i64 (optI (nextA li p n from0)), .bool (nextA li p n from0).isSome]) ∧ IsR w' g Bi Bb gr i d (setO li (nextA li p n from0)) ld ∧ Off (fun k => k = Bi) w w' := by
  have HI := Lib.hid h
  have hls : li.length ≤ 1000000 := by
    rw [hl]
    rcases Nat.eq_zero_or_pos n with h0 | h0
    · rw [h0, Nat.zero_mul]; omega
    · exact Nat.le_trans (Nat.mul_le_mul hn (hp h0).2.2) (by omega)
  obtain ⟨a1, ha1⟩ : ∃ a1, wrap64 (16 * i) = a1 := ⟨_, rfl⟩
  have hap : 0 < n → a1 = (p : Int) ∧ 0 < p ∧ p ≤ 1000 := fun h0 => by
    obtain ⟨h1, h2, h3⟩ := hp h0
    refine ⟨?_, h2, by omega⟩
    rw [← ha1, w64_id (by omega) (by omega)]
    omega
  obtain ⟨kn, hkn⟩ := next_is from0 a1 hl hap hn
  have HNX := Lib.hid hkn
  have HA1 := Lib.hid ha1
  have HCD : Hid (∀ W, Below w.heap.size w W → Kd.C Kd.bool W (some ⟨Bi, 0, none⟩) li.length li) := Lib.hid (fun W hW => (h.2.1.1.below hW).C hls)
  have HLL := Lib.hid hl
  clear h hl hp hn hap hkn ha1
  go_enter Try.func19, Try.ntmps19
  go_wp2
  refine start_ (n := 13) (S := fun w' => w'.cell? ⟨g, 3, none⟩ = some (.slice (some ⟨Bi, 0, none⟩) li.length li.length) ∧ w'.cell? ⟨g, 1, none⟩ = some (.int .i64 i)) (ds := []) #[false, false, false, false, false, false, false, false, false, false, false, false, false] (by kernel_rfl) rfl rfl ⟨HI.out.c3, HI.out.c1⟩ (fun hHeld => ?_)
  refine pu_ 0 (some 7) (bm 13 1) ?_ (ha := by simp only [Act.put, List.setIfInBounds_toArray, List.set_cons_zero, List.set_cons_succ, i64_w, i32_w, HA1.out]; rfl)
  refine pu_ 1 (some 8) (bm 13 3) ?_ (ha := by simp only [Act.put, List.setIfInBounds_toArray, List.set_cons_zero, List.set_cons_succ, i64_w, i32_w, HA1.out]; rfl)
  refine pu_ 2 (some 9) (bm 13 7) ?_ (ha := by simp only [Act.put, List.setIfInBounds_toArray, List.set_cons_zero, List.set_cons_succ, i64_w, i32_w, HA1.out]; rfl)
  refine tk2_ 3 (some 10) (bm 13 15) hHeld ?_ (ha := by simp only [Act.put, List.setIfInBounds_toArray, List.set_cons_zero, List.set_cons_succ, i64_w, i32_w, HA1.out]; rfl)
  refine pu_ 4 (some 11) (bm 13 31) ?_ (ha := by simp only [Act.put, List.setIfInBounds_toArray, List.set_cons_zero, List.set_cons_succ, i64_w, i32_w, HA1.out]; rfl)
  refine pu_ 5 (some 12) (bm 13 63) ?_ (ha := by simp only [Act.put, List.setIfInBounds_toArray, List.set_cons_zero, List.set_cons_succ, i64_w, i32_w, HA1.out]; rfl)
  refine pu_ 6 (some 13) (bm 13 127) ?_ (ha := by simp only [Act.put, List.setIfInBounds_toArray, List.set_cons_zero, List.set_cons_succ, i64_w, i32_w, HA1.out]; rfl)
  refine pu_ 7 (some 14) (bm 13 255) ?_ (ha := by simp only [Act.put, List.setIfInBounds_toArray, List.set_cons_zero, List.set_cons_succ, i64_w, i32_w, HA1.out]; rfl)
  refine tk2_ 8 (some 15) (bm 13 511) hHeld ?_ (ha := by simp only [Act.put, List.setIfInBounds_toArray, List.set_cons_zero, List.set_cons_succ, i64_w, i32_w, HA1.out]; rfl)
  refine pu_ 9 (some 16) (bm 13 1023) ?_ (ha := by simp only [Act.put, List.setIfInBounds_toArray, List.set_cons_zero, List.set_cons_succ, i64_w, i32_w, HA1.out]; rfl)
  refine pu_ 10 (some 17) (bm 13 2047) ?_ (ha := by simp only [Act.put, List.setIfInBounds_toArray, List.set_cons_zero, List.set_cons_succ, i64_w, i32_w, HA1.out]; rfl)
  refine one_ (i := 11) (N := some 18) (bm 13 4095) rfl rfl (by kernel_rfl) (by decide) (fun K hK => ?_)
  refine goes_ Try.func37 (by kernel_rfl) rfl #[.slice (some ⟨Bi, 0, none⟩) li.length li.length, .int .i64 a1, .int .i64 from0] (by rfl) rfl rfl (by (try simp only [List.map_toArray, List.map_cons, List.map_nil]); first | done | rfl) ?_
  refine (lockgateref11_next.calls kn _ _ li a1 from0 _ _ (HCD.out _ (below_drew (Below.refl _ w))) (Nat.le_refl _) HNX.out).mono ?_
  rintro e w1 ⟨rfl, hd⟩
  obtain ⟨nd, rfl⟩ := hd.out
  refine ⟨_, rfl, hK.out _ _ hHeld (fun hHeld => ?_)⟩
  clear hK K
  refine norm_ (a' := ?_) ?_ ?_
  rotate_left
  · show Act.put _ (some 18) _ = _
    simp only [Act.put, List.setIfInBounds_toArray, List.set_cons_zero, List.set_cons_succ, i64_w, i32_w, HA1.out]
    rfl
  refine pu_ 12 (some 6) (bm 13 8191) ?_ (ha := by simp only [Act.put, List.setIfInBounds_toArray, List.set_cons_zero, List.set_cons_succ, i64_w, i32_w, HA1.out]; rfl)
  refine done_ (by kernel_rfl) ?_
  have hwd : Below w.heap.size w (w.drew.drewN nd) := pw_below_drewN (below_drew (Below.refl _ w)) nd
  generalize w.drew.drewN nd = w1 at hHeld hwd ⊢
  have HWD := Lib.hid hwd
  have HI1 := Lib.hid (HI.out.below hwd)
  clear hHeld hwd
  cases hr : nextA li p n from0 with
  | none =>
    have HR := Lib.hid hr
    clear hr
    simp only [nextI]
    go_wp2
    go_ret2
    rw [HR.out]
    exact ⟨rfl, HI1.out, Off.of_below HWD.out _⟩
  | some v =>
    have hv := nextA_free hr
    have HR := Lib.hid hr
    have hvl : v < li.length := by rw [HLL.out]; exact hv.1
    simp only [nextI]
    have k3 := HI1.out.c3
    have s1 := HI1.out.2.1.1.cell hvl
    have s2 := HI1.out.2.1.1.frozen v
    have hv0 : (0 : Int) ≤ (v : Int) := by omega
    have hvi : (v : Int) < (li.length : Int) := by omega
    have hv9 : (v : Int) ≤ 1000000 := by omega
    have hvn : ¬ (v : Int) < 0 := by omega
    have HEND := Lib.hid (HI1.out.setI v true)
    have HOFF := Lib.hid (off_set (B := Bi) HWD.out v (.bool true))
    clear hr hv
    go_wp2
    go_ret2
    rw [HR.out]
    exact ⟨rfl, HEND.out, HOFF.out⟩

set_option maxRecDepth 100000 in
set_option maxHeartbeats 2000000 in
theorem rTake (g Bi Bb n q : Nat) (gr i d : Int) (li ld : List Bool) (from0 : Int) (w : World) (h : IsR w g Bi Bb gr i d li ld) (hl : ld.length = n * q) (hp : 0 < n → gr = (n : Int) ∧ d = (q : Int) ∧ Fine gr i d) (hn : n ≤ 8) :
    Calls Try.prog 20 #[.pointer (some ⟨g, 0, none⟩), .int .i64 from0] w fun e w' => e = .returned (.tuple #[.int .i64 (optD i q (nextA ld q n from0)), .bool (nextA ld q n from0).isSome]) ∧ IsR w' g Bi Bb gr i d li (setO ld (nextA ld q n from0)) ∧ Off (fun k => k = Bb) w w' := by
  have HI := Lib.hid h
  have hp2 : 0 < n → d = (q : Int) ∧ 0 < q ∧ q ≤ 1000 := fun h0 => by
    obtain ⟨h1, h2, h3, h4, h5, h6, h7, h8⟩ := hp h0
    exact ⟨h2, by omega, by omega⟩
  have hls : ld.length ≤ 1000000 := by
    rw [hl]
    rcases Nat.eq_zero_or_pos n with h0 | h0
    · rw [h0, Nat.zero_mul]; omega
    · exact Nat.le_trans (Nat.mul_le_mul hn (hp2 h0).2.2) (by omega)
  obtain ⟨kn, hkn⟩ := next_is from0 d hl hp2 hn
  have HNX := Lib.hid hkn
  have HP := Lib.hid hp
  have HCD : Hid (∀ W, Below w.heap.size w W → Kd.C Kd.bool W (some ⟨Bb, 0, none⟩) ld.length ld) := Lib.hid (fun W hW => (h.2.1.2.below hW).C hls)
  have HLL := Lib.hid hl
  clear h hl hp hp2 hn hkn
  go_enter Try.func20, Try.ntmps20
  go_wp2
  refine start_ (n := 12) (S := fun w' => w'.cell? ⟨g, 4, none⟩ = some (.slice (some ⟨Bb, 0, none⟩) ld.length ld.length) ∧ w'.cell? ⟨g, 2, none⟩ = some (.int .i64 d)) (ds := []) #[false, false, false, false, false, false, false, false, false, false, false, false] (by kernel_rfl) rfl rfl ⟨HI.out.c4, HI.out.c2⟩ (fun hHeld => ?_)
  refine pu_ 0 (some 9) (bm 12 1) ?_
  refine pu_ 1 (some 10) (bm 12 3) ?_
  refine pu_ 2 (some 11) (bm 12 7) ?_
  refine tk2_ 3 (some 12) (bm 12 15) hHeld ?_
  refine pu_ 4 (some 13) (bm 12 31) ?_
  refine pu_ 5 (some 14) (bm 12 63) ?_
  refine pu_ 6 (some 15) (bm 12 127) ?_
  refine pu_ 7 (some 16) (bm 12 255) ?_
  refine tk2_ 8 (some 17) (bm 12 511) hHeld ?_
  refine pu_ 9 (some 18) (bm 12 1023) ?_
  refine one_ (i := 10) (N := some 19) (bm 12 2047) rfl rfl (by kernel_rfl) (by decide) (fun K hK => ?_)
  refine goes_ Try.func37 (by kernel_rfl) rfl #[.slice (some ⟨Bb, 0, none⟩) ld.length ld.length, .int .i64 d, .int .i64 from0] (by rfl) rfl rfl (by (try simp only [List.map_toArray, List.map_cons, List.map_nil]); first | done | rfl) ?_
  refine (lockgateref11_next.calls kn _ _ ld d from0 _ _ (HCD.out _ (below_drew (Below.refl _ w))) (Nat.le_refl _) HNX.out).mono ?_
  rintro e w1 ⟨rfl, hd⟩
  obtain ⟨nd, rfl⟩ := hd.out
  refine ⟨_, rfl, hK.out _ _ hHeld (fun hHeld => ?_)⟩
  clear hK K
  refine norm_ (a' := ?_) ?_ ?_
  rotate_left
  · show Act.put _ (some 19) _ = _
    simp only [Act.put, List.setIfInBounds_toArray, List.set_cons_zero, List.set_cons_succ, i64_w, i32_w]
    rfl
  refine pu_ 11 (some 6) (bm 12 4095) ?_
  refine done_ (by kernel_rfl) ?_
  have hwd : Below w.heap.size w (w.drew.drewN nd) := pw_below_drewN (below_drew (Below.refl _ w)) nd
  generalize w.drew.drewN nd = w1 at hHeld hwd ⊢
  have HWD := Lib.hid hwd
  have HI1 := Lib.hid (HI.out.below hwd)
  clear hHeld hwd
  cases hr : nextA ld q n from0 with
  | none =>
    have HR := Lib.hid hr
    clear hr
    simp only [nextI]
    go_wp2
    go_ret2
    rw [HR.out]
    exact ⟨rfl, HI1.out, Off.of_below HWD.out _⟩
  | some v =>
    have hv := nextA_free hr
    have HR := Lib.hid hr
    have hvl : v < ld.length := by rw [HLL.out]; exact hv.1
    have hn0 : 0 < n := by
      rcases Nat.eq_zero_or_pos n with h0 | h0
      · rw [h0, Nat.zero_mul] at hv; exact absurd hv.1 (Nat.not_lt_zero _)
      · exact h0
    obtain ⟨hp1, hp2, hp3⟩ := HP.out hn0
    have HDT := Lib.hid (rdata_is hp3 hp1 hp2 hv.1)
    simp only [nextI]
    have k4 := HI1.out.c4
    have s1 := HI1.out.2.1.2.cell hvl
    have s2 := HI1.out.2.1.2.frozen v
    have hv0 : (0 : Int) ≤ (v : Int) := by omega
    have hvi : (v : Int) < (ld.length : Int) := by omega
    have hv9 : (v : Int) ≤ 1000000 := by omega
    have hvn : ¬ (v : Int) < 0 := by omega
    have hend := HI1.out.setB v true
    have HOFF := Lib.hid (off_set (B := Bb) HWD.out v (.bool true))
    have z0 := hend.c0
    have z1 := hend.c1
    have z2 := hend.c2
    have HEND := Lib.hid hend
    clear hr hv hp1 hp2 hp3 hend
    go_wp2_with (first | (go_at_call 11; refine (lockgateref1_Data.calls gr i d _ _ _ _ HDT.out).mono ?_; rintro e w3 ⟨rfl, hb⟩; have HB3 := Lib.hid hb; clear hb))
    go_ret2
    rw [HR.out]
    exact ⟨rfl, HEND.out.below HB3.out, HOFF.out.below HB3.out⟩
set_option maxRecDepth 100000 in
set_option maxHeartbeats 2000000 in
theorem rset_any_bad (g Bi Bb : Nat) (gr i d : Int) (li ld : List Bool) (on : Bool) (w : World) (block : Int) (ino : Int) (dd : Int) (h : IsR w g Bi Bb gr i d li ld) (hb0 : (block != 0) = true) (hdf : lockgateref1_DataOf.f 1 gr i d block = some (dd, false)) :
    Calls Try.prog 22 #[.pointer (some ⟨g, 0, none⟩), .int .i64 ino, .int .i64 block, .bool on] w fun e w' => e = .returned (.bool false) ∧ IsR w' g Bi Bb gr i d li ld ∧ Off (fun k => k = Bi ∨ k = Bb) w w' := by
  have c0 := h.c0
  have c1 := h.c1
  have c2 := h.c2
  have c3 := h.c3
  have c4 := h.c4
  have n1 : ¬ (g = Bi) := h.gi
  have n2 : ¬ (Bi = g) := fun e => h.gi e.symm
  have n3 : ¬ (g = Bb) := h.gb
  have n4 : ¬ (Bb = g) := fun e => h.gb e.symm
  have n5 : ¬ (Bi = Bb) := h.2.2
  have n6 : ¬ (Bb = Bi) := fun e => h.2.2 e.symm
  have HI := Lib.hid h
  have HO : Hid (Below w.heap.size w w) := Lib.hid (Below.refl _ _)
  have HDF := Lib.hid hdf
  clear hdf
  clear h
  go_enter Try.func22, Try.ntmps22
  go_wp2_with (first | (go_at_call 15; refine (lockgateref1_DataOf.calls 1 gr i d _ _ _ _ HDF.out).mono ?_; rintro e w1 ⟨rfl, hb⟩; have hI1 := HI.out.below hb; have c3 := hI1.c3; have c4 := hI1.c4; skip; have HB1 := Lib.hid hb; have HI1 := Lib.hid hI1; clear hb hI1))
  go_ret
  exact ⟨rfl, HI1.out, Off.of_below HB1.out (fun k => k = Bi ∨ k = Bb)⟩
set_option maxRecDepth 100000 in
set_option maxHeartbeats 2000000 in
theorem rset_any_taken (g Bi Bb : Nat) (gr i d : Int) (li ld : List Bool) (on : Bool) (w : World) (block : Int) (ino : Int) (dd : Nat) (h : IsR w g Bi Bb gr i d li ld) (hb0 : (block != 0) = true) (hdf : lockgateref1_DataOf.f 1 gr i d block = some ((dd : Int), true)) (hdd : dd < ld.length) (hds : ld.length ≤ 1000000) (heqb : (ld.getD dd false == on) = true) :
    Calls Try.prog 22 #[.pointer (some ⟨g, 0, none⟩), .int .i64 ino, .int .i64 block, .bool on] w fun e w' => e = .returned (.bool false) ∧ IsR w' g Bi Bb gr i d li ld ∧ Off (fun k => k = Bi ∨ k = Bb) w w' := by
  have c0 := h.c0
  have c1 := h.c1
  have c2 := h.c2
  have c3 := h.c3
  have c4 := h.c4
  have n1 : ¬ (g = Bi) := h.gi
  have n2 : ¬ (Bi = g) := fun e => h.gi e.symm
  have n3 : ¬ (g = Bb) := h.gb
  have n4 : ¬ (Bb = g) := fun e => h.gb e.symm
  have n5 : ¬ (Bi = Bb) := h.2.2
  have n6 : ¬ (Bb = Bi) := fun e => h.2.2 e.symm
  have HI := Lib.hid h
  have HO : Hid (Below w.heap.size w w) := Lib.hid (Below.refl _ _)
  have u1 := h.2.1.2.cell hdd
  have u2 := h.2.1.2.frozen dd
  have d0 : (0 : Int) ≤ (dd : Int) := by omega
  have d1 : (dd : Int) < (ld.length : Int) := by omega
  have d9 : (dd : Int) ≤ 1000000 := by omega
  obtain ⟨bb, hbc⟩ : ∃ b, ld.getD dd false = b := ⟨_, rfl⟩
  rw [hbc] at heqb u1
  have HBC := Lib.hid hbc
  clear hbc
  have HDF := Lib.hid hdf
  clear hdf
  clear h
  go_enter Try.func22, Try.ntmps22
  go_wp2_with (first | (go_at_call 15; refine (lockgateref1_DataOf.calls 1 gr i d _ _ _ _ HDF.out).mono ?_; rintro e w1 ⟨rfl, hb⟩; have hI1 := HI.out.below hb; have c3 := hI1.c3; have c4 := hI1.c4; skip; have u1 := pw_cell_below hb u1; have u2 := hI1.2.1.2.frozen dd; have HB1 := Lib.hid hb; have HI1 := Lib.hid hI1; clear hb hI1))
  go_ret
  exact ⟨rfl, HI1.out, Off.of_below HB1.out (fun k => k = Bi ∨ k = Bb)⟩
set_option maxRecDepth 100000 in
set_option maxHeartbeats 2000000 in
theorem rset_bad_zero (g Bi Bb : Nat) (gr i d : Int) (li ld : List Bool) (on : Bool) (w : World) (ino : Int) (h : IsR w g Bi Bb gr i d li ld) (hi0 : (ino != 0) = true) (hino : ino < 1 ∨ (li.length : Int) < ino) :
    Calls Try.prog 22 #[.pointer (some ⟨g, 0, none⟩), .int .i64 ino, .int .i64 0, .bool on] w fun e w' => e = .returned (.bool false) ∧ IsR w' g Bi Bb gr i d li ld ∧ Off (fun k => k = Bi ∨ k = Bb) w w' := by
  have c0 := h.c0
  have c1 := h.c1
  have c2 := h.c2
  have c3 := h.c3
  have c4 := h.c4
  have n1 : ¬ (g = Bi) := h.gi
  have n2 : ¬ (Bi = g) := fun e => h.gi e.symm
  have n3 : ¬ (g = Bb) := h.gb
  have n4 : ¬ (Bb = g) := fun e => h.gb e.symm
  have n5 : ¬ (Bi = Bb) := h.2.2
  have n6 : ¬ (Bb = Bi) := fun e => h.2.2 e.symm
  have HI := Lib.hid h
  have HO : Hid (Below w.heap.size w w) := Lib.hid (Below.refl _ _)
  clear h
  rcases hino with hino | hino
  · have t1 : decide (ino < 1) = true := decide_eq_true hino
    go_enter Try.func22, Try.ntmps22
    go_wp2
    go_ret
    exact ⟨rfl, HI.out, Off.of_below HO.out (fun k => k = Bi ∨ k = Bb)⟩
  · have t1 : decide (ino < 1) = false := decide_eq_false (by omega)
    have t2 : decide (ino > (li.length : Int)) = true := decide_eq_true hino
    go_enter Try.func22, Try.ntmps22
    go_wp2
    go_ret
    exact ⟨rfl, HI.out, Off.of_below HO.out (fun k => k = Bi ∨ k = Bb)⟩
set_option maxRecDepth 100000 in
set_option maxHeartbeats 2000000 in
theorem rset_taken_zero (g Bi Bb : Nat) (gr i d : Int) (li ld : List Bool) (on : Bool) (w : World) (m : Nat) (h : IsR w g Bi Bb gr i d li ld) (hm : m < li.length) (hms : li.length ≤ 1000000) (heq : (li.getD m false == on) = true) :
    Calls Try.prog 22 #[.pointer (some ⟨g, 0, none⟩), .int .i64 ((m : Int) + 1), .int .i64 0, .bool on] w fun e w' => e = .returned (.bool false) ∧ IsR w' g Bi Bb gr i d li ld ∧ Off (fun k => k = Bi ∨ k = Bb) w w' := by
  have c0 := h.c0
  have c1 := h.c1
  have c2 := h.c2
  have c3 := h.c3
  have c4 := h.c4
  have n1 : ¬ (g = Bi) := h.gi
  have n2 : ¬ (Bi = g) := fun e => h.gi e.symm
  have n3 : ¬ (g = Bb) := h.gb
  have n4 : ¬ (Bb = g) := fun e => h.gb e.symm
  have n5 : ¬ (Bi = Bb) := h.2.2
  have n6 : ¬ (Bb = Bi) := fun e => h.2.2 e.symm
  have HI := Lib.hid h
  have HO : Hid (Below w.heap.size w w) := Lib.hid (Below.refl _ _)
  have s1 := h.2.1.1.cell hm
  have s2 := h.2.1.1.frozen m
  have m0 : (0 : Int) ≤ (m : Int) := by omega
  have m1 : (m : Int) < (li.length : Int) := by omega
  have m2 : (m : Int) ≤ 1000000 := by omega
  have m3 : decide ((m : Int) + 1 < 1) = false := decide_eq_false (by omega)
  have m4 : decide ((m : Int) + 1 > (li.length : Int)) = false := decide_eq_false (by omega)
  obtain ⟨b, hbb⟩ : ∃ b, li.getD m false = b := ⟨_, rfl⟩
  rw [hbb] at heq s1
  have HBB := Lib.hid hbb
  clear hbb
  clear h
  go_enter Try.func22, Try.ntmps22
  go_wp2
  go_ret
  exact ⟨rfl, HI.out, Off.of_below HO.out (fun k => k = Bi ∨ k = Bb)⟩
set_option maxRecDepth 100000 in
set_option maxHeartbeats 2000000 in
theorem rset_bad_good (g Bi Bb : Nat) (gr i d : Int) (li ld : List Bool) (on : Bool) (w : World) (block : Int) (ino : Int) (dd : Nat) (h : IsR w g Bi Bb gr i d li ld) (hb0 : (block != 0) = true) (hi0 : (ino != 0) = true) (hino : ino < 1 ∨ (li.length : Int) < ino) (hdf : lockgateref1_DataOf.f 1 gr i d block = some ((dd : Int), true)) (hdd : dd < ld.length) (hds : ld.length ≤ 1000000) (heqb : (ld.getD dd false == on) = false) :
    Calls Try.prog 22 #[.pointer (some ⟨g, 0, none⟩), .int .i64 ino, .int .i64 block, .bool on] w fun e w' => e = .returned (.bool false) ∧ IsR w' g Bi Bb gr i d li ld ∧ Off (fun k => k = Bi ∨ k = Bb) w w' := by
  have c0 := h.c0
  have c1 := h.c1
  have c2 := h.c2
  have c3 := h.c3
  have c4 := h.c4
  have n1 : ¬ (g = Bi) := h.gi
  have n2 : ¬ (Bi = g) := fun e => h.gi e.symm
  have n3 : ¬ (g = Bb) := h.gb
  have n4 : ¬ (Bb = g) := fun e => h.gb e.symm
  have n5 : ¬ (Bi = Bb) := h.2.2
  have n6 : ¬ (Bb = Bi) := fun e => h.2.2 e.symm
  have HI := Lib.hid h
  have HO : Hid (Below w.heap.size w w) := Lib.hid (Below.refl _ _)
  have u1 := h.2.1.2.cell hdd
  have u2 := h.2.1.2.frozen dd
  have d0 : (0 : Int) ≤ (dd : Int) := by omega
  have d1 : (dd : Int) < (ld.length : Int) := by omega
  have d9 : (dd : Int) ≤ 1000000 := by omega
  obtain ⟨bb, hbc⟩ : ∃ b, ld.getD dd false = b := ⟨_, rfl⟩
  rw [hbc] at heqb u1
  have HBC := Lib.hid hbc
  clear hbc
  have HDF := Lib.hid hdf
  clear hdf
  clear h
  rcases hino with hino | hino
  · have t1 : decide (ino < 1) = true := decide_eq_true hino
    go_enter Try.func22, Try.ntmps22
    go_wp2_with (first | (go_at_call 15; refine (lockgateref1_DataOf.calls 1 gr i d _ _ _ _ HDF.out).mono ?_; rintro e w1 ⟨rfl, hb⟩; have hI1 := HI.out.below hb; have c3 := hI1.c3; have c4 := hI1.c4; skip; have u1 := pw_cell_below hb u1; have u2 := hI1.2.1.2.frozen dd; have HB1 := Lib.hid hb; have HI1 := Lib.hid hI1; clear hb hI1))
    go_ret
    exact ⟨rfl, HI1.out, Off.of_below HB1.out (fun k => k = Bi ∨ k = Bb)⟩
  · have t1 : decide (ino < 1) = false := decide_eq_false (by omega)
    have t2 : decide (ino > (li.length : Int)) = true := decide_eq_true hino
    go_enter Try.func22, Try.ntmps22
    go_wp2_with (first | (go_at_call 15; refine (lockgateref1_DataOf.calls 1 gr i d _ _ _ _ HDF.out).mono ?_; rintro e w1 ⟨rfl, hb⟩; have hI1 := HI.out.below hb; have c3 := hI1.c3; have c4 := hI1.c4; skip; have u1 := pw_cell_below hb u1; have u2 := hI1.2.1.2.frozen dd; have HB1 := Lib.hid hb; have HI1 := Lib.hid hI1; clear hb hI1))
    go_ret
    exact ⟨rfl, HI1.out, Off.of_below HB1.out (fun k => k = Bi ∨ k = Bb)⟩
set_option maxRecDepth 100000 in
set_option maxHeartbeats 2000000 in
theorem rset_taken_good (g Bi Bb : Nat) (gr i d : Int) (li ld : List Bool) (on : Bool) (w : World) (block : Int) (m : Nat) (dd : Nat) (h : IsR w g Bi Bb gr i d li ld) (hb0 : (block != 0) = true) (hm : m < li.length) (hms : li.length ≤ 1000000) (heq : (li.getD m false == on) = true) (hdf : lockgateref1_DataOf.f 1 gr i d block = some ((dd : Int), true)) (hdd : dd < ld.length) (hds : ld.length ≤ 1000000) (heqb : (ld.getD dd false == on) = false) :
    Calls Try.prog 22 #[.pointer (some ⟨g, 0, none⟩), .int .i64 ((m : Int) + 1), .int .i64 block, .bool on] w fun e w' => e = .returned (.bool false) ∧ IsR w' g Bi Bb gr i d li ld ∧ Off (fun k => k = Bi ∨ k = Bb) w w' := by
  have c0 := h.c0
  have c1 := h.c1
  have c2 := h.c2
  have c3 := h.c3
  have c4 := h.c4
  have n1 : ¬ (g = Bi) := h.gi
  have n2 : ¬ (Bi = g) := fun e => h.gi e.symm
  have n3 : ¬ (g = Bb) := h.gb
  have n4 : ¬ (Bb = g) := fun e => h.gb e.symm
  have n5 : ¬ (Bi = Bb) := h.2.2
  have n6 : ¬ (Bb = Bi) := fun e => h.2.2 e.symm
  have HI := Lib.hid h
  have HO : Hid (Below w.heap.size w w) := Lib.hid (Below.refl _ _)
  have s1 := h.2.1.1.cell hm
  have s2 := h.2.1.1.frozen m
  have m0 : (0 : Int) ≤ (m : Int) := by omega
  have m1 : (m : Int) < (li.length : Int) := by omega
  have m2 : (m : Int) ≤ 1000000 := by omega
  have m3 : decide ((m : Int) + 1 < 1) = false := decide_eq_false (by omega)
  have m4 : decide ((m : Int) + 1 > (li.length : Int)) = false := decide_eq_false (by omega)
  obtain ⟨b, hbb⟩ : ∃ b, li.getD m false = b := ⟨_, rfl⟩
  rw [hbb] at heq s1
  have HBB := Lib.hid hbb
  clear hbb
  have u1 := h.2.1.2.cell hdd
  have u2 := h.2.1.2.frozen dd
  have d0 : (0 : Int) ≤ (dd : Int) := by omega
  have d1 : (dd : Int) < (ld.length : Int) := by omega
  have d9 : (dd : Int) ≤ 1000000 := by omega
  obtain ⟨bb, hbc⟩ : ∃ b, ld.getD dd false = b := ⟨_, rfl⟩
  rw [hbc] at heqb u1
  have HBC := Lib.hid hbc
  clear hbc
  have HDF := Lib.hid hdf
  clear hdf
  clear h
  go_enter Try.func22, Try.ntmps22
  go_wp2_with (first | (go_at_call 15; refine (lockgateref1_DataOf.calls 1 gr i d _ _ _ _ HDF.out).mono ?_; rintro e w1 ⟨rfl, hb⟩; have hI1 := HI.out.below hb; have c3 := hI1.c3; have c4 := hI1.c4; have s1 := pw_cell_below hb s1; have s2 := hI1.2.1.1.frozen m; have u1 := pw_cell_below hb u1; have u2 := hI1.2.1.2.frozen dd; have HB1 := Lib.hid hb; have HI1 := Lib.hid hI1; clear hb hI1))
  go_ret
  exact ⟨rfl, HI1.out, Off.of_below HB1.out (fun k => k = Bi ∨ k = Bb)⟩
set_option maxRecDepth 100000 in
set_option maxHeartbeats 2000000 in
theorem rset_zero_zero (g Bi Bb : Nat) (gr i d : Int) (li ld : List Bool) (on : Bool) (w : World) (h : IsR w g Bi Bb gr i d li ld) :
    Calls Try.prog 22 #[.pointer (some ⟨g, 0, none⟩), .int .i64 0, .int .i64 0, .bool on] w fun e w' => e = .returned (.bool true) ∧ IsR w' g Bi Bb gr i d li ld ∧ Off (fun k => k = Bi ∨ k = Bb) w w' := by
  have c0 := h.c0
  have c1 := h.c1
  have c2 := h.c2
  have c3 := h.c3
  have c4 := h.c4
  have n1 : ¬ (g = Bi) := h.gi
  have n2 : ¬ (Bi = g) := fun e => h.gi e.symm
  have n3 : ¬ (g = Bb) := h.gb
  have n4 : ¬ (Bb = g) := fun e => h.gb e.symm
  have n5 : ¬ (Bi = Bb) := h.2.2
  have n6 : ¬ (Bb = Bi) := fun e => h.2.2 e.symm
  have HI := Lib.hid h
  have HO : Hid (Below w.heap.size w w) := Lib.hid (Below.refl _ _)
  clear h
  go_enter Try.func22, Try.ntmps22
  go_wp2
  go_ret
  exact ⟨rfl, HI.out, Off.of_below HO.out (fun k => k = Bi ∨ k = Bb)⟩
set_option maxRecDepth 100000 in
set_option maxHeartbeats 2000000 in
theorem rset_good_zero (g Bi Bb : Nat) (gr i d : Int) (li ld : List Bool) (on : Bool) (w : World) (m : Nat) (h : IsR w g Bi Bb gr i d li ld) (hm : m < li.length) (hms : li.length ≤ 1000000) (heq : (li.getD m false == on) = false) :
    Calls Try.prog 22 #[.pointer (some ⟨g, 0, none⟩), .int .i64 ((m : Int) + 1), .int .i64 0, .bool on] w fun e w' => e = .returned (.bool true) ∧ IsR w' g Bi Bb gr i d (li.set m on) ld ∧ Off (fun k => k = Bi ∨ k = Bb) w w' := by
  have c0 := h.c0
  have c1 := h.c1
  have c2 := h.c2
  have c3 := h.c3
  have c4 := h.c4
  have n1 : ¬ (g = Bi) := h.gi
  have n2 : ¬ (Bi = g) := fun e => h.gi e.symm
  have n3 : ¬ (g = Bb) := h.gb
  have n4 : ¬ (Bb = g) := fun e => h.gb e.symm
  have n5 : ¬ (Bi = Bb) := h.2.2
  have n6 : ¬ (Bb = Bi) := fun e => h.2.2 e.symm
  have HI := Lib.hid h
  have HO : Hid (Below w.heap.size w w) := Lib.hid (Below.refl _ _)
  have s1 := h.2.1.1.cell hm
  have s2 := h.2.1.1.frozen m
  have m0 : (0 : Int) ≤ (m : Int) := by omega
  have m1 : (m : Int) < (li.length : Int) := by omega
  have m2 : (m : Int) ≤ 1000000 := by omega
  have m3 : decide ((m : Int) + 1 < 1) = false := decide_eq_false (by omega)
  have m4 : decide ((m : Int) + 1 > (li.length : Int)) = false := decide_eq_false (by omega)
  obtain ⟨b, hbb⟩ : ∃ b, li.getD m false = b := ⟨_, rfl⟩
  rw [hbb] at heq s1
  have HBB := Lib.hid hbb
  clear hbb
  clear h
  go_enter Try.func22, Try.ntmps22
  go_wp2
  go_ret
  exact ⟨rfl, (HI.out).setI m on, (Off.of_below HO.out (fun k => k = Bi ∨ k = Bb)).setCell (p := ⟨Bi, m, none⟩) (.inl (.inl rfl)) _⟩
set_option maxRecDepth 100000 in
set_option maxHeartbeats 2000000 in
theorem rset_zero_good (g Bi Bb : Nat) (gr i d : Int) (li ld : List Bool) (on : Bool) (w : World) (block : Int) (dd : Nat) (h : IsR w g Bi Bb gr i d li ld) (hb0 : (block != 0) = true) (hdf : lockgateref1_DataOf.f 1 gr i d block = some ((dd : Int), true)) (hdd : dd < ld.length) (hds : ld.length ≤ 1000000) (heqb : (ld.getD dd false == on) = false) :
    Calls Try.prog 22 #[.pointer (some ⟨g, 0, none⟩), .int .i64 0, .int .i64 block, .bool on] w fun e w' => e = .returned (.bool true) ∧ IsR w' g Bi Bb gr i d li (ld.set dd on) ∧ Off (fun k => k = Bi ∨ k = Bb) w w' := by
  have c0 := h.c0
  have c1 := h.c1
  have c2 := h.c2
  have c3 := h.c3
  have c4 := h.c4
  have n1 : ¬ (g = Bi) := h.gi
  have n2 : ¬ (Bi = g) := fun e => h.gi e.symm
  have n3 : ¬ (g = Bb) := h.gb
  have n4 : ¬ (Bb = g) := fun e => h.gb e.symm
  have n5 : ¬ (Bi = Bb) := h.2.2
  have n6 : ¬ (Bb = Bi) := fun e => h.2.2 e.symm
  have HI := Lib.hid h
  have HO : Hid (Below w.heap.size w w) := Lib.hid (Below.refl _ _)
  have u1 := h.2.1.2.cell hdd
  have u2 := h.2.1.2.frozen dd
  have d0 : (0 : Int) ≤ (dd : Int) := by omega
  have d1 : (dd : Int) < (ld.length : Int) := by omega
  have d9 : (dd : Int) ≤ 1000000 := by omega
  obtain ⟨bb, hbc⟩ : ∃ b, ld.getD dd false = b := ⟨_, rfl⟩
  rw [hbc] at heqb u1
  have HBC := Lib.hid hbc
  clear hbc
  have HDF := Lib.hid hdf
  clear hdf
  clear h
  go_enter Try.func22, Try.ntmps22
  go_wp2_with (first | (go_at_call 15; refine (lockgateref1_DataOf.calls 1 gr i d _ _ _ _ HDF.out).mono ?_; rintro e w1 ⟨rfl, hb⟩; have hI1 := HI.out.below hb; have c3 := hI1.c3; have c4 := hI1.c4; skip; have u1 := pw_cell_below hb u1; have u2 := hI1.2.1.2.frozen dd; have HB1 := Lib.hid hb; have HI1 := Lib.hid hI1; clear hb hI1))
  go_ret
  exact ⟨rfl, (HI1.out).setB dd on, (Off.of_below HB1.out (fun k => k = Bi ∨ k = Bb)).setCell (p := ⟨Bb, dd, none⟩) (.inl (.inr rfl)) _⟩
set_option maxRecDepth 100000 in
set_option maxHeartbeats 2000000 in
theorem rset_good_good (g Bi Bb : Nat) (gr i d : Int) (li ld : List Bool) (on : Bool) (w : World) (block : Int) (m : Nat) (dd : Nat) (h : IsR w g Bi Bb gr i d li ld) (hb0 : (block != 0) = true) (hm : m < li.length) (hms : li.length ≤ 1000000) (heq : (li.getD m false == on) = false) (hdf : lockgateref1_DataOf.f 1 gr i d block = some ((dd : Int), true)) (hdd : dd < ld.length) (hds : ld.length ≤ 1000000) (heqb : (ld.getD dd false == on) = false) :
    Calls Try.prog 22 #[.pointer (some ⟨g, 0, none⟩), .int .i64 ((m : Int) + 1), .int .i64 block, .bool on] w fun e w' => e = .returned (.bool true) ∧ IsR w' g Bi Bb gr i d (li.set m on) (ld.set dd on) ∧ Off (fun k => k = Bi ∨ k = Bb) w w' := by
  have c0 := h.c0
  have c1 := h.c1
  have c2 := h.c2
  have c3 := h.c3
  have c4 := h.c4
  have n1 : ¬ (g = Bi) := h.gi
  have n2 : ¬ (Bi = g) := fun e => h.gi e.symm
  have n3 : ¬ (g = Bb) := h.gb
  have n4 : ¬ (Bb = g) := fun e => h.gb e.symm
  have n5 : ¬ (Bi = Bb) := h.2.2
  have n6 : ¬ (Bb = Bi) := fun e => h.2.2 e.symm
  have HI := Lib.hid h
  have HO : Hid (Below w.heap.size w w) := Lib.hid (Below.refl _ _)
  have s1 := h.2.1.1.cell hm
  have s2 := h.2.1.1.frozen m
  have m0 : (0 : Int) ≤ (m : Int) := by omega
  have m1 : (m : Int) < (li.length : Int) := by omega
  have m2 : (m : Int) ≤ 1000000 := by omega
  have m3 : decide ((m : Int) + 1 < 1) = false := decide_eq_false (by omega)
  have m4 : decide ((m : Int) + 1 > (li.length : Int)) = false := decide_eq_false (by omega)
  obtain ⟨b, hbb⟩ : ∃ b, li.getD m false = b := ⟨_, rfl⟩
  rw [hbb] at heq s1
  have HBB := Lib.hid hbb
  clear hbb
  have u1 := h.2.1.2.cell hdd
  have u2 := h.2.1.2.frozen dd
  have d0 : (0 : Int) ≤ (dd : Int) := by omega
  have d1 : (dd : Int) < (ld.length : Int) := by omega
  have d9 : (dd : Int) ≤ 1000000 := by omega
  obtain ⟨bb, hbc⟩ : ∃ b, ld.getD dd false = b := ⟨_, rfl⟩
  rw [hbc] at heqb u1
  have HBC := Lib.hid hbc
  clear hbc
  have HDF := Lib.hid hdf
  clear hdf
  clear h
  go_enter Try.func22, Try.ntmps22
  go_wp2_with (first | (go_at_call 15; refine (lockgateref1_DataOf.calls 1 gr i d _ _ _ _ HDF.out).mono ?_; rintro e w1 ⟨rfl, hb⟩; have hI1 := HI.out.below hb; have c3 := hI1.c3; have c4 := hI1.c4; have s1 := pw_cell_below hb s1; have s2 := hI1.2.1.1.frozen m; have u1 := pw_cell_below hb u1; have u2 := hI1.2.1.2.frozen dd; have HB1 := Lib.hid hb; have HI1 := Lib.hid hI1; clear hb hI1))
  go_ret
  exact ⟨rfl, ((HI1.out).setI m on).setB dd on, ((Off.of_below HB1.out (fun k => k = Bi ∨ k = Bb)).setCell (p := ⟨Bi, m, none⟩) (.inl (.inl rfl)) _).setCell (p := ⟨Bb, dd, none⟩) (.inl (.inr rfl)) _⟩
end Go.Proofs.Ytppjeikkodjjhaa.Given
