/- DinodeEnds answers true; by hand over the contracts. -/
import Derived.Test.YtdjncafofcpoiaaG9
namespace Go.Proofs.Ytdjncafofcpoiaa.Given
open Go.RowKit Go.Proofs.YtdjncafofcpoiaaW.PrintWords Go.Proofs.YtdjncafofcpoiaaW.PrintLast Go.Proofs.YtdjncafofcpoiaaW.PrintMore Go.Proofs.YtdjncafofcpoiaaBase Go.Proofs.Ytdjncafofcpoiaa.PDFns Go.Proofs.Ytdjncafofcpoiaa.PEqual
set_option linter.unusedVariables false
set_option linter.unusedSimpArgs false
theorem build24b (w : World) : (Instr.build 24 #[(0, .int .i64 1), (1, .int .i64 1)]).run Try.prog w = .ok (.agg #[.int .i64 1, .int .i64 1, .int .i64 0, .int .i64 0, .int .i64 0, .int .i64 0, .int .i64 0, .int .i64 0, .int .i64 0, .int .i64 0, .int .i64 0, .int .i64 0, .int .i64 0]) w := run_build w 24 _ _ (by kernel_rfl)
attribute [local go_sem ↓] eql24g neq24g zero24 build24b

/-- what stands behind the switch: an inode that may be just where the number is from nought on and at most so much -/
def EndsAt (w : World) (B : Nat) (n most : Int) (y : Ino) (W : World) : Prop := W.heap[B]? = some (.cells y.cells 24) ∧ Below w.heap.size w W ∧ okI y = decide (0 ≤ n ∧ n ≤ most)
def EndsP (w : World) (B : Nat) (n : Int) (s7 : Value) (W : World) : Prop := ∃ (most : Int) (y : Ino), s7 = .int .i64 most ∧ Hid (EndsAt w B n most y W)
theorem okI_of (k l s d0 d1 d2 d3 d4 d5 d6 d7 n m : Int) (b : Prop) [Decidable b] (hk : ¬ k = 0) (h : b ↔ ((0 ≤ k ∧ k ≤ 2) ∧ (0 ≤ l ∧ l < 65536) ∧ (0 ≤ s ∧ s < 4294967296) ∧ (0 ≤ n ∧ n < 4294967296) ∧ (0 ≤ m ∧ m < 4294967296) ∧ (0 ≤ d0 ∧ d0 < 4294967296) ∧ (0 ≤ d1 ∧ d1 < 4294967296) ∧ (0 ≤ d2 ∧ d2 < 4294967296) ∧ (0 ≤ d3 ∧ d3 < 4294967296) ∧ (0 ≤ d4 ∧ d4 < 4294967296) ∧ (0 ≤ d5 ∧ d5 < 4294967296) ∧ (0 ≤ d6 ∧ d6 < 4294967296) ∧ (0 ≤ d7 ∧ d7 < 4294967296))) : okI ⟨k, l, s, d0, d1, d2, d3, d4, d5, d6, d7, n, m⟩ = decide b := by
  have hk' : (k == 0) = false := by simp [hk]
  rw [Bool.eq_iff_iff, decide_eq_true_iff, h]
  simp only [okI, kindOk, fit2, fit4, freeOk, Ino.ds, hk', List.all_cons, List.all_nil, Bool.and_true, Bool.not_false, Bool.true_or, Bool.and_eq_true, decide_eq_true_eq]
  constructor
  · rintro ⟨⟨⟨a, b⟩, ⟨c, d⟩, e⟩, f0, f1, f2, f3, f4, f5, f6, f7⟩
    exact ⟨a, b, c, d, e, f0, f1, f2, f3, f4, f5, f6, f7⟩
  · rintro ⟨a, b, c, d, e, f0, f1, f2, f3, f4, f5, f6, f7⟩
    exact ⟨⟨⟨a, b⟩, ⟨c, d⟩, e⟩, f0, f1, f2, f3, f4, f5, f6, f7⟩
theorem end0 (n : Int) : okI ⟨1, n, 0, 0, 0, 0, 0, 0, 0, 0, 0, 0, 0⟩ = decide (0 ≤ n ∧ n ≤ 65535) := okI_of _ _ _ _ _ _ _ _ _ _ _ _ _ _ (by omega) (by omega)
theorem end1 (n : Int) : okI ⟨1, 1, n, 0, 0, 0, 0, 0, 0, 0, 0, 0, 0⟩ = decide (0 ≤ n ∧ n ≤ 4294967295) := okI_of _ _ _ _ _ _ _ _ _ _ _ _ _ _ (by omega) (by omega)
theorem end2 (n : Int) : okI ⟨1, 1, 0, 0, 0, 0, 0, 0, 0, 0, 0, n, 0⟩ = decide (0 ≤ n ∧ n ≤ 4294967295) := okI_of _ _ _ _ _ _ _ _ _ _ _ _ _ _ (by omega) (by omega)
theorem end3 (n : Int) : okI ⟨1, 1, 0, 0, 0, 0, 0, 0, 0, 0, 0, 0, n⟩ = decide (0 ≤ n ∧ n ≤ 4294967295) := okI_of _ _ _ _ _ _ _ _ _ _ _ _ _ _ (by omega) (by omega)
theorem end4 (n : Int) : okI ⟨1, 1, 0, n, 0, 0, 0, 0, 0, 0, 0, 0, 0⟩ = decide (0 ≤ n ∧ n ≤ 4294967295) := okI_of _ _ _ _ _ _ _ _ _ _ _ _ _ _ (by omega) (by omega)
theorem end5 (n : Int) : okI ⟨1, 1, 0, 0, n, 0, 0, 0, 0, 0, 0, 0, 0⟩ = decide (0 ≤ n ∧ n ≤ 4294967295) := okI_of _ _ _ _ _ _ _ _ _ _ _ _ _ _ (by omega) (by omega)
theorem end6 (n : Int) : okI ⟨1, 1, 0, 0, 0, n, 0, 0, 0, 0, 0, 0, 0⟩ = decide (0 ≤ n ∧ n ≤ 4294967295) := okI_of _ _ _ _ _ _ _ _ _ _ _ _ _ _ (by omega) (by omega)
theorem end7 (n : Int) : okI ⟨1, 1, 0, 0, 0, 0, n, 0, 0, 0, 0, 0, 0⟩ = decide (0 ≤ n ∧ n ≤ 4294967295) := okI_of _ _ _ _ _ _ _ _ _ _ _ _ _ _ (by omega) (by omega)
theorem end8 (n : Int) : okI ⟨1, 1, 0, 0, 0, 0, 0, n, 0, 0, 0, 0, 0⟩ = decide (0 ≤ n ∧ n ≤ 4294967295) := okI_of _ _ _ _ _ _ _ _ _ _ _ _ _ _ (by omega) (by omega)
theorem end9 (n : Int) : okI ⟨1, 1, 0, 0, 0, 0, 0, 0, n, 0, 0, 0, 0⟩ = decide (0 ≤ n ∧ n ≤ 4294967295) := okI_of _ _ _ _ _ _ _ _ _ _ _ _ _ _ (by omega) (by omega)
theorem end10 (n : Int) : okI ⟨1, 1, 0, 0, 0, 0, 0, 0, 0, n, 0, 0, 0⟩ = decide (0 ≤ n ∧ n ≤ 4294967295) := okI_of _ _ _ _ _ _ _ _ _ _ _ _ _ _ (by omega) (by omega)
theorem end11 (n : Int) : okI ⟨1, 1, 0, 0, 0, 0, 0, 0, 0, 0, n, 0, 0⟩ = decide (0 ≤ n ∧ n ≤ 4294967295) := okI_of _ _ _ _ _ _ _ _ _ _ _ _ _ _ (by omega) (by omega)
theorem end12 (n : Int) (h : ¬ n = 0) : okI ⟨n, 1, 0, 0, 0, 0, 0, 0, 0, 0, 0, 0, 0⟩ = decide (0 ≤ n ∧ n ≤ 2) := okI_of _ _ _ _ _ _ _ _ _ _ _ _ _ _ h (by omega)
theorem end13 : okI ⟨0, 0, 0, 0, 0, 0, 0, 0, 0, 0, 0, 0, 0⟩ = decide ((0 : Int) ≤ 0 ∧ (0 : Int) ≤ 2) := by decide +kernel

set_option maxRecDepth 100000 in
set_option maxHeartbeats 4000000 in
theorem dinodeEnds_walk0 (which n : Int) (w : World) : Calls Try.prog 5 #[.int .i64 which, .int .i64 n] w fun e w' => e = .returned (.bool true) ∧ Below w.heap.size w w' := by
  have hwh : Hid (which = 0 ∨ which = 1 ∨ which = 2 ∨ which = 3 ∨ which = 4 ∨ which = 5 ∨ which = 6 ∨ which = 7 ∨ which = 8 ∨ which = 9 ∨ which = 10 ∨ which = 11 ∨ (which < 0 ∨ 11 < which)) := Lib.hid (by omega)
  have hrefl : ∀ y, eqI y y = true := eqI_refl
  go_enter Try.func5, Try.ntmps5
  go_upto_block 0 with (go_at_call 8; (with_reducible refine (lockgatelaw5_alive.calls true _ rfl).mono ?_); rintro e w1 ⟨rfl, hb1⟩; have HB1 := Lib.hid hb1; clear hb1)
  go_cut [7] (fun s7 wx => EndsP w w1.heap.size n s7 wx)
  case first =>
    rcases hwh.out with h | h | h | h | h | h | h | h | h | h | h | h | h
    · subst h
      clear hwh
      go_wp2_with fail
      go_meet
      exact ⟨65535, ⟨1, n, 0, 0, 0, 0, 0, 0, 0, 0, 0, 0, 0⟩, rfl, Lib.hid ⟨by first | exact blk_new _ _ | exact blk_set (blk_new _ _) _ _, by first | exact below_alloc HB1.out _ | exact (below_alloc HB1.out _).setCell (by simpa using HB1.out.size) _, end0 n⟩⟩
    · subst h
      clear hwh
      go_wp2_with fail
      go_meet
      exact ⟨4294967295, ⟨1, 1, n, 0, 0, 0, 0, 0, 0, 0, 0, 0, 0⟩, rfl, Lib.hid ⟨by first | exact blk_new _ _ | exact blk_set (blk_new _ _) _ _, by first | exact below_alloc HB1.out _ | exact (below_alloc HB1.out _).setCell (by simpa using HB1.out.size) _, end1 n⟩⟩
    · subst h
      clear hwh
      go_wp2_with fail
      go_meet
      exact ⟨4294967295, ⟨1, 1, 0, 0, 0, 0, 0, 0, 0, 0, 0, n, 0⟩, rfl, Lib.hid ⟨by first | exact blk_new _ _ | exact blk_set (blk_new _ _) _ _, by first | exact below_alloc HB1.out _ | exact (below_alloc HB1.out _).setCell (by simpa using HB1.out.size) _, end2 n⟩⟩
    · subst h
      clear hwh
      go_wp2_with fail
      go_meet
      exact ⟨4294967295, ⟨1, 1, 0, 0, 0, 0, 0, 0, 0, 0, 0, 0, n⟩, rfl, Lib.hid ⟨by first | exact blk_new _ _ | exact blk_set (blk_new _ _) _ _, by first | exact below_alloc HB1.out _ | exact (below_alloc HB1.out _).setCell (by simpa using HB1.out.size) _, end3 n⟩⟩
    · subst h
      clear hwh
      go_wp2_with fail
      go_meet
      exact ⟨4294967295, ⟨1, 1, 0, n, 0, 0, 0, 0, 0, 0, 0, 0, 0⟩, rfl, Lib.hid ⟨by first | exact blk_new _ _ | exact blk_set (blk_new _ _) _ _, by first | exact below_alloc HB1.out _ | exact (below_alloc HB1.out _).setCell (by simpa using HB1.out.size) _, end4 n⟩⟩
    · subst h
      clear hwh
      go_wp2_with fail
      go_meet
      exact ⟨4294967295, ⟨1, 1, 0, 0, n, 0, 0, 0, 0, 0, 0, 0, 0⟩, rfl, Lib.hid ⟨by first | exact blk_new _ _ | exact blk_set (blk_new _ _) _ _, by first | exact below_alloc HB1.out _ | exact (below_alloc HB1.out _).setCell (by simpa using HB1.out.size) _, end5 n⟩⟩
    · subst h
      clear hwh
      go_wp2_with fail
      go_meet
      exact ⟨4294967295, ⟨1, 1, 0, 0, 0, n, 0, 0, 0, 0, 0, 0, 0⟩, rfl, Lib.hid ⟨by first | exact blk_new _ _ | exact blk_set (blk_new _ _) _ _, by first | exact below_alloc HB1.out _ | exact (below_alloc HB1.out _).setCell (by simpa using HB1.out.size) _, end6 n⟩⟩
    · subst h
      clear hwh
      go_wp2_with fail
      go_meet
      exact ⟨4294967295, ⟨1, 1, 0, 0, 0, 0, n, 0, 0, 0, 0, 0, 0⟩, rfl, Lib.hid ⟨by first | exact blk_new _ _ | exact blk_set (blk_new _ _) _ _, by first | exact below_alloc HB1.out _ | exact (below_alloc HB1.out _).setCell (by simpa using HB1.out.size) _, end7 n⟩⟩
    · subst h
      clear hwh
      go_wp2_with fail
      go_meet
      exact ⟨4294967295, ⟨1, 1, 0, 0, 0, 0, 0, n, 0, 0, 0, 0, 0⟩, rfl, Lib.hid ⟨by first | exact blk_new _ _ | exact blk_set (blk_new _ _) _ _, by first | exact below_alloc HB1.out _ | exact (below_alloc HB1.out _).setCell (by simpa using HB1.out.size) _, end8 n⟩⟩
    · subst h
      clear hwh
      go_wp2_with fail
      go_meet
      exact ⟨4294967295, ⟨1, 1, 0, 0, 0, 0, 0, 0, n, 0, 0, 0, 0⟩, rfl, Lib.hid ⟨by first | exact blk_new _ _ | exact blk_set (blk_new _ _) _ _, by first | exact below_alloc HB1.out _ | exact (below_alloc HB1.out _).setCell (by simpa using HB1.out.size) _, end9 n⟩⟩
    · subst h
      clear hwh
      go_wp2_with fail
      go_meet
      exact ⟨4294967295, ⟨1, 1, 0, 0, 0, 0, 0, 0, 0, n, 0, 0, 0⟩, rfl, Lib.hid ⟨by first | exact blk_new _ _ | exact blk_set (blk_new _ _) _ _, by first | exact below_alloc HB1.out _ | exact (below_alloc HB1.out _).setCell (by simpa using HB1.out.size) _, end10 n⟩⟩
    · subst h
      clear hwh
      go_wp2_with fail
      go_meet
      exact ⟨4294967295, ⟨1, 1, 0, 0, 0, 0, 0, 0, 0, 0, n, 0, 0⟩, rfl, Lib.hid ⟨by first | exact blk_new _ _ | exact blk_set (blk_new _ _) _ _, by first | exact below_alloc HB1.out _ | exact (below_alloc HB1.out _).setCell (by simpa using HB1.out.size) _, end11 n⟩⟩
    · have e0 : (which == 0) = false := by simp; omega
      have e1 : (which == 1) = false := by simp; omega
      have e2 : (which == 2) = false := by simp; omega
      have e3 : (which == 3) = false := by simp; omega
      have e4 : (which == 4) = false := by simp; omega
      have e5 : (which == 5) = false := by simp; omega
      have e6 : (which == 6) = false := by simp; omega
      have e7 : (which == 7) = false := by simp; omega
      have e8 : (which == 8) = false := by simp; omega
      have e9 : (which == 9) = false := by simp; omega
      have e10 : (which == 10) = false := by simp; omega
      have e11 : (which == 11) = false := by simp; omega
      clear hwh h
      by_cases hn : n = 0
      · subst hn
        go_wp2_with fail
        go_meet
        exact ⟨2, ⟨0, 0, 0, 0, 0, 0, 0, 0, 0, 0, 0, 0, 0⟩, rfl, Lib.hid ⟨by first | exact blk_new _ _ | exact blk_set (blk_set (blk_new _ _) _ _) _ _, by first | exact below_alloc HB1.out _ | exact ((below_alloc HB1.out _).setCell (by simpa using HB1.out.size) _).setCell (by simpa using HB1.out.size) _, end13⟩⟩
      · have HN := Lib.hid hn
        have hnb : (n == 0) = false := by simp [hn]
        clear hn
        go_wp2_with fail
        go_meet
        exact ⟨2, ⟨n, 1, 0, 0, 0, 0, 0, 0, 0, 0, 0, 0, 0⟩, rfl, Lib.hid ⟨by first | exact blk_new _ _ | exact blk_set (blk_new _ _) _ _, by first | exact below_alloc HB1.out _ | exact (below_alloc HB1.out _).setCell (by simpa using HB1.out.size) _, end12 n HN.out⟩⟩
  case rest =>
    obtain ⟨most, y, rfl, HE⟩ := hcut
    clear hwh
    obtain ⟨p0, p1, p2, p3, p4, p5, p6, p7, p8, p9, p10, p11, p12⟩ := cells13 HE.out.1
    by_cases hok : 0 ≤ n ∧ n ≤ most
    · obtain ⟨hn0, hnm⟩ := hok
      have hoky : okI y = true := by rw [HE.out.2.2, decide_eq_true ⟨hn0, hnm⟩]
      have HP := Lib.hid (fun W => Pack_ok y W hoky)
      have HI := Lib.hid (isI_pack y hoky)
      have HER := Lib.hid (read_pack y hoky)
      have t1 : decide (n ≥ 0) = true := decide_eq_true hn0
      have t2 : decide (n ≤ most) = true := decide_eq_true hnm
      clear hoky
      go_wp2_with (first
        | (go_at_call 9; (with_reducible refine (HP.out _).mono ?_); rintro e w5 ⟨v5, rfl, hR5, hb5⟩; obtain ⟨A5, c5, hv5⟩ := Kd.R_slice hR5; rw [pack_len] at hv5; subst hv5; clear p0 p1 p2 p3 p4 p5 p6 p7 p8 p9 p10 p11 p12; have HB5 := Lib.hid (HE.out.2.1.trans (hb5.mono HE.out.2.1.size)); have H5 := Lib.hid (blk_below HE.out.1 hb5); have HO5 := Lib.hid (Kd.R_reads' hR5); clear hR5 hb5)
        | (go_at_call 11; (with_reducible refine (num_is 0 _).mono ?_); rintro e w6 ⟨rfl, hd⟩; obtain ⟨nd, rfl⟩ := hd.out; clear hd)
        | (go_at_call 12; (refine (Read_yes A5 c5 64 (packI y) _ y (pack_len y) (Kd.C_drewN (by have h := HO5.out.2.2; rw [pack_len] at h; exact h) _) HO5.out.2.1 (pack_rng y) HI.out HER.out).mono ?_); rintro e w7 ⟨rfl, hb7⟩; have h7 := blk_below (blk_drewN H5.out _) hb7; obtain ⟨p0, p1, p2, p3, p4, p5, p6, p7, p8, p9, p10, p11, p12⟩ := cells13 h7; have hlt7 := blk_lt h7; have HB7 := Lib.hid ((pw_below_drewN HB5.out _).trans (hb7.mono (pw_below_drewN HB5.out _).size)); clear hb7 h7))
      go_ret
      exact ⟨by first | rfl | simp, by repeat (first | exact HB7.out | apply pw_below_drewN | apply below_alloc)⟩
    · have hoky : okI y = false := by rw [HE.out.2.2, decide_eq_false hok]
      have HP := Lib.hid (fun W => Pack_bad y W hoky)
      clear hoky
      by_cases hn0 : 0 ≤ n
      · have hnm : ¬ n ≤ most := fun h => hok ⟨hn0, h⟩
        have t1 : decide (n ≥ 0) = true := decide_eq_true hn0
        have t2 : decide (n ≤ most) = false := decide_eq_false hnm
        clear hok
        go_wp2_with (first
          | (go_at_call 9; (with_reducible refine (HP.out _).mono ?_); rintro e w5 ⟨v5, rfl, hR5, hb5⟩; obtain ⟨A5, c5, rfl⟩ := Kd.R_slice hR5; clear p0 p1 p2 p3 p4 p5 p6 p7 p8 p9 p10 p11 p12; have HB5 := Lib.hid (HE.out.2.1.trans (hb5.mono HE.out.2.1.size)); clear hR5 hb5)
          | (go_at_call 11; (with_reducible refine (num_is 1 _).mono ?_); rintro e w6 ⟨rfl, hd⟩; obtain ⟨nd, rfl⟩ := hd.out; clear hd))
        go_ret
        exact ⟨by first | rfl | simp, by repeat (first | exact HB5.out | apply pw_below_drewN | apply below_alloc)⟩
      · have t1 : decide (n ≥ 0) = false := decide_eq_false hn0
        clear hok
        go_wp2_with (first
          | (go_at_call 9; (with_reducible refine (HP.out _).mono ?_); rintro e w5 ⟨v5, rfl, hR5, hb5⟩; obtain ⟨A5, c5, rfl⟩ := Kd.R_slice hR5; clear p0 p1 p2 p3 p4 p5 p6 p7 p8 p9 p10 p11 p12; have HB5 := Lib.hid (HE.out.2.1.trans (hb5.mono HE.out.2.1.size)); clear hR5 hb5)
          | (go_at_call 11; (with_reducible refine (num_is 1 _).mono ?_); rintro e w6 ⟨rfl, hd⟩; obtain ⟨nd, rfl⟩ := hd.out; clear hd))
        go_ret
        exact ⟨by first | rfl | simp, by repeat (first | exact HB5.out | apply pw_below_drewN | apply below_alloc)⟩
theorem dinodeEnds_walk (which n : Int) (w : World) (h0 : (Lit.int .i64 which).wf = true) (h1 : (Lit.int .i64 n).wf = true) : Calls Try.prog 5 #[.int .i64 which, .int .i64 n] w fun e w' => e = .returned (.bool true) ∧ Below w.heap.size w w' := dinodeEnds_walk0 which n w
end Go.Proofs.Ytdjncafofcpoiaa.Given
