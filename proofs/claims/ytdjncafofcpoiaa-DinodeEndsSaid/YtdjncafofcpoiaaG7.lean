/- DinodePacks and DinodeReads answer true; by hand over the contracts. -/
import Derived.Test.YtdjncafofcpoiaaG6
namespace Go.Proofs.Ytdjncafofcpoiaa.Given
open Go.RowKit Go.Proofs.YtdjncafofcpoiaaW.PrintWords Go.Proofs.YtdjncafofcpoiaaW.PrintLast Go.Proofs.YtdjncafofcpoiaaW.PrintMore Go.Proofs.YtdjncafofcpoiaaBase Go.Proofs.Ytdjncafofcpoiaa.PDFns Go.Proofs.Ytdjncafofcpoiaa.PEqual
set_option linter.unusedVariables false
set_option linter.unusedSimpArgs false
theorem eql24g (w : World) (k l s d0 d1 d2 d3 d4 d5 d6 d7 n m k' l' s' d0' d1' d2' d3' d4' d5' d6' d7' n' m' : Int) : (binOp .eql 24 (.agg #[.int .i64 k, .int .i64 l, .int .i64 s, .int .i64 d0, .int .i64 d1, .int .i64 d2, .int .i64 d3, .int .i64 d4, .int .i64 d5, .int .i64 d6, .int .i64 d7, .int .i64 n, .int .i64 m]) (.agg #[.int .i64 k', .int .i64 l', .int .i64 s', .int .i64 d0', .int .i64 d1', .int .i64 d2', .int .i64 d3', .int .i64 d4', .int .i64 d5', .int .i64 d6', .int .i64 d7', .int .i64 n', .int .i64 m'])).run Try.prog w = .ok (.bool (eqI ⟨k, l, s, d0, d1, d2, d3, d4, d5, d6, d7, n, m⟩ ⟨k', l', s', d0', d1', d2', d3', d4', d5', d6', d7', n', m'⟩)) w := eql24 w ⟨k, l, s, d0, d1, d2, d3, d4, d5, d6, d7, n, m⟩ ⟨k', l', s', d0', d1', d2', d3', d4', d5', d6', d7', n', m'⟩
theorem neq24g (w : World) (k l s d0 d1 d2 d3 d4 d5 d6 d7 n m k' l' s' d0' d1' d2' d3' d4' d5' d6' d7' n' m' : Int) : (binOp .neq 24 (.agg #[.int .i64 k, .int .i64 l, .int .i64 s, .int .i64 d0, .int .i64 d1, .int .i64 d2, .int .i64 d3, .int .i64 d4, .int .i64 d5, .int .i64 d6, .int .i64 d7, .int .i64 n, .int .i64 m]) (.agg #[.int .i64 k', .int .i64 l', .int .i64 s', .int .i64 d0', .int .i64 d1', .int .i64 d2', .int .i64 d3', .int .i64 d4', .int .i64 d5', .int .i64 d6', .int .i64 d7', .int .i64 n', .int .i64 m'])).run Try.prog w = .ok (.bool (!eqI ⟨k, l, s, d0, d1, d2, d3, d4, d5, d6, d7, n, m⟩ ⟨k', l', s', d0', d1', d2', d3', d4', d5', d6', d7', n', m'⟩)) w := neq24 w ⟨k, l, s, d0, d1, d2, d3, d4, d5, d6, d7, n, m⟩ ⟨k', l', s', d0', d1', d2', d3', d4', d5', d6', d7', n', m'⟩
attribute [local go_sem ↓] eql24g neq24g zero24
theorem isI_pack (x : Ino) (h : okI x = true) : isI (packI x) = true := by
  unfold isI
  rw [read_pack x h, h, pack_len]
  simp
theorem num_is (a : Int) (w : World) : Calls Try.prog 11 #[.int .i64 a] w fun e w' => e = .returned (.int .i64 a) ∧ Drawn0 w w' := lockgatelaw5_num.calls a a w rfl

set_option maxRecDepth 100000 in
set_option maxHeartbeats 2000000 in
theorem dinodePacks_no (x : Ino) (w : World) (h : okI x = false) : Calls Try.prog 3 #[.agg x.cells] w fun e w' => e = .returned (.bool true) ∧ Below w.heap.size w w' := by
  have HP := Lib.hid (fun W => Pack_bad x W h)
  have HQ := Lib.hid (fun W => PackInode_no x W h)
  clear h
  unfold Ino.cells
  go_enter Try.func3, Try.ntmps3
  go_wp2_with (first
    | (go_at_call 8; (with_reducible refine (lockgatelaw5_alive.calls true _ rfl).mono ?_); rintro e w1 ⟨rfl, hb1⟩; have HB1 := Lib.hid ((below_alloc (Below.refl w.heap.size w) (.cells x.cells 24)).trans (hb1.mono (by simp))); have h1 := blk_below (blk_new w (.cells x.cells 24)) hb1; obtain ⟨p0, p1, p2, p3, p4, p5, p6, p7, p8, p9, p10, p11, p12⟩ := cells13 h1; have H1 := Lib.hid h1; clear hb1 h1)
    | (go_at_call 9; (with_reducible refine (HP.out _).mono ?_); rintro e w2 ⟨v2, rfl, hR2, hb2⟩; obtain ⟨A2, c2, rfl⟩ := Kd.R_slice hR2; clear p0 p1 p2 p3 p4 p5 p6 p7 p8 p9 p10 p11 p12; have HB2 := Lib.hid (HB1.out.trans (hb2.mono HB1.out.size)); have h2 := blk_below H1.out hb2; obtain ⟨p0, p1, p2, p3, p4, p5, p6, p7, p8, p9, p10, p11, p12⟩ := cells13 h2; have H2 := Lib.hid h2; have HR2 := Lib.hid (Kd.R_reads' hR2).2.2; clear hb2 h2 hR2)
    | (go_at_call 10; (with_reducible refine (HQ.out _).mono ?_); rintro e w3 ⟨v3, rfl, hR3, hb3⟩; obtain ⟨A3, c3, rfl⟩ := Kd.R_slice hR3; clear p0 p1 p2 p3 p4 p5 p6 p7 p8 p9 p10 p11 p12; have HB3 := Lib.hid (HB2.out.trans (hb3.mono HB2.out.size)); have hcv2 := fun nd : Nat => Kd.C_string (P := Try.prog) Try.underlying26 Try.underlying5 Try.underlying9 (c := c2) (Kd.C_drewN (Kd.C_below HR2.out hb3) nd); have hcv3 := fun nd : Nat => Kd.C_string (P := Try.prog) Try.underlying26 Try.underlying5 Try.underlying9 (c := c3) (Kd.C_drewN (Kd.R_reads' hR3).2.2 nd); simp only [List.length_nil] at hcv2 hcv3; clear hb3 hR3)
    | (go_at_call 11; (with_reducible refine (num_is 1 _).mono ?_); rintro e w4 ⟨rfl, hd⟩; obtain ⟨nd, rfl⟩ := hd.out; clear hd))
  go_ret
  exact ⟨rfl, by repeat (first | exact HB3.out | apply pw_below_drewN | apply below_alloc)⟩

set_option maxRecDepth 100000 in
set_option maxHeartbeats 2000000 in
theorem dinodePacks_yes (x : Ino) (w : World) (h : okI x = true) : Calls Try.prog 3 #[.agg x.cells] w fun e w' => e = .returned (.bool true) ∧ Below w.heap.size w w' := by
  have HP := Lib.hid (fun W => Pack_ok x W h)
  have HQ := Lib.hid (fun W => PackInode_yes x W h)
  have HI := Lib.hid (isI_pack x h)
  have HE := Lib.hid (read_pack x h)
  have hrefl : ∀ y, eqI y y = true := eqI_refl
  clear h
  unfold Ino.cells
  go_enter Try.func3, Try.ntmps3
  go_wp2_with (first
    | (go_at_call 8; (with_reducible refine (lockgatelaw5_alive.calls true _ rfl).mono ?_); rintro e w1 ⟨rfl, hb1⟩; have HB1 := Lib.hid ((below_alloc (Below.refl w.heap.size w) (.cells x.cells 24)).trans (hb1.mono (by simp))); have h1 := blk_below (blk_new w (.cells x.cells 24)) hb1; obtain ⟨p0, p1, p2, p3, p4, p5, p6, p7, p8, p9, p10, p11, p12⟩ := cells13 h1; have H1 := Lib.hid h1; clear hb1 h1)
    | (go_at_call 9; (with_reducible refine (HP.out _).mono ?_); rintro e w2 ⟨v2, rfl, hR2, hb2⟩; obtain ⟨A2, c2, rfl⟩ := Kd.R_slice hR2; clear p0 p1 p2 p3 p4 p5 p6 p7 p8 p9 p10 p11 p12; have HB2 := Lib.hid (HB1.out.trans (hb2.mono HB1.out.size)); have h2 := blk_below H1.out hb2; obtain ⟨p0, p1, p2, p3, p4, p5, p6, p7, p8, p9, p10, p11, p12⟩ := cells13 h2; have H2 := Lib.hid h2; have HR2 := Lib.hid (Kd.R_reads' hR2); clear hb2 h2 hR2)
    | (go_at_call 10; (with_reducible refine (HQ.out _).mono ?_); rintro e w3 ⟨v3, rfl, hR3, hb3⟩; obtain ⟨A3, c3, rfl⟩ := Kd.R_slice hR3; clear p0 p1 p2 p3 p4 p5 p6 p7 p8 p9 p10 p11 p12; have HB3 := Lib.hid (HB2.out.trans (hb3.mono HB2.out.size)); have H3 := Lib.hid (blk_below H2.out hb3); have HC3 := Lib.hid (Kd.C_below HR2.out.2.2 hb3); have hcv2 := fun nd : Nat => Kd.C_string (P := Try.prog) Try.underlying26 Try.underlying5 Try.underlying9 (c := c2) (Kd.C_drewN HC3.out nd); have hcv3 := fun nd : Nat => Kd.C_string (P := Try.prog) Try.underlying26 Try.underlying5 Try.underlying9 (c := c3) (Kd.C_drewN (Kd.R_reads' hR3).2.2 nd); clear hb3 hR3)
    | (go_at_call 11; (with_reducible refine (num_is 0 _).mono ?_); rintro e w4 ⟨rfl, hd⟩; obtain ⟨nd, rfl⟩ := hd.out; clear hd)
    | (go_at_call 12; (refine (Read_yes A2 c2 (packI x).length (packI x) _ x rfl (Kd.C_drewN HC3.out _) HR2.out.2.1 (pack_rng x) HI.out HE.out).mono ?_); rintro e w5 ⟨rfl, hb5⟩; have h5 := blk_below (blk_drewN H3.out _) hb5; obtain ⟨p0, p1, p2, p3, p4, p5, p6, p7, p8, p9, p10, p11, p12⟩ := cells13 h5; have hlt5 := blk_lt h5; have HB5 := Lib.hid ((pw_below_drewN HB3.out _).trans (hb5.mono (pw_below_drewN HB3.out _).size)); clear hb5 h5 hcv2 hcv3))
  go_ret
  exact ⟨rfl, by repeat (first | exact HB5.out | apply pw_below_drewN | apply below_alloc)⟩
theorem dinodePacks_walk (x : Ino) (w : World) : Calls Try.prog 3 #[.agg x.cells] w fun e w' => e = .returned (.bool true) ∧ Below w.heap.size w w' := by
  cases h : okI x with
  | true => exact dinodePacks_yes x w h
  | false => exact dinodePacks_no x w h
end Go.Proofs.Ytdjncafofcpoiaa.Given
