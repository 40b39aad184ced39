/- DinodeReads and DinodeFree answer true; by hand over the contracts. -/
import Derived.Test.YtdjncafofcpoiaaG7
namespace Go.Proofs.Ytdjncafofcpoiaa.Given
open Go.RowKit Go.Proofs.YtdjncafofcpoiaaW.PrintWords Go.Proofs.YtdjncafofcpoiaaW.PrintLast Go.Proofs.YtdjncafofcpoiaaW.PrintMore Go.Proofs.YtdjncafofcpoiaaBase Go.Proofs.Ytdjncafofcpoiaa.PDFns Go.Proofs.Ytdjncafofcpoiaa.PEqual
set_option linter.unusedVariables false
set_option linter.unusedSimpArgs false
attribute [local go_sem ↓] eql24g neq24g zero24

theorem ReadInode_any (A0 : Option Addr) (c0 n : Nat) (l : List Int) (w : World) (hl : l.length = n) (hC : Kd.C (Kd.int .u8) w A0 n l) (hc : n ≤ c0) (hb : Bytes l) : Calls Try.prog 13 #[.slice A0 n c0] w (ReadQ l w) := by
  by_cases h : n = 64
  · subst h; exact ReadInode_long A0 c0 l w hC hc hb hl
  · subst hl; exact ReadInode_short A0 c0 l w h
theorem ReadInode_yes (A0 : Option Addr) (c0 n : Nat) (l : List Int) (w : World) (hl : l.length = n) (hC : Kd.C (Kd.int .u8) w A0 n l) (hc : n ≤ c0) (hb : Bytes l) (hx : isI l = true) : Calls Try.prog 13 #[.slice A0 n c0] w fun e w' => e = .returned (.tuple #[.agg (readI l).cells, .bool true]) ∧ Below w.heap.size w w' := by
  refine (ReadInode_any A0 c0 n l w hl hC hc hb).mono ?_
  rintro e w' ⟨rfl, h⟩
  rw [hx]
  exact ⟨rfl, h⟩
theorem ReadInode_no (A0 : Option Addr) (c0 n : Nat) (l : List Int) (w : World) (hl : l.length = n) (hC : Kd.C (Kd.int .u8) w A0 n l) (hc : n ≤ c0) (hb : Bytes l) (hx : isI l = false) : Calls Try.prog 13 #[.slice A0 n c0] w fun e w' => e = .returned (.tuple #[.agg Ino.zero.cells, .bool false]) ∧ Below w.heap.size w w' := by
  refine (ReadInode_any A0 c0 n l w hl hC hc hb).mono ?_
  rintro e w' ⟨rfl, h⟩
  rw [hx]
  exact ⟨rfl, h⟩
theorem isI_spec {l : List Int} (h : isI l = true) : l.length = 64 ∧ okI (readI l) = true ∧ packI (readI l) = l := by
  simpa [isI] using h

set_option maxRecDepth 100000 in
set_option maxHeartbeats 2000000 in
theorem dinodeReads_big (A0 : Option Addr) (c0 : Nat) (l0 : List Int) (w : World) (h : 1000 < l0.length) : Calls Try.prog 4 #[.slice A0 l0.length c0] w fun e w' => e = .returned (.bool true) ∧ Below w.heap.size w w' := by
  have t1 : decide ((l0.length : Int) > 1000) = true := decide_eq_true (by omega)
  clear h
  go_enter Try.func4, Try.ntmps4
  go_wp2_with (go_at_call 8; (with_reducible refine (lockgatelaw5_alive.calls true _ rfl).mono ?_); rintro e w1 ⟨rfl, hb1⟩)
  go_ret
  exact ⟨rfl, hb1⟩

set_option maxRecDepth 100000 in
set_option maxHeartbeats 2000000 in
theorem dinodeReads_no (A0 : Option Addr) (c0 : Nat) (l0 : List Int) (w : World) (hC0 : Kd.C (Kd.int .u8) w A0 l0.length l0) (hc0 : l0.length ≤ c0) (hb : Bytes l0) (hlen : l0.length ≤ 1000) (hx : isI l0 = false) : Calls Try.prog 4 #[.slice A0 l0.length c0] w fun e w' => e = .returned (.bool true) ∧ Below w.heap.size w w' := by
  have t1 : decide ((l0.length : Int) > 1000) = false := decide_eq_false (by omega)
  have HC0 := Lib.hid hC0
  have HB := Lib.hid hb
  have HX := Lib.hid hx
  have HCC := Lib.hid hc0
  have HL := Lib.hid hlen
  have hrefl : ∀ y, eqI y y = true := eqI_refl
  clear hC0 hb hx hc0 hlen
  go_enter Try.func4, Try.ntmps4
  go_wp2_with (first
    | (go_at_call 8; (with_reducible refine (lockgatelaw5_alive.calls true _ rfl).mono ?_); rintro e w1 ⟨rfl, hb1⟩; have HB1 := Lib.hid hb1; clear hb1)
    | (at_builtin; refine Kd.R_append_rows (Kd.int .u8) (w0 := w) w.heap.size rfl (.const (.slice none 0 0)) (.tmp 20) 26 5 (.int .u8 0) 1 rfl Try.underlying26 info5 rfl (by decide) (by omega) (.slice none 0 0) [] l0 _ _ c0 (fun _ => True) (fun _ => False) rfl rfl (Kd.R_nil _ _ _ _ _) (Kd.C_below HC0.out HB1.out) (fun _ _ h => h) (fun _ h => h.elim) (fun _ _ => trivial) HB1.out HB1.out.size (by have := HL.out; simp; omega) ?_; intro v5 w2 hown hb2 hg hat; obtain ⟨A5, c5, rfl⟩ := Kd.R_slice hown; rw [List.nil_append] at hown ⊢; have HO := Lib.hid (Kd.R_reads' hown); have HB2 := Lib.hid hb2; clear hown hb2 hg hat)
    | (go_at_call 12; (refine (Read_no A5 c5 l0.length l0 _ rfl HO.out.2.2 HO.out.2.1 HB.out HX.out).mono ?_); rintro e w3 ⟨rfl, hb3⟩; have HB3 := Lib.hid (HB2.out.trans (hb3.mono HB2.out.size)); clear hb3)
    | (go_at_call 13; (refine (ReadInode_no A0 c0 l0.length l0 _ rfl (Kd.C_alloc (Kd.C_below HC0.out HB3.out) _) HCC.out HB.out HX.out).mono ?_); rintro e w4 ⟨rfl, hb4⟩; have h4 := blk_below (blk_new w3 (.cells Ino.zero.cells 24)) hb4; obtain ⟨p0, p1, p2, p3, p4, p5, p6, p7, p8, p9, p10, p11, p12⟩ := cells13 h4; have hlt4 := blk_lt h4; have HB4 := Lib.hid ((below_alloc HB3.out (.cells Ino.zero.cells 24)).trans (hb4.mono (below_alloc HB3.out (.cells Ino.zero.cells 24)).size)); clear h4 hb4)
    | (go_at_call 11; (with_reducible refine (num_is 5 _).mono ?_); rintro e w5 ⟨rfl, hd⟩; obtain ⟨nd, rfl⟩ := hd.out; clear hd))
  go_ret
  exact ⟨rfl, by repeat (first | exact HB4.out | apply pw_below_drewN | apply below_alloc)⟩

set_option maxRecDepth 100000 in
set_option maxHeartbeats 2000000 in
theorem dinodeReads_yes (A0 : Option Addr) (c0 : Nat) (l0 : List Int) (w : World) (hC0 : Kd.C (Kd.int .u8) w A0 l0.length l0) (hc0 : l0.length ≤ c0) (hb : Bytes l0) (hlen : l0.length ≤ 1000) (hx : isI l0 = true) : Calls Try.prog 4 #[.slice A0 l0.length c0] w fun e w' => e = .returned (.bool true) ∧ Below w.heap.size w w' := by
  have t1 : decide ((l0.length : Int) > 1000) = false := decide_eq_false (by omega)
  have HC0 := Lib.hid hC0
  have HB := Lib.hid hb
  have HX := Lib.hid hx
  have HCC := Lib.hid hc0
  have HL := Lib.hid hlen
  have HP := Lib.hid (fun W => Pack_ok (readI l0) W (isI_spec hx).2.1)
  have hE : ((strOfNums (packI (readI l0))).toList == (strOfNums l0).toList) = true := by rw [(isI_spec hx).2.2]; simp
  have hrefl : ∀ y, eqI y y = true := eqI_refl
  clear hC0 hb hx hc0 hlen
  go_enter Try.func4, Try.ntmps4
  go_wp2_with (first
    | (go_at_call 8; (with_reducible refine (lockgatelaw5_alive.calls true _ rfl).mono ?_); rintro e w1 ⟨rfl, hb1⟩; have HB1 := Lib.hid hb1; clear hb1)
    | (at_builtin; refine Kd.R_append_rows (Kd.int .u8) (w0 := w) w.heap.size rfl (.const (.slice none 0 0)) (.tmp 20) 26 5 (.int .u8 0) 1 rfl Try.underlying26 info5 rfl (by decide) (by omega) (.slice none 0 0) [] l0 _ _ c0 (fun _ => True) (fun _ => False) rfl rfl (Kd.R_nil _ _ _ _ _) (Kd.C_below HC0.out HB1.out) (fun _ _ h => h) (fun _ h => h.elim) (fun _ _ => trivial) HB1.out HB1.out.size (by have := HL.out; simp; omega) ?_; intro v5 w2 hown hb2 hg hat; obtain ⟨A5, c5, rfl⟩ := Kd.R_slice hown; rw [List.nil_append] at hown ⊢; have HO := Lib.hid (Kd.R_reads' hown); have HB2 := Lib.hid hb2; clear hown hb2 hg hat)
    | (go_at_call 12; (refine (Read_yes A5 c5 l0.length l0 _ (readI l0) rfl HO.out.2.2 HO.out.2.1 HB.out HX.out rfl).mono ?_); rintro e w3 ⟨rfl, hb3⟩; have HB3 := Lib.hid (HB2.out.trans (hb3.mono HB2.out.size)); clear hb3)
    | (go_at_call 13; (refine (ReadInode_yes A0 c0 l0.length l0 _ rfl (Kd.C_alloc (Kd.C_below HC0.out HB3.out) _) HCC.out HB.out HX.out).mono ?_); rintro e w4 ⟨rfl, hb4⟩; have h4 := blk_below (blk_new w3 (.cells (readI l0).cells 24)) hb4; obtain ⟨p0, p1, p2, p3, p4, p5, p6, p7, p8, p9, p10, p11, p12⟩ := cells13 h4; have hlt4 := blk_lt h4; have HB4 := Lib.hid ((below_alloc HB3.out (.cells (readI l0).cells 24)).trans (hb4.mono (below_alloc HB3.out (.cells (readI l0).cells 24)).size)); clear h4 hb4)
    | (go_at_call 11; (with_reducible refine (num_is 0 _).mono ?_); rintro e w5 ⟨rfl, hd⟩; obtain ⟨nd, rfl⟩ := hd.out; clear hd)
    | (go_at_call 9; (with_reducible refine (HP.out _).mono ?_); rintro e w6 ⟨v6, rfl, hR6, hb6⟩; obtain ⟨A6, c6, rfl⟩ := Kd.R_slice hR6; have HB5 := Lib.hid (pw_below_drewN (below_alloc HB4.out (.cells (readI l0).cells 24)) nd); have HB6 := Lib.hid (HB5.out.trans (hb6.mono HB5.out.size)); have hcv6 := fun n : Nat => Kd.C_string (P := Try.prog) Try.underlying26 Try.underlying5 Try.underlying9 (c := c6) (Kd.C_drewN (Kd.R_reads' hR6).2.2 n); have hcv0 := fun n : Nat => Kd.C_string (P := Try.prog) Try.underlying26 Try.underlying5 Try.underlying9 (c := c0) (Kd.C_drewN (Kd.C_below HC0.out HB6.out) n); clear hb6 hR6))
  go_ret
  exact ⟨by first | rfl | simp, by repeat (first | exact HB6.out | apply pw_below_drewN | apply below_alloc)⟩
theorem dinodeReads_walk (A0 : Option Addr) (c0 : Nat) (l0 : List Int) (w : World) (hC0 : Kd.C (Kd.int .u8) w A0 l0.length l0) (hc0 : l0.length ≤ c0) (w0 : l0.length ≤ maxLen ∧ ∀ y ∈ l0, (Lit.int .u8 y).wf = true) : Calls Try.prog 4 #[.slice A0 l0.length c0] w fun e w' => e = .returned (.bool true) ∧ Below w.heap.size w w' := by
  have hb : Bytes l0 := fun x hx => by have := bounds_u8 (w0.2 x hx); omega
  by_cases h : 1000 < l0.length
  · exact dinodeReads_big A0 c0 l0 w h
  cases hx : isI l0 with
  | true => exact dinodeReads_yes A0 c0 l0 w hC0 hc0 hb (by omega) hx
  | false => exact dinodeReads_no A0 c0 l0 w hC0 hc0 hb (by omega) hx
end Go.Proofs.Ytdjncafofcpoiaa.Given
