/- lockgateref1.ReadInode: what it answers, for all bytes. -/
import Derived.Test.YtdjncafofcpoiaaG4
namespace Go.Proofs.Ytdjncafofcpoiaa.Given
open Go.RowKit Go.Proofs.YtdjncafofcpoiaaW.PrintWords Go.Proofs.YtdjncafofcpoiaaW.PrintLast Go.Proofs.YtdjncafofcpoiaaW.PrintMore Go.Proofs.YtdjncafofcpoiaaBase Go.Proofs.Ytdjncafofcpoiaa.PDFns Go.Proofs.Ytdjncafofcpoiaa.PEqual
set_option linter.unusedVariables false
set_option linter.unusedSimpArgs false
attribute [local go_sem ↓] zero24 build24

def ReadQ (l : List Int) (w : World) (e : Ending) (w' : World) : Prop := e = .returned (.tuple #[.agg (if isI l = true then readI l else Ino.zero).cells, .bool (isI l)]) ∧ Below w.heap.size w w'
theorem readQ_no {l : List Int} {w w' : World} (h : isI l = false) (hb : Below w.heap.size w w') : ReadQ l w (.returned (.tuple #[.agg Ino.zero.cells, .bool false])) w' := ⟨by rw [h]; rfl, hb⟩
theorem readQ_yes {l : List Int} {w w' : World} (h : isI l = true) (hb : Below w.heap.size w w') : ReadQ l w (.returned (.tuple #[.agg (readI l).cells, .bool true])) w' := ⟨by rw [h]; rfl, hb⟩
theorem num_any (A : Option Addr) (c n : Nat) (l : List Int) (hl : l.length = n) (hc : n ≤ c) (a m r : Int) (W : World) (hC : Kd.C (Kd.int .u8) W A n l) (h : lockgateref1_num.f 5 l a m = some r) :
    Calls Try.prog 25 #[.slice A n c, .int .i64 a, .int .i64 m] W fun e w' => e = .returned (.int .i64 r) ∧ Drawn0 W w' := by
  subst hl
  exact lockgateref1_num.calls 5 A c l a m r W hC hc h
theorem eqs_tells {l : List Int} (hb : Bytes l) (x : Ino) : ((strOfNums (packI x)).toList == (strOfNums l).toList) = (packI x == l) := by
  have := equal_tells hb x
  unfold bytes_Equal.f at this
  exact Option.some.inj this

theorem C_string64 {W : World} {A : Option Addr} {c : Nat} {l : List Int} (hl : l.length = 64) (h : Kd.C (Kd.int .u8) W A 64 l) : (convert 26 9 (.slice A 64 c)).run Try.prog W = .ok (.string (strOfNums l)) W := by
  exact Kd.C_string (P := Try.prog) Try.underlying26 Try.underlying5 Try.underlying9 h
theorem PackInode_no (x : Ino) (w : World) (h : okI x = false) : Calls Try.prog 10 #[.agg x.cells] w fun e w' => ∃ v, e = .returned (.tuple #[v, .bool false]) ∧ Kd.R (Kd.int .u8) 5 w' w.heap.size (fun _ => True) v [] ∧ Below w.heap.size w w' := by
  refine (PackInode_all x w).mono ?_
  rintro e w' ⟨v, he, hR, hb⟩
  rw [h] at he hR
  exact ⟨v, he, hR, hb⟩
theorem PackInode_yes (x : Ino) (w : World) (h : okI x = true) : Calls Try.prog 10 #[.agg x.cells] w fun e w' => ∃ v, e = .returned (.tuple #[v, .bool true]) ∧ Kd.R (Kd.int .u8) 5 w' w.heap.size (fun _ => True) v (packI x) ∧ Below w.heap.size w w' := by
  refine (PackInode_all x w).mono ?_
  rintro e w' ⟨v, he, hR, hb⟩
  rw [h] at he hR
  exact ⟨v, he, hR, hb⟩

set_option maxRecDepth 100000 in
set_option maxHeartbeats 2000000 in
theorem ReadInode_short (A0 : Option Addr) (c0 : Nat) (l : List Int) (w : World) (hl : l.length ≠ 64) : Calls Try.prog 13 #[.slice A0 l.length c0] w (ReadQ l w) := by
  have HNO : Hid (isI l = false) := Lib.hid (by simp [isI, hl])
  have hl' : ((l.length : Int) != 64) = true := by simp; omega
  have hl2 : ((l.length : Int) == 64) = false := by simp; omega
  clear hl
  go_enter Try.func13, Try.ntmps13
  go_wp2
  exact bodyPost_ret (results_ct rfl _ _ w.heap.size 24 Ino.zero.cells (0, 0) _ rfl (by first | exact blk_new _ _ | exact blk_new w _) Try.underlying24 rfl info24) rfl (readQ_no HNO.out (by repeat (first | exact Below.refl _ _ | apply pw_below_drewN | apply below_alloc)))

set_option maxRecDepth 100000 in
set_option maxHeartbeats 2000000 in
theorem ReadInode_long (A0 : Option Addr) (c0 : Nat) (l : List Int) (w : World) (hC : Kd.C (Kd.int .u8) w A0 64 l) (hc : 64 ≤ c0) (hb : Bytes l) (hl : l.length = 64) : Calls Try.prog 13 #[.slice A0 64 c0] w (ReadQ l w) := by
  have HC := Lib.hid hC
  have HB := Lib.hid hb
  have HL := Lib.hid hl
  have HCC := Lib.hid hc
  have X0 := Lib.hid (fun W hW => num_any A0 c0 64 l hl hc 0 2 (at2 l 0) W hW (rnum2 0 l hb 0 (by omega) (by omega)))
  have X1 := Lib.hid (fun W hW => num_any A0 c0 64 l hl hc 2 2 (at2 l 2) W hW (rnum2 0 l hb 2 (by omega) (by omega)))
  have X2 := Lib.hid (fun W hW => num_any A0 c0 64 l hl hc 4 4 (at4 l 4) W hW (rnum4 0 l hb 4 (by omega) (by omega)))
  have X3 := Lib.hid (fun W hW => num_any A0 c0 64 l hl hc 40 4 (at4 l 40) W hW (rnum4 0 l hb 40 (by omega) (by omega)))
  have X4 := Lib.hid (fun W hW => num_any A0 c0 64 l hl hc 44 4 (at4 l 44) W hW (rnum4 0 l hb 44 (by omega) (by omega)))
  clear hC hc hb hl
  go_enter Try.func13, Try.ntmps13
  go_wp2_with (first
    | (go_at_call 25; (with_reducible refine (X0.out _ ?_).mono ?_); (repeat (first | exact HC.out | apply Kd.C_alloc | apply Kd.C_drew | apply Kd.C_drewN)); rintro e w' ⟨rfl, hd⟩; obtain ⟨nd, rfl⟩ := hd.out; clear hd)
    | (go_at_call 25; (with_reducible refine (X1.out _ ?_).mono ?_); (repeat (first | exact HC.out | apply Kd.C_alloc | apply Kd.C_drew | apply Kd.C_drewN)); rintro e w' ⟨rfl, hd⟩; obtain ⟨nd, rfl⟩ := hd.out; clear hd)
    | (go_at_call 25; (with_reducible refine (X2.out _ ?_).mono ?_); (repeat (first | exact HC.out | apply Kd.C_alloc | apply Kd.C_drew | apply Kd.C_drewN)); rintro e w' ⟨rfl, hd⟩; obtain ⟨nd, rfl⟩ := hd.out; clear hd)
    | (go_at_call 25; (with_reducible refine (X3.out _ ?_).mono ?_); (repeat (first | exact HC.out | apply Kd.C_alloc | apply Kd.C_drew | apply Kd.C_drewN)); rintro e w' ⟨rfl, hd⟩; obtain ⟨nd, rfl⟩ := hd.out; clear hd)
    | (go_at_call 25; (with_reducible refine (X4.out _ ?_).mono ?_); (repeat (first | exact HC.out | apply Kd.C_alloc | apply Kd.C_drew | apply Kd.C_drewN)); rintro e w' ⟨rfl, hd⟩; obtain ⟨nd, rfl⟩ := hd.out; clear hd))
  refine gen_world (fun W => RD w (w.heap.size + 1) (inoD l 0) W) ?_ ?_
  · rw [inoD_zero]
    first
      | ((with_reducible refine RD.made ?_ ?_ ?_)
         · simp
         · (repeat (first | exact blk_new w _ | apply blk_drewN | apply blk_alloc))
         · (repeat (first | exact Below.refl _ _ | apply pw_below_drewN | apply below_alloc)))
  intro wx hF
  obtain ⟨B, hBB⟩ : ∃ B, B = w.heap.size + 1 := ⟨_, rfl⟩
  rw [← hBB] at hF ⊢
  have HF := Lib.hid hF
  clear hBB hF X0 X1 X2 X3 X4
  go_wp2_with fail
  go_loopw [5] (fun i wr => ∃ k : Nat, k ≤ 8 ∧ i = .int .i64 (k : Int) ∧ Hid (RD w B (inoD l k) wr)) (fun i _ => 8 - (intOf i).toNat)
  case atStart => exact ⟨0, by omega, rfl, HF⟩
  case round =>
    obtain ⟨k, hk, rfl, HR⟩ := hrel
    have hblt : B < wr.heap.size := blk_lt HR.out.b
    by_cases hlt : k < 8
    · have hlt' : (k : Int) < 8 := by omega
      have X : Hid (∀ W : World, Kd.C (Kd.int .u8) W A0 64 l → Calls Try.prog 25 #[.slice A0 64 c0, .int .i64 (8 + 4 * (k : Int)), .int .i64 4] W fun e w' => e = .returned (.int .i64 (at4 l (8 + 4 * k))) ∧ Drawn0 W w') := Lib.hid (fun W hW => num_any A0 c0 64 l HL.out HCC.out _ 4 (at4 l (8 + 4 * k)) W hW (by
        have := rnum4 0 l HB.out (8 + 4 * k) (by omega) (by rw [HL.out]; omega)
        rwa [show ((8 + 4 * k : Nat) : Int) = 8 + 4 * (k : Int) by omega] at this))
      have hcd := cell_ds HR.out.b k hlt
      have hfr := blk_frozen HR.out.b (3 + k)
      have HC2 := Lib.hid (Kd.C_below HC.out HR.out.bel)
      go_wp2_with (go_at_call 25; (with_reducible refine (X.out _ ?_).mono ?_); (exact HC2.out); rintro e w' ⟨rfl, hd⟩; obtain ⟨nd, rfl⟩ := hd.out; clear hd)
      go_roundw
      case rel => exact ⟨k + 1, by omega, by go_num, Lib.hid ((HR.out.drewN _).set _ _ (inoD_set l k hlt))⟩
      case measure => simp [intOf]; omega
    · obtain rfl : k = 8 := by omega
      rw [inoD_all] at HR
      have HCw := Lib.hid (Kd.C_below HC.out HR.out.bel)
      obtain ⟨p0, p1, p2, p3, p4, p5, p6, p7, p8, p9, p10, p11, p12⟩ := cells13 HR.out.b
      cases hok : okI (readI l) with
      | false =>
        have HNO : Hid (isI l = false) := Lib.hid (by simp [isI, hok])
        have HP := Lib.hid (PackInode_no (readI l) wr hok)
        clear hok
        go_wp2_with (go_at_call 10; (with_reducible refine HP.out.mono ?_); rintro e w5 ⟨v5, rfl, hR5, hb5⟩; have HR5 := Lib.hid (HR.out.below hb5); have hz5 := HR5.out.z; obtain ⟨z0, z1, z2, z3, z4, z5, z6, z7, z8, z9, z10, z11, z12⟩ := cells13 hz5; have hfz := fun j => blk_frozen hz5 j; clear hR5 hb5 hz5)
        refine bodyPost_ret (v := .tuple #[.agg Ino.zero.cells, .bool false]) ?_ rfl ?_
        · refine Eq.trans (results_ct (p := 2) (u := 3) rfl _ _ w.heap.size 24 Ino.zero.cells (0, 0) _ ?_ (set13 Ino.zero HR5.out.z) Try.underlying24 rfl info24) ?_
          · rfl
          · rfl
        · exact readQ_no HNO.out (below13 Ino.zero HR5.out.bel (Nat.le_refl _))
      | true =>
        cases hpk : (packI (readI l) == l) with
        | false =>
          have HNO : Hid (isI l = false) := Lib.hid (by simp [isI, hpk])
          have HP := Lib.hid (PackInode_yes (readI l) wr hok)
          have hE : ((strOfNums (packI (readI l))).toList == (strOfNums l).toList) = false := by rw [eqs_tells HB.out, hpk]
          clear hok hpk
          go_wp2_with (go_at_call 10; (with_reducible refine HP.out.mono ?_); rintro e w5 ⟨v5, rfl, hR5, hb5⟩; obtain ⟨A5, c5, rfl⟩ := Kd.R_slice hR5; have HC5 := Lib.hid (Kd.C_below HCw.out hb5); have hv5 := Kd.C_string (P := Try.prog) Try.underlying26 Try.underlying5 Try.underlying9 (c := c5) (Kd.R_reads' hR5).2.2; have hv0 := C_string64 (c := c0) HL.out HC5.out; have HR5 := Lib.hid (HR.out.below hb5); have hz5 := HR5.out.z; obtain ⟨z0, z1, z2, z3, z4, z5, z6, z7, z8, z9, z10, z11, z12⟩ := cells13 hz5; have hfz := fun j => blk_frozen hz5 j; clear hR5 hb5 hz5)
          refine bodyPost_ret (v := .tuple #[.agg Ino.zero.cells, .bool false]) ?_ rfl ?_
          · refine Eq.trans (results_ct (p := 2) (u := 3) rfl _ _ w.heap.size 24 Ino.zero.cells (0, 0) _ ?_ (set13 Ino.zero HR5.out.z) Try.underlying24 rfl info24) ?_
            · rfl
            · rfl
          · exact readQ_no HNO.out (below13 Ino.zero HR5.out.bel (Nat.le_refl _))
        | true =>
          have HYES : Hid (isI l = true) := Lib.hid (by simp [isI, hpk, hok, HL.out])
          have HP := Lib.hid (PackInode_yes (readI l) wr hok)
          have hE : ((strOfNums (packI (readI l))).toList == (strOfNums l).toList) = true := by rw [eqs_tells HB.out, hpk]
          clear hok hpk
          go_wp2_with (go_at_call 10; (with_reducible refine HP.out.mono ?_); rintro e w5 ⟨v5, rfl, hR5, hb5⟩; obtain ⟨A5, c5, rfl⟩ := Kd.R_slice hR5; have HC5 := Lib.hid (Kd.C_below HCw.out hb5); have hv5 := Kd.C_string (P := Try.prog) Try.underlying26 Try.underlying5 Try.underlying9 (c := c5) (Kd.R_reads' hR5).2.2; have hv0 := C_string64 (c := c0) HL.out HC5.out; have HR5 := Lib.hid (HR.out.below hb5); have hz5 := HR5.out.z; obtain ⟨z0, z1, z2, z3, z4, z5, z6, z7, z8, z9, z10, z11, z12⟩ := cells13 hz5; have hfz := fun j => blk_frozen hz5 j; obtain ⟨y0, y1, y2, y3, y4, y5, y6, y7, y8, y9, y10, y11, y12⟩ := cells13 HR5.out.b; clear hR5 hb5 hz5)
          refine bodyPost_ret (v := .tuple #[.agg (readI l).cells, .bool true]) ?_ rfl ?_
          · refine Eq.trans (results_ct (p := 2) (u := 3) rfl _ _ w.heap.size 24 (readI l).cells (0, 0) _ ?_ (set13 (readI l) HR5.out.z) Try.underlying24 rfl info24) ?_
            · rfl
            · rfl
          · exact readQ_yes HYES.out (below13 (readI l) HR5.out.bel (Nat.le_refl _))
end Go.Proofs.Ytdjncafofcpoiaa.Given
