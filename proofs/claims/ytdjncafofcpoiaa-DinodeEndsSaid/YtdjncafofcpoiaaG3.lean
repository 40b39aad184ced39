/- lockgateref1.PackInode: what it answers, for every inode. -/
import Derived.Test.YtdjncafofcpoiaaG2
namespace Go.Proofs.Ytdjncafofcpoiaa.Given
open Go.RowKit Go.Proofs.YtdjncafofcpoiaaW.PrintWords Go.Proofs.YtdjncafofcpoiaaW.PrintLast Go.Proofs.YtdjncafofcpoiaaW.PrintMore Go.Proofs.YtdjncafofcpoiaaBase Go.Proofs.Ytdjncafofcpoiaa.PDFns
set_option linter.unusedVariables false
set_option linter.unusedSimpArgs false
attribute [local go_sem ↓] neq24z zero24

/-- a row of bytes of one's own beside the inode's block -/
structure PK (w : World) (B : Nat) (x : Ino) (W : World) (v : Value) (L : List Int) : Prop where
  R : Kd.R (Kd.int .u8) 5 W w.heap.size (fun k => k ≠ B) v L
  b : W.heap[B]? = some (.cells x.cells 24)
  w : Below w.heap.size w W
theorem PK.drewN {w : World} {B : Nat} {x : Ino} {W : World} {v : Value} {L : List Int} (h : PK w B x W v L) (n : Nat) : PK w B x (W.drewN n) v L := ⟨Kd.R_drewN h.R n, blk_drewN h.b n, pw_below_drewN h.w n⟩
theorem PK.drew {w : World} {B : Nat} {x : Ino} {W : World} {v : Value} {L : List Int} (h : PK w B x W v L) : PK w B x W.drew v L := ⟨Kd.R_drew h.R, h.b, below_drew h.w⟩
theorem PK.nil {w : World} {B : Nat} {x : Ino} {W : World} (hb : W.heap[B]? = some (.cells x.cells 24)) (hw : Below w.heap.size w W) : PK w B x W (.slice none 0 0) [] := ⟨Kd.R_nil _ _ _ _ _, hb, hw⟩
def PKp (w : World) (B : Nat) (x : Ino) (r : List Int) (n : Nat) (e : Ending) (w' : World) : Prop := ∃ A c, e = .returned (.slice A n c) ∧ Hid (PK w B x w' (.slice A n c) r)
theorem put_keep {w : World} {B : Nat} {x : Ino} {W : World} {v : Value} {L : List Int} (h : PK w B x W v L) (a m : Int) (r : List Int) (n : Nat) (hn : r.length = n) (hp : lockgateref1_put.f 5 L a m = some r) : Calls Try.prog 21 #[v, .int .i64 a, .int .i64 m] W (PKp w B x r n) := by
  refine (lockgateref1_put.calls 5 (fun k => k ≠ B) v L a m r w W h.w h.R hp).mono ?_
  rintro e w' ⟨v', rfl, hR, hb, hk⟩
  obtain ⟨A, c, rfl⟩ := Kd.R_slice hR
  subst hn
  refine ⟨A, c, rfl, Lib.hid ⟨Kd.R_mono hR (fun k hk => ?_), ?_, hb⟩⟩
  · rcases hk with hk | hk
    · exact hk
    · have := blk_lt h.b; omega
  · exact (hk.2 B (blk_lt h.b) (by simp)).trans h.b
theorem fill_keep {w : World} {B : Nat} {x : Ino} {W : World} {v : Value} {L : List Int} (h : PK w B x W v L) (a : Int) (r : List Int) (n : Nat) (hn : r.length = n) (hp : lockgateref1_fill.f L a = some r) : Calls Try.prog 22 #[v, .int .i64 a] W (PKp w B x r n) := by
  refine (lockgateref1_fill.calls (fun k => k ≠ B) v L a r w W h.w h.R hp).mono ?_
  rintro e w' ⟨v', rfl, hR, hb, hk⟩
  obtain ⟨A, c, rfl⟩ := Kd.R_slice hR
  subst hn
  refine ⟨A, c, rfl, Lib.hid ⟨Kd.R_mono hR (fun k hk => ?_), ?_, hb⟩⟩
  · rcases hk with hk | hk
    · exact hk
    · have := blk_lt h.b; omega
  · exact (hk.2 B (blk_lt h.b) (by simp)).trans h.b
def dAt (x : Ino) (k : Nat) : Int := x.ds.getD k 0
theorem cell_ds {x : Ino} {B : Nat} {W : World} (hW : W.heap[B]? = some (.cells x.cells 24)) (k : Nat) (hk : k < 8) : W.cell? ⟨B, 3 + k, none⟩ = some (.int .i64 (dAt x k)) := by
  rw [blk_cell hW]
  match k, hk with
  | 0, _ => rfl
  | 1, _ => rfl
  | 2, _ => rfl
  | 3, _ => rfl
  | 4, _ => rfl
  | 5, _ => rfl
  | 6, _ => rfl
  | 7, _ => rfl
def headD (x : Ino) (k : Nat) : List Int := headI x ++ (x.ds.take k).flatMap num4
theorem headD_len (x : Ino) (k : Nat) (hk : k ≤ 8) : (headD x k).length = 8 + 4 * k := by
  have : ∀ q : List Int, (q.flatMap num4).length = 4 * q.length := fun q => by
    induction q with
    | nil => rfl
    | cons y q ih => rw [List.flatMap_cons, List.length_append, ih, List.length_cons]; show 4 + _ = _; omega
  unfold headD
  rw [List.length_append, this, List.length_take]
  show 8 + _ = _
  have : x.ds.length = 8 := rfl
  omega
theorem headD_succ (x : Ino) (k : Nat) (hk : k < 8) : headD x (k + 1) = headD x k ++ num4 (dAt x k) := by
  unfold headD dAt
  have hl : k < x.ds.length := hk
  rw [List.take_succ_eq_append_getElem hl, List.flatMap_append, List.append_assoc, List.getD_eq_getElem?_getD, List.getElem?_eq_getElem hl]
  simp
theorem headD_all (x : Ino) : headD x 8 ++ num4 x.n ++ num4 x.m ++ List.replicate 16 0 = packI x := by
  simp [headD, packI, bodyI, headI, Ino.ds]

/-- what PackInode answers -/
def PackedR (x : Ino) (w : World) (e : Ending) (w' : World) : Prop := ∃ v, e = .returned (.tuple #[v, .bool (okI x)]) ∧ Kd.R (Kd.int .u8) 5 w' w.heap.size (fun _ => True) v (if okI x = true then packI x else []) ∧ Below w.heap.size w w'
theorem packedR_no {x : Ino} {w w' : World} (h : okI x = false) (hb : Below w.heap.size w w') : PackedR x w (.returned (.tuple #[.slice none 0 0, .bool false])) w' := ⟨_, by rw [h], by rw [h]; exact Kd.R_nil _ _ _ _ _, hb⟩

set_option maxRecDepth 100000 in
set_option maxHeartbeats 2000000 in
theorem PackInode_all (x : Ino) (w : World) : Calls Try.prog 10 #[.agg x.cells] w (PackedR x w) := by
  by_cases c1 : x.k < 0
  · have hno : okI x = false := by
      have : kindOk x = false := decide_eq_false (by omega)
      simp [okI, this]
    have HNO := Lib.hid hno
    clear hno
    unfold Ino.cells
    go_enter Try.func10, Try.ntmps10
    go_wp2
    go_ret2
    exact packedR_no HNO.out (by repeat (first | exact Below.refl _ _ | apply pw_below_drewN | apply below_alloc))
  by_cases c2 : x.k > 2
  · have hno : okI x = false := by
      have : kindOk x = false := decide_eq_false (by omega)
      simp [okI, this]
    have HNO := Lib.hid hno
    clear hno
    unfold Ino.cells
    go_enter Try.func10, Try.ntmps10
    go_wp2
    go_ret2
    exact packedR_no HNO.out (by repeat (first | exact Below.refl _ _ | apply pw_below_drewN | apply below_alloc))
  have hk1 : kindOk x = true := decide_eq_true (by omega)
  have HK1 := Lib.hid hk1
  clear hk1
  cases hfree : freeOk x with
  | false =>
    have hno : okI x = false := by simp [okI, hfree]
    have HNO := Lib.hid hno
    have hkb : (x.k == 0) = true := by
      unfold freeOk at hfree
      cases hh : (x.k == 0) with
      | true => rfl
      | false => rw [hh] at hfree; simp at hfree
    have hq : eqI x Ino.zero = false := by
      unfold freeOk at hfree
      rw [hkb] at hfree
      simpa using hfree
    clear hno hfree
    unfold Ino.cells
    go_enter Try.func10, Try.ntmps10
    go_wp2
    go_ret2
    exact packedR_no HNO.out (by repeat (first | exact Below.refl _ _ | apply pw_below_drewN | apply below_alloc))
  | true =>
    have HFREE := Lib.hid hfree
    cases hk : (x.k == 0) with
    | true =>
      have HKB := Lib.hid hk
      have HQZ : Hid (eqI x Ino.zero = true) := Lib.hid (by unfold freeOk at hfree; rw [hk] at hfree; simpa using hfree)
      clear hk hfree
      have hkb : (x.k == 0) = true := HKB.out
      have hq := HQZ.out
      clear HKB HQZ
      unfold Ino.cells
      cases b1 : fit2 x.l with
      | false =>
        have HNO : Hid (okI x = false) := Lib.hid (by simp [okI, b1])
        have F1 : Hid (lockgateref1_fits.f x.l 2 = some false) := Lib.hid (by rw [rfits2, b1])
        clear b1
        go_enter Try.func10, Try.ntmps10
        go_wp2_with (go_at_call 20; (with_reducible refine (lockgateref1_fits.calls x.l 2 false _ F1.out).mono ?_); rintro e w1 ⟨rfl, hd⟩; obtain ⟨n1, rfl⟩ := hd.out; clear hd)
        go_ret2
        exact packedR_no HNO.out (by repeat (first | exact Below.refl _ _ | apply pw_below_drewN | apply below_alloc))
      | true =>
      have F1 : Hid (lockgateref1_fits.f x.l 2 = some true) := Lib.hid (by rw [rfits2, b1])
      have QF1 := Lib.hid b1
      clear b1
      cases b2 : fit4 x.s with
      | false =>
        have HNO : Hid (okI x = false) := Lib.hid (by simp [okI, b2])
        have F2 : Hid (lockgateref1_fits.f x.s 4 = some false) := Lib.hid (by rw [rfits4, b2])
        clear b2
        go_enter Try.func10, Try.ntmps10
        go_wp2_with (first
          | (go_at_call 20; (with_reducible refine (lockgateref1_fits.calls x.l 2 true _ F1.out).mono ?_); rintro e w1 ⟨rfl, hd⟩; obtain ⟨n1, rfl⟩ := hd.out; clear hd)
          | (go_at_call 20; (with_reducible refine (lockgateref1_fits.calls x.s 4 false _ F2.out).mono ?_); rintro e w1 ⟨rfl, hd⟩; obtain ⟨n2, rfl⟩ := hd.out; clear hd))
        go_ret2
        exact packedR_no HNO.out (by repeat (first | exact Below.refl _ _ | apply pw_below_drewN | apply below_alloc))
      | true =>
      have F2 : Hid (lockgateref1_fits.f x.s 4 = some true) := Lib.hid (by rw [rfits4, b2])
      have QF2 := Lib.hid b2
      clear b2
      cases b3 : fit4 x.n with
      | false =>
        have HNO : Hid (okI x = false) := Lib.hid (by simp [okI, b3])
        have F3 : Hid (lockgateref1_fits.f x.n 4 = some false) := Lib.hid (by rw [rfits4, b3])
        clear b3
        go_enter Try.func10, Try.ntmps10
        go_wp2_with (first
          | (go_at_call 20; (with_reducible refine (lockgateref1_fits.calls x.l 2 true _ F1.out).mono ?_); rintro e w1 ⟨rfl, hd⟩; obtain ⟨n1, rfl⟩ := hd.out; clear hd)
          | (go_at_call 20; (with_reducible refine (lockgateref1_fits.calls x.s 4 true _ F2.out).mono ?_); rintro e w1 ⟨rfl, hd⟩; obtain ⟨n2, rfl⟩ := hd.out; clear hd)
          | (go_at_call 20; (with_reducible refine (lockgateref1_fits.calls x.n 4 false _ F3.out).mono ?_); rintro e w1 ⟨rfl, hd⟩; obtain ⟨n3, rfl⟩ := hd.out; clear hd))
        go_ret2
        exact packedR_no HNO.out (by repeat (first | exact Below.refl _ _ | apply pw_below_drewN | apply below_alloc))
      | true =>
      have F3 : Hid (lockgateref1_fits.f x.n 4 = some true) := Lib.hid (by rw [rfits4, b3])
      have QF3 := Lib.hid b3
      clear b3
      cases b4 : fit4 x.m with
      | false =>
        have HNO : Hid (okI x = false) := Lib.hid (by simp [okI, b4])
        have F4 : Hid (lockgateref1_fits.f x.m 4 = some false) := Lib.hid (by rw [rfits4, b4])
        clear b4
        go_enter Try.func10, Try.ntmps10
        go_wp2_with (first
          | (go_at_call 20; (with_reducible refine (lockgateref1_fits.calls x.l 2 true _ F1.out).mono ?_); rintro e w1 ⟨rfl, hd⟩; obtain ⟨n1, rfl⟩ := hd.out; clear hd)
          | (go_at_call 20; (with_reducible refine (lockgateref1_fits.calls x.s 4 true _ F2.out).mono ?_); rintro e w1 ⟨rfl, hd⟩; obtain ⟨n2, rfl⟩ := hd.out; clear hd)
          | (go_at_call 20; (with_reducible refine (lockgateref1_fits.calls x.n 4 true _ F3.out).mono ?_); rintro e w1 ⟨rfl, hd⟩; obtain ⟨n3, rfl⟩ := hd.out; clear hd)
          | (go_at_call 20; (with_reducible refine (lockgateref1_fits.calls x.m 4 false _ F4.out).mono ?_); rintro e w1 ⟨rfl, hd⟩; obtain ⟨n4, rfl⟩ := hd.out; clear hd))
        go_ret2
        exact packedR_no HNO.out (by repeat (first | exact Below.refl _ _ | apply pw_below_drewN | apply below_alloc))
      | true =>
      have F4 : Hid (lockgateref1_fits.f x.m 4 = some true) := Lib.hid (by rw [rfits4, b4])
      have QF4 := Lib.hid b4
      clear b4
      have Ea1 : Hid ((num2 x.k).length = 2) := Lib.hid rfl
      have Ea2 : Hid ((num2 x.k ++ num2 x.l).length = 4) := Lib.hid rfl
      have Ea3 : Hid ((num2 x.k ++ num2 x.l ++ num4 x.s).length = 8) := Lib.hid rfl
      have HP1 : Hid (lockgateref1_put.f 5 [] x.k 2 = some (num2 x.k)) := Lib.hid (put2 0 [] x.k (by simp))
      have HP2 : Hid (lockgateref1_put.f 5 (num2 x.k) x.l 2 = some (num2 x.k ++ num2 x.l)) := Lib.hid (put2 0 (num2 x.k) x.l (by simp [num2]))
      have HP3 : Hid (lockgateref1_put.f 5 (num2 x.k ++ num2 x.l) x.s 4 = some (num2 x.k ++ num2 x.l ++ num4 x.s)) := Lib.hid (put4 0 (num2 x.k ++ num2 x.l) x.s (by simp [num2]))
      go_enter Try.func10, Try.ntmps10
      go_wp2_with (first
        | (go_at_call 20; (with_reducible refine (lockgateref1_fits.calls x.l 2 true _ F1.out).mono ?_); rintro e w1 ⟨rfl, hd⟩; obtain ⟨n1, rfl⟩ := hd.out; clear hd)
        | (go_at_call 20; (with_reducible refine (lockgateref1_fits.calls x.s 4 true _ F2.out).mono ?_); rintro e w1 ⟨rfl, hd⟩; obtain ⟨n2, rfl⟩ := hd.out; clear hd)
        | (go_at_call 20; (with_reducible refine (lockgateref1_fits.calls x.n 4 true _ F3.out).mono ?_); rintro e w1 ⟨rfl, hd⟩; obtain ⟨n3, rfl⟩ := hd.out; clear hd)
        | (go_at_call 20; (with_reducible refine (lockgateref1_fits.calls x.m 4 true _ F4.out).mono ?_); rintro e w1 ⟨rfl, hd⟩; obtain ⟨n4, rfl⟩ := hd.out; clear hd))
      obtain ⟨B, hBB⟩ : ∃ B, B = w.heap.size := ⟨_, rfl⟩
      refine gen_world (fun W => W.heap[w.heap.size]? = some (.cells x.cells 24) ∧ Below w.heap.size w W) ⟨by repeat (first | exact blk_new _ _ | apply blk_drewN | apply blk_alloc), by repeat (first | exact Below.refl _ _ | apply pw_below_drewN | apply below_alloc)⟩ ?_
      rintro W ⟨hW, hBW⟩
      rw [← hBB] at hW ⊢
      have HQ := Lib.hid (PK.nil (w := w) (B := B) (x := x) (W := W.drew) hW (below_drew hBW))
      clear hBB hkb hq hW hBW F1 F2 F3 F4
      have CL : Hid (∀ V : World, V.heap[B]? = some (.cells x.cells 24) → V.cell? ⟨B, 0, none⟩ = some (.int .i64 x.k) ∧ V.cell? ⟨B, 1, none⟩ = some (.int .i64 x.l) ∧ V.cell? ⟨B, 2, none⟩ = some (.int .i64 x.s)) := Lib.hid fun V h => ⟨(blk_cell h 0).trans rfl, (blk_cell h 1).trans rfl, (blk_cell h 2).trans rfl⟩
      have hS0 := CL.out W.drew HQ.out.b
      go_region_held3 (fun V => V.cell? ⟨B, 0, none⟩ = some (.int .i64 x.k) ∧ V.cell? ⟨B, 1, none⟩ = some (.int .i64 x.l) ∧ V.cell? ⟨B, 2, none⟩ = some (.int .i64 x.s)) (first | exact hS0 | exact hS3 | exact hS2 | exact hS1)
        (first
          | (go_at_call 21; (with_reducible refine (put_keep HQ.out x.k 2 (num2 x.k) 2 Ea1.out HP1.out).mono ?_); rintro e w1 ⟨A1, c1, rfl, HQ1⟩; have hS1 := CL.out w1 HQ1.out.b)
          | (go_at_call 21; (with_reducible refine (put_keep HQ1.out x.l 2 (num2 x.k ++ num2 x.l) 4 Ea2.out HP2.out).mono ?_); rintro e w2 ⟨A2, c2, rfl, HQ2⟩; have hS2 := CL.out w2 HQ2.out.b)
          | (go_at_call 21; (with_reducible refine (put_keep HQ2.out x.s 4 (num2 x.k ++ num2 x.l ++ num4 x.s) 8 Ea3.out HP3.out).mono ?_); rintro e w3 ⟨A3, c3, rfl, HQ3⟩; have hS3 := CL.out w3 HQ3.out.b))
      have HQ4 : Hid (PK w B x w3 (.slice A3 (8 + 4 * 0) c3) (headD x 0)) := HQ3
      clear HQ HQ1 HQ2 HQ3 hS0 hS1 hS2 hS3 CL HP1 HP2 HP3
      go_wp2_with fail
      go_loopw [4, 5] (fun v i wr => ∃ (k : Nat) (A : Option Addr) (c : Nat), k ≤ 8 ∧ i = .int .i64 (k : Int) ∧ v = .slice A (8 + 4 * k) c ∧ Hid (PK w B x wr (.slice A (8 + 4 * k) c) (headD x k)) ∧ Hid (∀ j, j < k → fit4 (dAt x j) = true)) (fun _ i _ => 8 - (intOf i).toNat)
      case atStart => exact ⟨0, A3, c3, by omega, rfl, rfl, HQ4, Lib.hid (fun j hj => by omega)⟩
      case round =>
        obtain ⟨k, A, c, hk, rfl, rfl, HR, HF⟩ := hrel
        by_cases hlt : k < 8
        · have hlt' : (k : Int) < 8 := by omega
          have hcd := cell_ds HR.out.b k hlt
          cases hb : fit4 (dAt x k) with
          | false =>
            have F5 : Hid (lockgateref1_fits.f (dAt x k) 4 = some false) := Lib.hid (by rw [rfits4, hb])
            have HNO : Hid (okI x = false) := Lib.hid (by
              have : x.ds.all fit4 = false := by
                rw [List.all_eq_false]
                have hl : k < x.ds.length := hlt
                refine ⟨x.ds[k], List.getElem_mem hl, ?_⟩
                have e : dAt x k = x.ds[k] := by unfold dAt; rw [List.getD_eq_getElem?_getD, List.getElem?_eq_getElem hl]; rfl
                rw [← e, hb]; simp
              simp [okI, this])
            clear hb
            go_wp2_with (go_at_call 20; (with_reducible refine (lockgateref1_fits.calls _ 4 false _ F5.out).mono ?_); rintro e w1 ⟨rfl, hd⟩; obtain ⟨n1, rfl⟩ := hd.out; clear hd)
            go_ret2
            exact packedR_no HNO.out (pw_below_drewN HR.out.w _)
          | true =>
            have F5 : Hid (lockgateref1_fits.f (dAt x k) 4 = some true) := Lib.hid (by rw [rfits4, hb])
            have HF2 : Hid (∀ j, j < k + 1 → fit4 (dAt x j) = true) := Lib.hid (fun j hj => by
              by_cases e : j = k
              · subst e; exact hb
              · exact HF.out j (by omega))
            clear hb
            have HP : Hid (lockgateref1_put.f 5 (headD x k) (dAt x k) 4 = some (headD x k ++ num4 (dAt x k))) := Lib.hid (put4 0 (headD x k) (dAt x k) (by rw [headD_len x k hk]; omega))
            go_wp2_with (first
              | (go_at_call 20; (with_reducible refine (lockgateref1_fits.calls _ 4 true _ F5.out).mono ?_); rintro e w1 ⟨rfl, hd⟩; obtain ⟨n1, rfl⟩ := hd.out; clear hd)
              | (go_at_call 21; (with_reducible refine (put_keep (HR.out.drewN n1) (dAt x k) 4 (headD x k ++ num4 (dAt x k)) (8 + 4 * (k + 1)) ?a5 HP.out).mono ?_); (case a5 => rw [← headD_succ x k hlt]; exact headD_len x (k + 1) (by omega)); rintro e w5 ⟨A5, c5, rfl, HQ5⟩; rw [← headD_succ x k hlt] at HQ5))
            go_roundw
            case rel => exact ⟨k + 1, A5, c5, by omega, by go_num, rfl, HQ5, HF2⟩
            case measure => simp [intOf]; omega
        · obtain rfl : k = 8 := by omega
          have HOK : Hid (okI x = true) := Lib.hid (by
            have : x.ds.all fit4 = true := List.all_eq_true.2 fun y hy => by
              obtain ⟨j, hj, rfl⟩ := List.mem_iff_getElem.1 hy
              have := HF.out j hj
              unfold dAt at this
              rw [List.getD_eq_getElem?_getD, List.getElem?_eq_getElem hj] at this
              exact this
            simp [okI, this, HK1.out, HFREE.out, QF1.out, QF2.out, QF3.out, QF4.out])
          have Ea6 : Hid ((headD x 8 ++ num4 x.n).length = 44) := Lib.hid (by rw [List.length_append, headD_len x 8 (by omega)]; rfl)
          have Ea7 : Hid ((headD x 8 ++ num4 x.n ++ num4 x.m).length = 48) := Lib.hid (by rw [List.length_append, List.length_append, headD_len x 8 (by omega)]; rfl)
          have HP6 : Hid (lockgateref1_put.f 5 (headD x 8) x.n 4 = some (headD x 8 ++ num4 x.n)) := Lib.hid (put4 0 (headD x 8) x.n (by rw [headD_len x 8 (by omega)]; omega))
          have HP7 : Hid (lockgateref1_put.f 5 (headD x 8 ++ num4 x.n) x.m 4 = some (headD x 8 ++ num4 x.n ++ num4 x.m)) := Lib.hid (put4 0 (headD x 8 ++ num4 x.n) x.m (by rw [List.length_append, headD_len x 8 (by omega)]; simp [num4]))
          have HP8 : Hid (lockgateref1_fill.f (headD x 8 ++ num4 x.n ++ num4 x.m) 64 = some (packI x)) := Lib.hid (by
            have hl : (headD x 8 ++ num4 x.n ++ num4 x.m).length = 48 := by rw [List.length_append, List.length_append, headD_len x 8 (by omega)]; rfl
            rw [show (64 : Int) = ((64 : Nat) : Int) from rfl, fill_at _ 64 (by omega) (by omega), hl, ← headD_all x])
          have CL2 : Hid (∀ V : World, V.heap[B]? = some (.cells x.cells 24) → V.cell? ⟨B, 11, none⟩ = some (.int .i64 x.n) ∧ V.cell? ⟨B, 12, none⟩ = some (.int .i64 x.m)) := Lib.hid fun V h => ⟨(blk_cell h 11).trans rfl, (blk_cell h 12).trans rfl⟩
          have hS0 := CL2.out _ HR.out.drew.b
          go_wp2_with fail
          go_region_held3 (fun V => V.cell? ⟨B, 11, none⟩ = some (.int .i64 x.n) ∧ V.cell? ⟨B, 12, none⟩ = some (.int .i64 x.m)) (first | exact hS0 | exact hS8 | exact hS7 | exact hS6)
            (first
              | (go_at_call 21; (with_reducible refine (put_keep HR.out.drew x.n 4 (headD x 8 ++ num4 x.n) 44 Ea6.out HP6.out).mono ?_); rintro e w6 ⟨A6, c6, rfl, HQ6⟩; have hS6 := CL2.out w6 HQ6.out.b)
              | (go_at_call 21; (with_reducible refine (put_keep HQ6.out x.m 4 (headD x 8 ++ num4 x.n ++ num4 x.m) 48 Ea7.out HP7.out).mono ?_); rintro e w7 ⟨A7, c7, rfl, HQ7⟩; have hS7 := CL2.out w7 HQ7.out.b)
              | (go_at_call 22; (with_reducible refine (fill_keep HQ7.out 64 (packI x) 64 (pack_len x) HP8.out).mono ?_); rintro e w8 ⟨A8, c8, rfl, HQ8⟩; have hS8 := CL2.out w8 HQ8.out.b))
          go_wp2_with fail
          go_ret2
          exact ⟨.slice A8 64 c8, by rw [HOK.out]; rfl, by rw [HOK.out]; exact Kd.R_mono HQ8.out.R (fun _ _ => trivial), HQ8.out.w⟩
    | false =>
      have HKB := Lib.hid hk
      clear hk hfree
      have hkb : (x.k == 0) = false := HKB.out
      have hq : True := trivial
      clear HKB
      unfold Ino.cells
      cases b1 : fit2 x.l with
      | false =>
        have HNO : Hid (okI x = false) := Lib.hid (by simp [okI, b1])
        have F1 : Hid (lockgateref1_fits.f x.l 2 = some false) := Lib.hid (by rw [rfits2, b1])
        clear b1
        go_enter Try.func10, Try.ntmps10
        go_wp2_with (go_at_call 20; (with_reducible refine (lockgateref1_fits.calls x.l 2 false _ F1.out).mono ?_); rintro e w1 ⟨rfl, hd⟩; obtain ⟨n1, rfl⟩ := hd.out; clear hd)
        go_ret2
        exact packedR_no HNO.out (by repeat (first | exact Below.refl _ _ | apply pw_below_drewN | apply below_alloc))
      | true =>
      have F1 : Hid (lockgateref1_fits.f x.l 2 = some true) := Lib.hid (by rw [rfits2, b1])
      have QF1 := Lib.hid b1
      clear b1
      cases b2 : fit4 x.s with
      | false =>
        have HNO : Hid (okI x = false) := Lib.hid (by simp [okI, b2])
        have F2 : Hid (lockgateref1_fits.f x.s 4 = some false) := Lib.hid (by rw [rfits4, b2])
        clear b2
        go_enter Try.func10, Try.ntmps10
        go_wp2_with (first
          | (go_at_call 20; (with_reducible refine (lockgateref1_fits.calls x.l 2 true _ F1.out).mono ?_); rintro e w1 ⟨rfl, hd⟩; obtain ⟨n1, rfl⟩ := hd.out; clear hd)
          | (go_at_call 20; (with_reducible refine (lockgateref1_fits.calls x.s 4 false _ F2.out).mono ?_); rintro e w1 ⟨rfl, hd⟩; obtain ⟨n2, rfl⟩ := hd.out; clear hd))
        go_ret2
        exact packedR_no HNO.out (by repeat (first | exact Below.refl _ _ | apply pw_below_drewN | apply below_alloc))
      | true =>
      have F2 : Hid (lockgateref1_fits.f x.s 4 = some true) := Lib.hid (by rw [rfits4, b2])
      have QF2 := Lib.hid b2
      clear b2
      cases b3 : fit4 x.n with
      | false =>
        have HNO : Hid (okI x = false) := Lib.hid (by simp [okI, b3])
        have F3 : Hid (lockgateref1_fits.f x.n 4 = some false) := Lib.hid (by rw [rfits4, b3])
        clear b3
        go_enter Try.func10, Try.ntmps10
        go_wp2_with (first
          | (go_at_call 20; (with_reducible refine (lockgateref1_fits.calls x.l 2 true _ F1.out).mono ?_); rintro e w1 ⟨rfl, hd⟩; obtain ⟨n1, rfl⟩ := hd.out; clear hd)
          | (go_at_call 20; (with_reducible refine (lockgateref1_fits.calls x.s 4 true _ F2.out).mono ?_); rintro e w1 ⟨rfl, hd⟩; obtain ⟨n2, rfl⟩ := hd.out; clear hd)
          | (go_at_call 20; (with_reducible refine (lockgateref1_fits.calls x.n 4 false _ F3.out).mono ?_); rintro e w1 ⟨rfl, hd⟩; obtain ⟨n3, rfl⟩ := hd.out; clear hd))
        go_ret2
        exact packedR_no HNO.out (by repeat (first | exact Below.refl _ _ | apply pw_below_drewN | apply below_alloc))
      | true =>
      have F3 : Hid (lockgateref1_fits.f x.n 4 = some true) := Lib.hid (by rw [rfits4, b3])
      have QF3 := Lib.hid b3
      clear b3
      cases b4 : fit4 x.m with
      | false =>
        have HNO : Hid (okI x = false) := Lib.hid (by simp [okI, b4])
        have F4 : Hid (lockgateref1_fits.f x.m 4 = some false) := Lib.hid (by rw [rfits4, b4])
        clear b4
        go_enter Try.func10, Try.ntmps10
        go_wp2_with (first
          | (go_at_call 20; (with_reducible refine (lockgateref1_fits.calls x.l 2 true _ F1.out).mono ?_); rintro e w1 ⟨rfl, hd⟩; obtain ⟨n1, rfl⟩ := hd.out; clear hd)
          | (go_at_call 20; (with_reducible refine (lockgateref1_fits.calls x.s 4 true _ F2.out).mono ?_); rintro e w1 ⟨rfl, hd⟩; obtain ⟨n2, rfl⟩ := hd.out; clear hd)
          | (go_at_call 20; (with_reducible refine (lockgateref1_fits.calls x.n 4 true _ F3.out).mono ?_); rintro e w1 ⟨rfl, hd⟩; obtain ⟨n3, rfl⟩ := hd.out; clear hd)
          | (go_at_call 20; (with_reducible refine (lockgateref1_fits.calls x.m 4 false _ F4.out).mono ?_); rintro e w1 ⟨rfl, hd⟩; obtain ⟨n4, rfl⟩ := hd.out; clear hd))
        go_ret2
        exact packedR_no HNO.out (by repeat (first | exact Below.refl _ _ | apply pw_below_drewN | apply below_alloc))
      | true =>
      have F4 : Hid (lockgateref1_fits.f x.m 4 = some true) := Lib.hid (by rw [rfits4, b4])
      have QF4 := Lib.hid b4
      clear b4
      have Ea1 : Hid ((num2 x.k).length = 2) := Lib.hid rfl
      have Ea2 : Hid ((num2 x.k ++ num2 x.l).length = 4) := Lib.hid rfl
      have Ea3 : Hid ((num2 x.k ++ num2 x.l ++ num4 x.s).length = 8) := Lib.hid rfl
      have HP1 : Hid (lockgateref1_put.f 5 [] x.k 2 = some (num2 x.k)) := Lib.hid (put2 0 [] x.k (by simp))
      have HP2 : Hid (lockgateref1_put.f 5 (num2 x.k) x.l 2 = some (num2 x.k ++ num2 x.l)) := Lib.hid (put2 0 (num2 x.k) x.l (by simp [num2]))
      have HP3 : Hid (lockgateref1_put.f 5 (num2 x.k ++ num2 x.l) x.s 4 = some (num2 x.k ++ num2 x.l ++ num4 x.s)) := Lib.hid (put4 0 (num2 x.k ++ num2 x.l) x.s (by simp [num2]))
      go_enter Try.func10, Try.ntmps10
      go_wp2_with (first
        | (go_at_call 20; (with_reducible refine (lockgateref1_fits.calls x.l 2 true _ F1.out).mono ?_); rintro e w1 ⟨rfl, hd⟩; obtain ⟨n1, rfl⟩ := hd.out; clear hd)
        | (go_at_call 20; (with_reducible refine (lockgateref1_fits.calls x.s 4 true _ F2.out).mono ?_); rintro e w1 ⟨rfl, hd⟩; obtain ⟨n2, rfl⟩ := hd.out; clear hd)
        | (go_at_call 20; (with_reducible refine (lockgateref1_fits.calls x.n 4 true _ F3.out).mono ?_); rintro e w1 ⟨rfl, hd⟩; obtain ⟨n3, rfl⟩ := hd.out; clear hd)
        | (go_at_call 20; (with_reducible refine (lockgateref1_fits.calls x.m 4 true _ F4.out).mono ?_); rintro e w1 ⟨rfl, hd⟩; obtain ⟨n4, rfl⟩ := hd.out; clear hd))
      obtain ⟨B, hBB⟩ : ∃ B, B = w.heap.size := ⟨_, rfl⟩
      refine gen_world (fun W => W.heap[w.heap.size]? = some (.cells x.cells 24) ∧ Below w.heap.size w W) ⟨by repeat (first | exact blk_new _ _ | apply blk_drewN | apply blk_alloc), by repeat (first | exact Below.refl _ _ | apply pw_below_drewN | apply below_alloc)⟩ ?_
      rintro W ⟨hW, hBW⟩
      rw [← hBB] at hW ⊢
      have HQ := Lib.hid (PK.nil (w := w) (B := B) (x := x) (W := W.drew) hW (below_drew hBW))
      clear hBB hkb hq hW hBW F1 F2 F3 F4
      have CL : Hid (∀ V : World, V.heap[B]? = some (.cells x.cells 24) → V.cell? ⟨B, 0, none⟩ = some (.int .i64 x.k) ∧ V.cell? ⟨B, 1, none⟩ = some (.int .i64 x.l) ∧ V.cell? ⟨B, 2, none⟩ = some (.int .i64 x.s)) := Lib.hid fun V h => ⟨(blk_cell h 0).trans rfl, (blk_cell h 1).trans rfl, (blk_cell h 2).trans rfl⟩
      have hS0 := CL.out W.drew HQ.out.b
      go_region_held3 (fun V => V.cell? ⟨B, 0, none⟩ = some (.int .i64 x.k) ∧ V.cell? ⟨B, 1, none⟩ = some (.int .i64 x.l) ∧ V.cell? ⟨B, 2, none⟩ = some (.int .i64 x.s)) (first | exact hS0 | exact hS3 | exact hS2 | exact hS1)
        (first
          | (go_at_call 21; (with_reducible refine (put_keep HQ.out x.k 2 (num2 x.k) 2 Ea1.out HP1.out).mono ?_); rintro e w1 ⟨A1, c1, rfl, HQ1⟩; have hS1 := CL.out w1 HQ1.out.b)
          | (go_at_call 21; (with_reducible refine (put_keep HQ1.out x.l 2 (num2 x.k ++ num2 x.l) 4 Ea2.out HP2.out).mono ?_); rintro e w2 ⟨A2, c2, rfl, HQ2⟩; have hS2 := CL.out w2 HQ2.out.b)
          | (go_at_call 21; (with_reducible refine (put_keep HQ2.out x.s 4 (num2 x.k ++ num2 x.l ++ num4 x.s) 8 Ea3.out HP3.out).mono ?_); rintro e w3 ⟨A3, c3, rfl, HQ3⟩; have hS3 := CL.out w3 HQ3.out.b))
      have HQ4 : Hid (PK w B x w3 (.slice A3 (8 + 4 * 0) c3) (headD x 0)) := HQ3
      clear HQ HQ1 HQ2 HQ3 hS0 hS1 hS2 hS3 CL HP1 HP2 HP3
      go_wp2_with fail
      go_loopw [4, 5] (fun v i wr => ∃ (k : Nat) (A : Option Addr) (c : Nat), k ≤ 8 ∧ i = .int .i64 (k : Int) ∧ v = .slice A (8 + 4 * k) c ∧ Hid (PK w B x wr (.slice A (8 + 4 * k) c) (headD x k)) ∧ Hid (∀ j, j < k → fit4 (dAt x j) = true)) (fun _ i _ => 8 - (intOf i).toNat)
      case atStart => exact ⟨0, A3, c3, by omega, rfl, rfl, HQ4, Lib.hid (fun j hj => by omega)⟩
      case round =>
        obtain ⟨k, A, c, hk, rfl, rfl, HR, HF⟩ := hrel
        by_cases hlt : k < 8
        · have hlt' : (k : Int) < 8 := by omega
          have hcd := cell_ds HR.out.b k hlt
          cases hb : fit4 (dAt x k) with
          | false =>
            have F5 : Hid (lockgateref1_fits.f (dAt x k) 4 = some false) := Lib.hid (by rw [rfits4, hb])
            have HNO : Hid (okI x = false) := Lib.hid (by
              have : x.ds.all fit4 = false := by
                rw [List.all_eq_false]
                have hl : k < x.ds.length := hlt
                refine ⟨x.ds[k], List.getElem_mem hl, ?_⟩
                have e : dAt x k = x.ds[k] := by unfold dAt; rw [List.getD_eq_getElem?_getD, List.getElem?_eq_getElem hl]; rfl
                rw [← e, hb]; simp
              simp [okI, this])
            clear hb
            go_wp2_with (go_at_call 20; (with_reducible refine (lockgateref1_fits.calls _ 4 false _ F5.out).mono ?_); rintro e w1 ⟨rfl, hd⟩; obtain ⟨n1, rfl⟩ := hd.out; clear hd)
            go_ret2
            exact packedR_no HNO.out (pw_below_drewN HR.out.w _)
          | true =>
            have F5 : Hid (lockgateref1_fits.f (dAt x k) 4 = some true) := Lib.hid (by rw [rfits4, hb])
            have HF2 : Hid (∀ j, j < k + 1 → fit4 (dAt x j) = true) := Lib.hid (fun j hj => by
              by_cases e : j = k
              · subst e; exact hb
              · exact HF.out j (by omega))
            clear hb
            have HP : Hid (lockgateref1_put.f 5 (headD x k) (dAt x k) 4 = some (headD x k ++ num4 (dAt x k))) := Lib.hid (put4 0 (headD x k) (dAt x k) (by rw [headD_len x k hk]; omega))
            go_wp2_with (first
              | (go_at_call 20; (with_reducible refine (lockgateref1_fits.calls _ 4 true _ F5.out).mono ?_); rintro e w1 ⟨rfl, hd⟩; obtain ⟨n1, rfl⟩ := hd.out; clear hd)
              | (go_at_call 21; (with_reducible refine (put_keep (HR.out.drewN n1) (dAt x k) 4 (headD x k ++ num4 (dAt x k)) (8 + 4 * (k + 1)) ?a5 HP.out).mono ?_); (case a5 => rw [← headD_succ x k hlt]; exact headD_len x (k + 1) (by omega)); rintro e w5 ⟨A5, c5, rfl, HQ5⟩; rw [← headD_succ x k hlt] at HQ5))
            go_roundw
            case rel => exact ⟨k + 1, A5, c5, by omega, by go_num, rfl, HQ5, HF2⟩
            case measure => simp [intOf]; omega
        · obtain rfl : k = 8 := by omega
          have HOK : Hid (okI x = true) := Lib.hid (by
            have : x.ds.all fit4 = true := List.all_eq_true.2 fun y hy => by
              obtain ⟨j, hj, rfl⟩ := List.mem_iff_getElem.1 hy
              have := HF.out j hj
              unfold dAt at this
              rw [List.getD_eq_getElem?_getD, List.getElem?_eq_getElem hj] at this
              exact this
            simp [okI, this, HK1.out, HFREE.out, QF1.out, QF2.out, QF3.out, QF4.out])
          have Ea6 : Hid ((headD x 8 ++ num4 x.n).length = 44) := Lib.hid (by rw [List.length_append, headD_len x 8 (by omega)]; rfl)
          have Ea7 : Hid ((headD x 8 ++ num4 x.n ++ num4 x.m).length = 48) := Lib.hid (by rw [List.length_append, List.length_append, headD_len x 8 (by omega)]; rfl)
          have HP6 : Hid (lockgateref1_put.f 5 (headD x 8) x.n 4 = some (headD x 8 ++ num4 x.n)) := Lib.hid (put4 0 (headD x 8) x.n (by rw [headD_len x 8 (by omega)]; omega))
          have HP7 : Hid (lockgateref1_put.f 5 (headD x 8 ++ num4 x.n) x.m 4 = some (headD x 8 ++ num4 x.n ++ num4 x.m)) := Lib.hid (put4 0 (headD x 8 ++ num4 x.n) x.m (by rw [List.length_append, headD_len x 8 (by omega)]; simp [num4]))
          have HP8 : Hid (lockgateref1_fill.f (headD x 8 ++ num4 x.n ++ num4 x.m) 64 = some (packI x)) := Lib.hid (by
            have hl : (headD x 8 ++ num4 x.n ++ num4 x.m).length = 48 := by rw [List.length_append, List.length_append, headD_len x 8 (by omega)]; rfl
            rw [show (64 : Int) = ((64 : Nat) : Int) from rfl, fill_at _ 64 (by omega) (by omega), hl, ← headD_all x])
          have CL2 : Hid (∀ V : World, V.heap[B]? = some (.cells x.cells 24) → V.cell? ⟨B, 11, none⟩ = some (.int .i64 x.n) ∧ V.cell? ⟨B, 12, none⟩ = some (.int .i64 x.m)) := Lib.hid fun V h => ⟨(blk_cell h 11).trans rfl, (blk_cell h 12).trans rfl⟩
          have hS0 := CL2.out _ HR.out.drew.b
          go_wp2_with fail
          go_region_held3 (fun V => V.cell? ⟨B, 11, none⟩ = some (.int .i64 x.n) ∧ V.cell? ⟨B, 12, none⟩ = some (.int .i64 x.m)) (first | exact hS0 | exact hS8 | exact hS7 | exact hS6)
            (first
              | (go_at_call 21; (with_reducible refine (put_keep HR.out.drew x.n 4 (headD x 8 ++ num4 x.n) 44 Ea6.out HP6.out).mono ?_); rintro e w6 ⟨A6, c6, rfl, HQ6⟩; have hS6 := CL2.out w6 HQ6.out.b)
              | (go_at_call 21; (with_reducible refine (put_keep HQ6.out x.m 4 (headD x 8 ++ num4 x.n ++ num4 x.m) 48 Ea7.out HP7.out).mono ?_); rintro e w7 ⟨A7, c7, rfl, HQ7⟩; have hS7 := CL2.out w7 HQ7.out.b)
              | (go_at_call 22; (with_reducible refine (fill_keep HQ7.out 64 (packI x) 64 (pack_len x) HP8.out).mono ?_); rintro e w8 ⟨A8, c8, rfl, HQ8⟩; have hS8 := CL2.out w8 HQ8.out.b))
          go_wp2_with fail
          go_ret2
          exact ⟨.slice A8 64 c8, by rw [HOK.out]; rfl, by rw [HOK.out]; exact Kd.R_mono HQ8.out.R (fun _ _ => trivial), HQ8.out.w⟩
end Go.Proofs.Ytdjncafofcpoiaa.Given
