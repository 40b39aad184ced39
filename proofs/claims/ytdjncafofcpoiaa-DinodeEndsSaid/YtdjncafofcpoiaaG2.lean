/- dinode.Pack: what it answers for an inode that may not be. -/
import Derived.Test.YtdjncafofcpoiaaG1
namespace Go.Proofs.Ytdjncafofcpoiaa.Given
open Go.RowKit Go.Proofs.YtdjncafofcpoiaaW.PrintWords Go.Proofs.YtdjncafofcpoiaaW.PrintLast Go.Proofs.YtdjncafofcpoiaaW.PrintMore Go.Proofs.YtdjncafofcpoiaaBase Go.Proofs.Ytdjncafofcpoiaa.PDFns
set_option linter.unusedVariables false
set_option linter.unusedSimpArgs false
attribute [local go_sem ↓] neq24z zero24

theorem C_ds (x : Ino) (B : Nat) (W : World) (hW : W.heap[B]? = some (.cells x.cells 24)) : Kd.C (Kd.int .i64) W (some ⟨B, 3, none⟩) 8 x.ds := C_cells_of rfl (by decide) (fun j y hj => by
    rw [show (Addr.add ⟨B, 3, none⟩ j) = ⟨B, 3 + j, none⟩ from by rw [Addr.add_lit], blk_cell hW]
    match j, hj with
    | 0, hj => obtain rfl : x.d0 = y := by simpa [Ino.ds] using hj
               rfl
    | 1, hj => obtain rfl : x.d1 = y := by simpa [Ino.ds] using hj
               rfl
    | 2, hj => obtain rfl : x.d2 = y := by simpa [Ino.ds] using hj
               rfl
    | 3, hj => obtain rfl : x.d3 = y := by simpa [Ino.ds] using hj
               rfl
    | 4, hj => obtain rfl : x.d4 = y := by simpa [Ino.ds] using hj
               rfl
    | 5, hj => obtain rfl : x.d5 = y := by simpa [Ino.ds] using hj
               rfl
    | 6, hj => obtain rfl : x.d6 = y := by simpa [Ino.ds] using hj
               rfl
    | 7, hj => obtain rfl : x.d7 = y := by simpa [Ino.ds] using hj
               rfl
    | j + 8, hj => simp [Ino.ds] at hj)

def BadP (w : World) (e : Ending) (w' : World) : Prop := ∃ v, e = .returned (.tuple #[v, .int .i64 1]) ∧ Kd.R (Kd.int .u8) 5 w' w.heap.size (fun _ => True) v [] ∧ Below w.heap.size w w'

set_option maxRecDepth 100000 in
set_option maxHeartbeats 2000000 in
theorem Pack_bad (x : Ino) (w : World) (h : okI x = false) : Calls Try.prog 9 #[.agg x.cells] w (BadP w) := by
  have HX := Lib.hid h
  clear h
  by_cases c1 : x.k < 0
  · unfold Ino.cells
    go_enter Try.func9, Try.ntmps9
    go_wp2
    go_ret2
    exact ⟨_, rfl, Kd.R_nil _ _ _ _ _, by repeat (first | exact Below.refl _ _ | apply pw_below_drewN | apply below_alloc)⟩
  by_cases c2 : x.k > 2
  · unfold Ino.cells
    go_enter Try.func9, Try.ntmps9
    go_wp2
    go_ret2
    exact ⟨_, rfl, Kd.R_nil _ _ _ _ _, by repeat (first | exact Below.refl _ _ | apply pw_below_drewN | apply below_alloc)⟩
  have G1 : ∀ b, [x.l].all fit2 = b → Hid (∀ (W0 : World) (B : Nat), W0.heap.size = B → Calls Try.prog 18 #[.int .i64 2, .slice (some ⟨B, 0, none⟩) 1 1] (W0.alloc (.cells #[.int .i64 x.l] 3)) fun e w' => e = .returned (.bool b) ∧ Drawn0 (W0.alloc (.cells #[.int .i64 x.l] 3)) w') := fun b hb => Lib.hid (fun W0 B hB => fits_new 2 b 1 [x.l] rfl (by decide) W0 #[.int .i64 x.l] rfl B hB (by rw [fits2 20 [x.l] (by simp) (by simp), hb]))
  have G2 : ∀ b, [x.s, x.n, x.m].all fit4 = b → Hid (∀ (W0 : World) (B : Nat), W0.heap.size = B → Calls Try.prog 18 #[.int .i64 4, .slice (some ⟨B, 0, none⟩) 3 3] (W0.alloc (.cells #[.int .i64 x.s, .int .i64 x.n, .int .i64 x.m] 3)) fun e w' => e = .returned (.bool b) ∧ Drawn0 (W0.alloc (.cells #[.int .i64 x.s, .int .i64 x.n, .int .i64 x.m] 3)) w') := fun b hb => Lib.hid (fun W0 B hB => fits_new 4 b 3 [x.s, x.n, x.m] rfl (by decide) W0 #[.int .i64 x.s, .int .i64 x.n, .int .i64 x.m] rfl B hB (by rw [fits4 20 [x.s, x.n, x.m] (by simp) (by simp), hb]))
  have G3 : ∀ b, x.ds.all fit4 = b → Hid (∀ (W : World) (hW : W.heap[w.heap.size]? = some (.cells x.cells 24)), Calls Try.prog 18 #[.int .i64 4, .slice (some ⟨w.heap.size, 3, none⟩) 8 8] W fun e w' => e = .returned (.bool b) ∧ Drawn0 W w') := fun b hb => Lib.hid (fun W hW => fits_any 4 b 8 x.ds rfl _ _ (by rw [fits4 20 x.ds (by simp [Ino.ds]) (by simp [Ino.ds]), hb]) (C_ds x _ W hW))
  cases b1 : [x.l].all fit2 with
  | false =>
    have G1 := G1 false b1
    clear b1 G2 G3
    unfold Ino.cells
    go_enter Try.func9, Try.ntmps9
    go_wp2_with (go_at_call 18; (with_reducible refine (G1.out _ _ ?b1).mono ?_); (case b1 => simp); rintro e w1 ⟨rfl, hd⟩; obtain ⟨n1, rfl⟩ := hd.out; clear hd)
    go_ret2
    exact ⟨_, rfl, Kd.R_nil _ _ _ _ _, by repeat (first | exact Below.refl _ _ | apply pw_below_drewN | apply below_alloc)⟩
  | true =>
    have G1 := G1 true b1
    cases b2 : [x.s, x.n, x.m].all fit4 with
    | false =>
      have G2 := G2 false b2
      clear b1 b2 G3
      unfold Ino.cells
      go_enter Try.func9, Try.ntmps9
      go_wp2_with (first
        | (go_at_call 18; (with_reducible refine (G1.out _ _ ?b1).mono ?_); (case b1 => simp); rintro e w1 ⟨rfl, hd⟩; obtain ⟨n1, rfl⟩ := hd.out; clear hd)
        | (go_at_call 18; (with_reducible refine (G2.out _ _ ?b2).mono ?_); (case b2 => simp); rintro e w1 ⟨rfl, hd⟩; obtain ⟨n2, rfl⟩ := hd.out; clear hd))
      go_ret2
      exact ⟨_, rfl, Kd.R_nil _ _ _ _ _, by repeat (first | exact Below.refl _ _ | apply pw_below_drewN | apply below_alloc)⟩
    | true =>
      have G2 := G2 true b2
      cases b3 : x.ds.all fit4 with
      | false =>
        have G3 := G3 false b3
        clear b1 b2 b3
        unfold Ino.cells
        go_enter Try.func9, Try.ntmps9
        go_wp2_with (first
          | (go_at_call 18; (with_reducible refine (G1.out _ _ ?b1).mono ?_); (case b1 => simp); rintro e w1 ⟨rfl, hd⟩; obtain ⟨n1, rfl⟩ := hd.out; clear hd)
          | (go_at_call 18; (with_reducible refine (G2.out _ _ ?b2).mono ?_); (case b2 => simp); rintro e w1 ⟨rfl, hd⟩; obtain ⟨n2, rfl⟩ := hd.out; clear hd)
          | (go_at_call 18; (with_reducible refine (G3.out _ ?b3).mono ?_); (case b3 => exact (blk_drewN (blk_alloc (blk_drewN (blk_alloc (blk_new w _) _) _) _) _)); rintro e w1 ⟨rfl, hd⟩; obtain ⟨n3, rfl⟩ := hd.out; clear hd))
        go_ret2
        exact ⟨_, rfl, Kd.R_nil _ _ _ _ _, by repeat (first | exact Below.refl _ _ | apply pw_below_drewN | apply below_alloc)⟩
      | true =>
        have G3 := G3 true b3
        have hk1 : kindOk x = true := decide_eq_true (by omega)
        have hfr : freeOk x = false := by
          have h := HX.out
          simp only [List.all_cons, List.all_nil, Bool.and_true, Bool.and_eq_true] at b1 b2
          simpa [okI, hk1, b1, b2.1, b2.2.1, b2.2.2, b3] using h
        have hkb : (x.k == 0) = true := by
          unfold freeOk at hfr
          cases hh : (x.k == 0) with
          | true => rfl
          | false => rw [hh] at hfr; simp at hfr
        have hq : eqI x Ino.zero = false := by
          unfold freeOk at hfr
          rw [hkb] at hfr
          simpa using hfr
        clear b1 b2 b3 hfr hk1
        unfold Ino.cells
        go_enter Try.func9, Try.ntmps9
        go_wp2_with (first
          | (go_at_call 18; (with_reducible refine (G1.out _ _ ?b1).mono ?_); (case b1 => simp); rintro e w1 ⟨rfl, hd⟩; obtain ⟨n1, rfl⟩ := hd.out; clear hd)
          | (go_at_call 18; (with_reducible refine (G2.out _ _ ?b2).mono ?_); (case b2 => simp); rintro e w1 ⟨rfl, hd⟩; obtain ⟨n2, rfl⟩ := hd.out; clear hd)
          | (go_at_call 18; (with_reducible refine (G3.out _ ?b3).mono ?_); (case b3 => exact (blk_drewN (blk_alloc (blk_drewN (blk_alloc (blk_new w _) _) _) _) _)); rintro e w1 ⟨rfl, hd⟩; obtain ⟨n3, rfl⟩ := hd.out; clear hd))
        go_ret2
        exact ⟨_, rfl, Kd.R_nil _ _ _ _ _, by repeat (first | exact Below.refl _ _ | apply pw_below_drewN | apply below_alloc)⟩
end Go.Proofs.Ytdjncafofcpoiaa.Given
