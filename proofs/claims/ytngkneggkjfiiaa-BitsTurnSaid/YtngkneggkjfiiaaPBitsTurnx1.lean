-- written by the session's program wip/print/patch.py (a turned copy of the print) over contracts that the session proved by hand
import Derived.Test.YtngkneggkjfiiaaPBitsTurnx0
namespace Go.Proofs.Ytngkneggkjfiiaa.PBitsTurn
open Go.Proofs.Ytngkneggkjfiiaa.Given Go.Proofs.Ytngkneggkjfiiaa.PGet Go.Proofs.Ytngkneggkjfiiaa.PWith
open Go.RowKit Go.Proofs.YtngkneggkjfiiaaW.PrintWords Go.Proofs.YtngkneggkjfiiaaW.PrintLast Go.Proofs.YtngkneggkjfiiaaW.PrintMore
attribute [local go_sem] max2_int min2_int max_two min_two max_three min_three max_four min_four   -- for this text's walks alone
set_option linter.unusedVariables false
set_option linter.unusedSimpArgs false

/-! ### lockgatelaw2_alive: function 6 -/
def lockgatelaw2_alive.f  : Option (Bool) := (bits_First.f (([255, 1] : List Int)) 16 0).bind fun bt104 => (if bt104.2 = true then (some (bt104.1 == 9)) else (some false))
set_option maxHeartbeats 8000000 in
set_option maxRecDepth 100000 in
theorem lockgatelaw2_alive.calls  (r : Bool) (w : World) (h : lockgatelaw2_alive.f  = some r) :
    Calls Try.prog 6 #[] w fun e w' => e = .returned (.bool r) ∧ Below w.heap.size w w' := by
  have HB := Aside0.mk (Below.refl w.heap.size w)
  have H : ((bits_First.f (([255, 1] : List Int)) 16 0).bind fun bt104 => (if bt104.2 = true then (some (bt104.1 == 9)) else (some false))) = some r := h
  clear h
  obtain ⟨y101, hy101⟩ : ∃ y_ : List Int, y_ = (([255, 1] : List Int)) := ⟨_, rfl⟩
  replace H : ((bits_First.f y101 16 0).bind fun bt104 => (if bt104.2 = true then (some (bt104.1 == 9)) else (some false))) = some r := by first | (rw [hy101]; with_reducible exact H) | (have H2_ := (Option.bind_some _ _).symm.trans H; rw [hy101]; with_reducible exact H2_) | (have H2_ := (Option.bind_some _ _).symm.trans H; with_reducible exact H2_) | with_reducible exact H | (rw [hy101]; exact H) | exact H
  have Ny101 := Aside0.mk hy101
  clear hy101
  replace H := Option.bind_eq_some_iff.mp H
  obtain ⟨⟨t104, t105⟩, A10, H⟩ := H
  replace H : (if t105 = true then (some (t104 == 9)) else (some false)) = some r := H
  have A1 := Aside0.mk A10
  clear A10
  by_cases c2 : t105 = true
  · subst c2
    have H1 : (some (t104 == 9)) = some r := by rw [if_pos rfl] at H; exact H
    clear H
    have H := H1
    clear H1
    obtain rfl := Option.some.inj H
    go_enter Try.func6, Try.ntmps6
    go_wp2_with (first | ((with_reducible refine gate_dst (N := 4) rfl ?_); refine Kd.R_lit (Kd.int .u8) _ 5 ?hg (N := 4) ?hd (xs := ([255, 1] : List Int)) (inner := [.int .u8 255, .int .u8 1]) (ok := fun _ => True) (okp := fun _ => True) ?hr ?hp (fun _ hk => hk) trivial (Below.refl _ _) (Nat.le_refl _) (by simp) ?_; (case hd => rfl); (case hg => rfl); (case hr => first | (go_simp; done) | (go_simp; rfl)); (case hp => exact (Reps.one (show Kd.M (Kd.int .u8) _ _ _ 255 [.int .u8 255] from rfl) (Reps.one (show Kd.M (Kd.int .u8) _ _ _ 1 [.int .u8 1] from rfl) (Reps.none _ _)))); intro v102 w3 ho4 hb hg_ hnew_; clear hg_ hnew_; (first | rw [← Ny101.out] at ho4 | (simp only [Int.reduceToNat] at ho4; rw [← Ny101.out] at ho4)); have n0_ := Aside0.mk (Kd.R_lower ho4 (below_size (by repeat (first | (with_reducible first | exact HB.out | apply below_alloc | apply pw_below_drewN | apply below_drew1) | exact HB.out)))); have n1_ := Aside0.mk (below_step (by repeat (first | (with_reducible first | exact HB.out | apply below_alloc | apply pw_below_drewN | apply below_drew1) | exact HB.out)) hb); clear HB; have HO103 := n0_; have HB := n1_; clear n0_ n1_; clear hb ho4; obtain ⟨Ao5, co5, eo5⟩ := Kd.R_slice HO103.out; subst eo5) | ((with_reducible refine gate_callee (f := 9) rfl ?_); refine goesL_ (some 5) rfl rfl Try.func9 (by kernel_rfl) rfl #[.slice Ao5 y101.length co5, .int .i64 16, .int .i64 0] rfl (by (try simp only [List.map_toArray, List.map_cons, List.map_nil]); first | done | rfl | (simp only [List.length_drop, List.length_take]; rfl)) ?_; (with_reducible refine (bits_First.calls _ _ y101 16 0 t104 true _ ?side1 ?side2 A1.out).mono ?_); (case side1 => repeat (first | exact (Kd.R_reads' HO103.out).2.2 | (with_reducible refine Kd.C_alloc ?_ _) | (with_reducible refine Kd.C_drewN ?_ _) | (with_reducible refine Kd.C_drew ?_))); (case side2 => exact (Kd.R_reads' HO103.out).2.1); rintro e w6 ⟨rfl, hb⟩; refine ⟨_, rfl, ?_⟩; have n0_ := Aside0.mk (Kd.R_below (by (with_reducible repeat (first | apply Kd.R_alloc | apply Kd.R_drewN | apply Kd.R_drew)); exact HO103.out) hb); have n1_ := Aside0.mk (below_step (by repeat (first | (with_reducible first | exact HB.out | apply below_alloc | apply pw_below_drewN | apply below_drew1) | exact HB.out)) hb); clear HO103; clear HB; have HO103 := n0_; have HB := n1_; clear n0_ n1_; (try clear hb); (try clear hb2); (try clear hk); (try clear hi)))
    go_ret
    exact ⟨by first | rfl | (simp [errW_none, errW_some] <;> rfl) | (simp [*, errW_none, errW_some] <;> rfl), by repeat (first | (with_reducible first | exact HB.out | apply below_alloc | apply pw_below_drewN | apply below_drew1) | exact HB.out)⟩
  · replace c2 := Bool.eq_false_iff.mpr c2
    subst c2
    have H1 : (some false) = some r := by rw [if_neg (show ¬ (false = true) by decide)] at H; exact H
    clear H
    have H := H1
    clear H1
    obtain rfl := Option.some.inj H
    go_enter Try.func6, Try.ntmps6
    go_wp2_with (first | ((with_reducible refine gate_dst (N := 4) rfl ?_); refine Kd.R_lit (Kd.int .u8) _ 5 ?hg (N := 4) ?hd (xs := ([255, 1] : List Int)) (inner := [.int .u8 255, .int .u8 1]) (ok := fun _ => True) (okp := fun _ => True) ?hr ?hp (fun _ hk => hk) trivial (Below.refl _ _) (Nat.le_refl _) (by simp) ?_; (case hd => rfl); (case hg => rfl); (case hr => first | (go_simp; done) | (go_simp; rfl)); (case hp => exact (Reps.one (show Kd.M (Kd.int .u8) _ _ _ 255 [.int .u8 255] from rfl) (Reps.one (show Kd.M (Kd.int .u8) _ _ _ 1 [.int .u8 1] from rfl) (Reps.none _ _)))); intro v102 w7 ho8 hb hg_ hnew_; clear hg_ hnew_; (first | rw [← Ny101.out] at ho8 | (simp only [Int.reduceToNat] at ho8; rw [← Ny101.out] at ho8)); have n0_ := Aside0.mk (Kd.R_lower ho8 (below_size (by repeat (first | (with_reducible first | exact HB.out | apply below_alloc | apply pw_below_drewN | apply below_drew1) | exact HB.out)))); have n1_ := Aside0.mk (below_step (by repeat (first | (with_reducible first | exact HB.out | apply below_alloc | apply pw_below_drewN | apply below_drew1) | exact HB.out)) hb); clear HB; have HO103 := n0_; have HB := n1_; clear n0_ n1_; clear hb ho8; obtain ⟨Ao9, co9, eo9⟩ := Kd.R_slice HO103.out; subst eo9) | ((with_reducible refine gate_callee (f := 9) rfl ?_); refine goesL_ (some 5) rfl rfl Try.func9 (by kernel_rfl) rfl #[.slice Ao9 y101.length co9, .int .i64 16, .int .i64 0] rfl (by (try simp only [List.map_toArray, List.map_cons, List.map_nil]); first | done | rfl | (simp only [List.length_drop, List.length_take]; rfl)) ?_; (with_reducible refine (bits_First.calls _ _ y101 16 0 t104 false _ ?side1 ?side2 A1.out).mono ?_); (case side1 => repeat (first | exact (Kd.R_reads' HO103.out).2.2 | (with_reducible refine Kd.C_alloc ?_ _) | (with_reducible refine Kd.C_drewN ?_ _) | (with_reducible refine Kd.C_drew ?_))); (case side2 => exact (Kd.R_reads' HO103.out).2.1); rintro e w10 ⟨rfl, hb⟩; refine ⟨_, rfl, ?_⟩; have n0_ := Aside0.mk (Kd.R_below (by (with_reducible repeat (first | apply Kd.R_alloc | apply Kd.R_drewN | apply Kd.R_drew)); exact HO103.out) hb); have n1_ := Aside0.mk (below_step (by repeat (first | (with_reducible first | exact HB.out | apply below_alloc | apply pw_below_drewN | apply below_drew1) | exact HB.out)) hb); clear HO103; clear HB; have HO103 := n0_; have HB := n1_; clear n0_ n1_; (try clear hb); (try clear hb2); (try clear hk); (try clear hi)))
    go_ret
    exact ⟨by first | rfl | (simp [errW_none, errW_some] <;> rfl) | (simp [*, errW_none, errW_some] <;> rfl), by repeat (first | (with_reducible first | exact HB.out | apply below_alloc | apply pw_below_drewN | apply below_drew1) | exact HB.out)⟩

/-! ### lockgatelaw2_BitsTurn: function 4 -/
mutual
def lockgatelaw2_BitsTurn.j0 : Nat → List Int → Int → Int → Bool → Bool → Bool → Option (Bool)
  | 0, _, _, _, _, _, _ => none
  | k + 1, x0, x1, x2, x3, x9, x22 => if x22 = true then (some x9) else ((bits_With.f k x0 x1 x3).bind fun t107 => (if x1 ≥ 0 then (lockgatelaw2_BitsTurn.j1 k x0 x1 x2 x3 t107 (decide ((wrap64 (Int.tdiv x1 8)) < (x0.length : Int)))) else (lockgatelaw2_BitsTurn.j1 k x0 x1 x2 x3 t107 false)))
def lockgatelaw2_BitsTurn.j1 : Nat → List Int → Int → Int → Bool → List Int → Bool → Option (Bool)
  | 0, _, _, _, _, _, _ => none
  | k + 1, x0, x1, x2, x3, x10, x11 => if (x10.length : Int) = (x0.length : Int) then (if x1 = x2 then (lockgatelaw2_BitsTurn.j2 k x0 x1 x3 x10 x11 false) else ((bits_Get.f x10 x2).bind fun t110 => ((bits_Get.f x0 x2).bind fun t111 => (lockgatelaw2_BitsTurn.j2 k x0 x1 x3 x10 x11 (t110 != t111))))) else (lockgatelaw2_BitsTurn.j2 k x0 x1 x3 x10 x11 true)
def lockgatelaw2_BitsTurn.j2 : Nat → List Int → Int → Bool → List Int → Bool → Bool → Option (Bool)
  | 0, _, _, _, _, _, _ => none
  | k + 1, x0, x1, x3, x10, x11, x55 => if x55 = true then (some false) else ((bits_Get.f x0 x1).bind fun t112 => ((bits_Count.f x10 (wrap64 (8 * (x0.length : Int)))).bind fun t113 => ((bits_Count.f x0 (wrap64 (8 * (x0.length : Int)))).bind fun t114 => (if x11 = true then (if x3 = true then (lockgatelaw2_BitsTurn.j3 k x1 x3 x10 x11 t112 (wrap64 (t113 - t114)) 0 (!t112)) else (lockgatelaw2_BitsTurn.j3 k x1 x3 x10 x11 t112 (wrap64 (t113 - t114)) 0 false)) else (lockgatelaw2_BitsTurn.j3 k x1 x3 x10 x11 t112 (wrap64 (t113 - t114)) 0 false)))))
def lockgatelaw2_BitsTurn.j3 : Nat → Int → Bool → List Int → Bool → Bool → Int → Int → Bool → Option (Bool)
  | 0, _, _, _, _, _, _, _, _ => none
  | k + 1, x1, x3, x10, x11, x12, x13, x14, x77 => if x77 = true then (if x11 = true then (if x3 = true then (if x13 = 1 then ((bits_Get.f x10 x1).bind fun t115 => (some (t115 == x3))) else (some false)) else (if x12 = true then (if x13 = (-1) then ((bits_Get.f x10 x1).bind fun t116 => (some (t116 == x3))) else (some false)) else (if x13 = 1 then ((bits_Get.f x10 x1).bind fun t117 => (some (t117 == x3))) else (some false)))) else (if x13 = 1 then ((bits_Get.f x10 x1).bind fun t118 => (some (t118 == false))) else (some false))) else (if x11 = true then (if x3 = true then (if x13 = x14 then ((bits_Get.f x10 x1).bind fun t119 => (some (t119 == x3))) else (some false)) else (if x12 = true then (if x13 = (-1) then ((bits_Get.f x10 x1).bind fun t120 => (some (t120 == x3))) else (some false)) else (if x13 = x14 then ((bits_Get.f x10 x1).bind fun t121 => (some (t121 == x3))) else (some false)))) else (if x13 = x14 then ((bits_Get.f x10 x1).bind fun t122 => (some (t122 == false))) else (some false)))
end
def lockgatelaw2_BitsTurn.f (k : Nat) (l0 : List Int) (a1 : Int) (a2 : Int) (a3 : Bool) : Option (Bool) := (lockgatelaw2_alive.f).bind fun t106 => (if t106 = true then (lockgatelaw2_BitsTurn.j0 k l0 a1 a2 a3 t106 (decide ((l0.length : Int) > 500))) else (lockgatelaw2_BitsTurn.j0 k l0 a1 a2 a3 t106 true))
theorem lockgatelaw2_BitsTurn.mono_l : ∀ k, (∀ y0 y1 y2 y3 y4 y5, LeO (lockgatelaw2_BitsTurn.j0 k y0 y1 y2 y3 y4 y5) (lockgatelaw2_BitsTurn.j0 (k + 1) y0 y1 y2 y3 y4 y5)) ∧ (∀ y0 y1 y2 y3 y4 y5, LeO (lockgatelaw2_BitsTurn.j1 k y0 y1 y2 y3 y4 y5) (lockgatelaw2_BitsTurn.j1 (k + 1) y0 y1 y2 y3 y4 y5)) ∧ (∀ y0 y1 y2 y3 y4 y5, LeO (lockgatelaw2_BitsTurn.j2 k y0 y1 y2 y3 y4 y5) (lockgatelaw2_BitsTurn.j2 (k + 1) y0 y1 y2 y3 y4 y5)) ∧ (∀ y0 y1 y2 y3 y4 y5 y6 y7, LeO (lockgatelaw2_BitsTurn.j3 k y0 y1 y2 y3 y4 y5 y6 y7) (lockgatelaw2_BitsTurn.j3 (k + 1) y0 y1 y2 y3 y4 y5 y6 y7))
  | 0 => ⟨fun _ _ _ _ _ _ r h => by simp [lockgatelaw2_BitsTurn.j0] at h, fun _ _ _ _ _ _ r h => by simp [lockgatelaw2_BitsTurn.j1] at h, fun _ _ _ _ _ _ r h => by simp [lockgatelaw2_BitsTurn.j2] at h, fun _ _ _ _ _ _ _ _ r h => by simp [lockgatelaw2_BitsTurn.j3] at h⟩
  | k + 1 => by
    obtain ⟨ih0, ih1, ih2, ih3⟩ := lockgatelaw2_BitsTurn.mono_l k
    refine ⟨?_, ?_, ?_, ?_⟩
    · intro y0 y1 y2 y3 y4 y5
      unfold lockgatelaw2_BitsTurn.j0
      repeat' first
      | (with_reducible exact ih0 _ _ _ _ _ _)
      | (with_reducible exact ih1 _ _ _ _ _ _)
      | (with_reducible exact ih2 _ _ _ _ _ _)
      | (with_reducible exact ih3 _ _ _ _ _ _ _ _)
      | (with_reducible exact bits_With.mono _ _ _ _)
      | (with_reducible exact LeO.refl _)
      | (with_reducible exact LeO.none _)
      | (with_reducible refine LeO.ite ?_ ?_)
      | (with_reducible refine LeO.bind ?_ (fun _ => ?_))
      | exact ih0 _ _ _ _ _ _
      | exact ih1 _ _ _ _ _ _
      | exact ih2 _ _ _ _ _ _
      | exact ih3 _ _ _ _ _ _ _ _
      | exact bits_With.mono _ _ _ _
      | exact LeO.none _
      | refine LeO.ite ?_ ?_
      | refine LeO.bind ?_ (fun _ => ?_)
    · intro y0 y1 y2 y3 y4 y5
      unfold lockgatelaw2_BitsTurn.j1
      repeat' first
      | (with_reducible exact ih0 _ _ _ _ _ _)
      | (with_reducible exact ih1 _ _ _ _ _ _)
      | (with_reducible exact ih2 _ _ _ _ _ _)
      | (with_reducible exact ih3 _ _ _ _ _ _ _ _)
      | (with_reducible exact bits_With.mono _ _ _ _)
      | (with_reducible exact LeO.refl _)
      | (with_reducible exact LeO.none _)
      | (with_reducible refine LeO.ite ?_ ?_)
      | (with_reducible refine LeO.bind ?_ (fun _ => ?_))
      | exact ih0 _ _ _ _ _ _
      | exact ih1 _ _ _ _ _ _
      | exact ih2 _ _ _ _ _ _
      | exact ih3 _ _ _ _ _ _ _ _
      | exact bits_With.mono _ _ _ _
      | exact LeO.none _
      | refine LeO.ite ?_ ?_
      | refine LeO.bind ?_ (fun _ => ?_)
    · intro y0 y1 y2 y3 y4 y5
      unfold lockgatelaw2_BitsTurn.j2
      repeat' first
      | (with_reducible exact ih0 _ _ _ _ _ _)
      | (with_reducible exact ih1 _ _ _ _ _ _)
      | (with_reducible exact ih2 _ _ _ _ _ _)
      | (with_reducible exact ih3 _ _ _ _ _ _ _ _)
      | (with_reducible exact bits_With.mono _ _ _ _)
      | (with_reducible exact LeO.refl _)
      | (with_reducible exact LeO.none _)
      | (with_reducible refine LeO.ite ?_ ?_)
      | (with_reducible refine LeO.bind ?_ (fun _ => ?_))
      | exact ih0 _ _ _ _ _ _
      | exact ih1 _ _ _ _ _ _
      | exact ih2 _ _ _ _ _ _
      | exact ih3 _ _ _ _ _ _ _ _
      | exact bits_With.mono _ _ _ _
      | exact LeO.none _
      | refine LeO.ite ?_ ?_
      | refine LeO.bind ?_ (fun _ => ?_)
    · intro y0 y1 y2 y3 y4 y5 y6 y7
      unfold lockgatelaw2_BitsTurn.j3
      repeat' first
      | (with_reducible exact ih0 _ _ _ _ _ _)
      | (with_reducible exact ih1 _ _ _ _ _ _)
      | (with_reducible exact ih2 _ _ _ _ _ _)
      | (with_reducible exact ih3 _ _ _ _ _ _ _ _)
      | (with_reducible exact bits_With.mono _ _ _ _)
      | (with_reducible exact LeO.refl _)
      | (with_reducible exact LeO.none _)
      | (with_reducible refine LeO.ite ?_ ?_)
      | (with_reducible refine LeO.bind ?_ (fun _ => ?_))
      | exact ih0 _ _ _ _ _ _
      | exact ih1 _ _ _ _ _ _
      | exact ih2 _ _ _ _ _ _
      | exact ih3 _ _ _ _ _ _ _ _
      | exact bits_With.mono _ _ _ _
      | exact LeO.none _
      | refine LeO.ite ?_ ?_
      | refine LeO.bind ?_ (fun _ => ?_)
theorem lockgatelaw2_BitsTurn.mono : ∀ a0 a1 a2 a3 k, LeO (lockgatelaw2_BitsTurn.f k a0 a1 a2 a3) (lockgatelaw2_BitsTurn.f (k + 1) a0 a1 a2 a3) := by
  intro a0 a1 a2 a3 k
  obtain ⟨ih0, ih1, ih2, ih3⟩ := lockgatelaw2_BitsTurn.mono_l k
  unfold lockgatelaw2_BitsTurn.f
  repeat' first
      | (with_reducible exact ih0 _ _ _ _ _ _)
      | (with_reducible exact ih1 _ _ _ _ _ _)
      | (with_reducible exact ih2 _ _ _ _ _ _)
      | (with_reducible exact ih3 _ _ _ _ _ _ _ _)
      | (with_reducible exact bits_With.mono _ _ _ _)
      | (with_reducible exact LeO.refl _)
      | (with_reducible exact LeO.none _)
      | (with_reducible refine LeO.ite ?_ ?_)
      | (with_reducible refine LeO.bind ?_ (fun _ => ?_))
      | exact ih0 _ _ _ _ _ _
      | exact ih1 _ _ _ _ _ _
      | exact ih2 _ _ _ _ _ _
      | exact ih3 _ _ _ _ _ _ _ _
      | exact bits_With.mono _ _ _ _
      | exact LeO.none _
      | refine LeO.ite ?_ ?_
      | refine LeO.bind ?_ (fun _ => ?_)
set_option maxHeartbeats 8000000 in
set_option maxRecDepth 100000 in
theorem lockgatelaw2_BitsTurn.calls (k : Nat) (A0 : Option Addr) (c0 : Nat) (l0 : List Int) (a1 : Int) (a2 : Int) (a3 : Bool) (r : Bool) (w : World) (hr0 : Kd.C (Kd.int .u8) w A0 l0.length l0) (hc0 : l0.length ≤ c0) (h : lockgatelaw2_BitsTurn.f k l0 a1 a2 a3 = some r) :
    Calls Try.prog 4 #[.slice A0 l0.length c0, .int .i64 a1, .int .i64 a2, .bool a3] w fun e w' => e = .returned (.bool r) ∧ Below w.heap.size w w' := by
  have HR0 := Aside0.mk hr0
  have HC0 := Aside0.mk hc0
  clear hr0 hc0
  have HB := Aside0.mk (Below.refl w.heap.size w)
  have H : ((lockgatelaw2_alive.f).bind fun t106 => (if t106 = true then (lockgatelaw2_BitsTurn.j0 k l0 a1 a2 a3 t106 (decide ((l0.length : Int) > 500))) else (lockgatelaw2_BitsTurn.j0 k l0 a1 a2 a3 t106 true))) = some r := h
  clear h
  replace H := Option.bind_eq_some_iff.mp H
  obtain ⟨t106, A50, H⟩ := H
  replace H : (if t106 = true then (lockgatelaw2_BitsTurn.j0 k l0 a1 a2 a3 t106 (decide ((l0.length : Int) > 500))) else (lockgatelaw2_BitsTurn.j0 k l0 a1 a2 a3 t106 true)) = some r := H
  have A5 := Aside0.mk A50
  clear A50
  have HC6 := Aside0.mk H
  clear H
  go_enter Try.func4, Try.ntmps4
  go_upto_region 2 with (first | ((with_reducible refine gate_callee (f := 6) rfl ?_); refine goesL_ (some 15) rfl rfl Try.func6 (by kernel_rfl) rfl #[] rfl (by (try simp only [List.map_toArray, List.map_cons, List.map_nil]); first | done | rfl | (simp only [List.length_drop, List.length_take]; rfl)) ?_; (with_reducible refine (lockgatelaw2_alive.calls  t106 _ A5.out).mono ?_); rintro e w7 ⟨rfl, hb⟩; refine ⟨_, rfl, ?_⟩; have n0_ := Aside0.mk (below_step (by repeat (first | (with_reducible first | exact HB.out | apply below_alloc | apply pw_below_drewN | apply below_drew1) | exact HB.out)) hb); clear HB; have HB := n0_; clear n0_; (try clear hb); (try clear hb2); (try clear hk); (try clear hi)))
  (try simp only [Act.put, List.setIfInBounds_toArray, List.set_cons_zero, List.set_cons_succ])
  go_cut [22] (fun v22 wc => ∃ (kq : Nat) (x22_5 : Bool), v22 = .bool x22_5 ∧ Aside0 (lockgatelaw2_BitsTurn.j0 kq l0 a1 a2 a3 t106 x22_5 = some r) ∧ Aside0 (kq ≤ k) ∧ Aside0 (Below w.heap.size w wc))
  case first =>
    have H := HC6.out
    clear HC6
    by_cases c8 : t106 = true
    · subst c8
      have H1 : (lockgatelaw2_BitsTurn.j0 k l0 a1 a2 a3 true (decide ((l0.length : Int) > 500))) = some r := by rw [if_pos rfl] at H; exact H
      clear H
      have H := H1
      clear H1
      have H' := Aside0.mk H
      clear H
      go_wp2
      go_meet
      case rel => exact ⟨_, (decide ((l0.length : Int) > 500)), (by first | rfl | (simp; done) | (simp [*]; done)), H', ⟨by first | omega | exact Nat.le_refl _⟩, ⟨by repeat (first | (with_reducible first | exact HB.out | apply below_alloc | apply pw_below_drewN | apply below_drew1) | exact HB.out)⟩⟩
    · replace c8 := Bool.eq_false_iff.mpr c8
      subst c8
      have H1 : (lockgatelaw2_BitsTurn.j0 k l0 a1 a2 a3 false true) = some r := by rw [if_neg (show ¬ (false = true) by decide)] at H; exact H
      clear H
      have H := H1
      clear H1
      have H' := Aside0.mk H
      clear H
      go_wp2
      go_meet
      case rel => exact ⟨_, (true), (by first | rfl | (simp; done) | (simp [*]; done)), H', ⟨by first | omega | exact Nat.le_refl _⟩, ⟨by repeat (first | (with_reducible first | exact HB.out | apply below_alloc | apply pw_below_drewN | apply below_drew1) | exact HB.out)⟩⟩
  case rest =>
    clear HC6
    try clear p2
    try clear c4
    try clear c6
    try clear c8
    obtain ⟨kq, x22_5, rfl, HA, HJ5, HB⟩ := hcut
    cases kq with
    | zero => exact absurd HA.out (by simp [lockgatelaw2_BitsTurn.j0])
    | succ kj5 =>
      have H := HA.out
      clear HA
      simp only [lockgatelaw2_BitsTurn.j0] at H
      by_cases c9 : x22_5 = true
      · subst c9
        have H1 : (some t106) = some r := by rw [if_pos rfl] at H; exact H
        clear H
        have H := H1
        clear H1
        obtain rfl := Option.some.inj H
        go_wp2
        go_ret
        exact ⟨by first | rfl | (simp [errW_none, errW_some] <;> rfl) | (simp [*, errW_none, errW_some] <;> rfl), by repeat (first | (with_reducible first | exact HB.out | apply below_alloc | apply pw_below_drewN | apply below_drew1) | exact HB.out)⟩
      · replace c9 := Bool.eq_false_iff.mpr c9
        subst c9
        have H1 : ((bits_With.f kj5 l0 a1 a3).bind fun t107 => (if a1 ≥ 0 then (lockgatelaw2_BitsTurn.j1 kj5 l0 a1 a2 a3 t107 (decide ((wrap64 (Int.tdiv a1 8)) < (l0.length : Int)))) else (lockgatelaw2_BitsTurn.j1 kj5 l0 a1 a2 a3 t107 false))) = some r := by rw [if_neg (show ¬ (false = true) by decide)] at H; exact H
        clear H
        have H := H1
        clear H1
        replace H := Option.bind_eq_some_iff.mp H
        obtain ⟨t107, A100, H⟩ := H
        replace H : (if a1 ≥ 0 then (lockgatelaw2_BitsTurn.j1 kj5 l0 a1 a2 a3 t107 (decide ((wrap64 (Int.tdiv a1 8)) < (l0.length : Int)))) else (lockgatelaw2_BitsTurn.j1 kj5 l0 a1 a2 a3 t107 false)) = some r := H
        have A10 := Aside0.mk A100
        clear A100
        have HC11 := Aside0.mk H
        clear H
        go_upto_region 5 with (first | ((with_reducible refine gate_callee (f := 7) rfl ?_); refine goesL_ (some 27) rfl rfl Try.func7 (by kernel_rfl) rfl #[.slice A0 l0.length c0, .int .i64 a1, .bool a3] rfl (by (try simp only [List.map_toArray, List.map_cons, List.map_nil]); first | done | rfl | (simp only [List.length_drop, List.length_take]; rfl)) ?_; (with_reducible refine (bits_With.calls kj5 _ _ l0 a1 a3 t107 _ ?side1 ?side2 A10.out).mono ?_); (case side1 => repeat (first | exact (Kd.C_below HR0.out HB.out) | (with_reducible refine Kd.C_alloc ?_ _) | (with_reducible refine Kd.C_drewN ?_ _) | (with_reducible refine Kd.C_drew ?_))); (case side2 => exact HC0.out); rintro e w12 ⟨v108, rfl, ho0, hb⟩; refine ⟨_, rfl, ?_⟩; have n0_ := Aside0.mk (Kd.R_lower ho0 (below_size (by repeat (first | (with_reducible first | exact HB.out | apply below_alloc | apply pw_below_drewN | apply below_drew1) | exact HB.out)))); have n1_ := Aside0.mk (below_step (by repeat (first | (with_reducible first | exact HB.out | apply below_alloc | apply pw_below_drewN | apply below_drew1) | exact HB.out)) hb); clear HB; have HO109 := n0_; have HB := n1_; clear n0_ n1_; (try clear hb); (try clear hb2); (try clear hk); (try clear hi); (try clear ho0)))
        (try simp only [Act.put, List.setIfInBounds_toArray, List.set_cons_zero, List.set_cons_succ])
        go_cut [11] (fun v11 wc => ∃ (kq : Nat) (x11_10 : Bool), v11 = .bool x11_10 ∧ Aside0 (lockgatelaw2_BitsTurn.j1 kq l0 a1 a2 a3 t107 x11_10 = some r) ∧ Aside0 (kq ≤ kj5) ∧ Aside0 (Kd.R (Kd.int .u8) 5 wc w.heap.size (fun _ => True) v108 t107) ∧ Aside0 (Below w.heap.size w wc))
        case first =>
          have H := HC11.out
          clear HC11
          by_cases c13 : a1 ≥ 0
          · rw [if_pos c13] at H
            have c13b0 : decide (0 ≤ a1) = true := decide_eq_true c13
            clear c13
            (first | rw [c13b0] | (simp only [i64_w, i32_w]; rw [c13b0]) | skip)
            have H' := Aside0.mk H
            clear H
            go_wp2
            go_meet
            case rel => exact ⟨_, (decide ((wrap64 (Int.tdiv a1 8)) < (l0.length : Int))), (by first | rfl | (simp; done) | (simp [*]; done)), H', ⟨by have := HJ5.out; first | omega | exact Nat.le_refl _⟩, ⟨by (with_reducible repeat (first | apply Kd.R_alloc | apply Kd.R_drewN | apply Kd.R_drew)); exact HO109.out⟩, ⟨by repeat (first | (with_reducible first | exact HB.out | apply below_alloc | apply pw_below_drewN | apply below_drew1) | exact HB.out)⟩⟩
          · rw [if_neg c13] at H
            have c13b0 : decide (0 ≤ a1) = false := decide_eq_false c13
            clear c13
            (first | rw [c13b0] | (simp only [i64_w, i32_w]; rw [c13b0]) | skip)
            have H' := Aside0.mk H
            clear H
            go_wp2
            go_meet
            case rel => exact ⟨_, (false), (by first | rfl | (simp; done) | (simp [*]; done)), H', ⟨by have := HJ5.out; first | omega | exact Nat.le_refl _⟩, ⟨by (with_reducible repeat (first | apply Kd.R_alloc | apply Kd.R_drewN | apply Kd.R_drew)); exact HO109.out⟩, ⟨by repeat (first | (with_reducible first | exact HB.out | apply below_alloc | apply pw_below_drewN | apply below_drew1) | exact HB.out)⟩⟩
        case rest =>
          clear HC11
          try clear c1
          try clear p2
          try clear c4
          try clear c6
          try clear p6
          try clear c7
          try clear c8
          try clear c9
          try clear c13
          try clear c13b0
          try clear p2
          obtain ⟨kq, x11_10, rfl, HA, HJ10, HO_10, HB⟩ := hcut
          cases kq with
          | zero => exact absurd HA.out (by simp [lockgatelaw2_BitsTurn.j1])
          | succ kj10 =>
            have H := HA.out
            clear HA
            simp only [lockgatelaw2_BitsTurn.j1] at H
            have HC14 := Aside0.mk H
            clear H
            go_upto_region 6 with (fail)
            go_cut [55] (fun v55 wc => ∃ (kq : Nat) (x55_13 : Bool), v55 = .bool x55_13 ∧ Aside0 (lockgatelaw2_BitsTurn.j2 kq l0 a1 a3 t107 x11_10 x55_13 = some r) ∧ Aside0 (kq ≤ kj10) ∧ Aside0 (Kd.R (Kd.int .u8) 5 wc w.heap.size (fun _ => True) v108 t107) ∧ Aside0 (Below w.heap.size w wc))
            case first =>
              have H := HC14.out
              clear HC14
              by_cases c15 : (t107.length : Int) = (l0.length : Int)
              · rw [if_pos c15] at H
                have c15b0 : ((t107.length : Int) == (l0.length : Int)) = true := beq_iff_eq.mpr c15
                have c15b1 : ((t107.length : Int) != (l0.length : Int)) = false := bne_eq_false_iff_eq.mpr c15
                have c15b2 : (t107.length == l0.length) = true := by first | simpa using c15 | (simp at c15 ⊢; omega)
                clear c15
                (first | rw [c15b0] | (simp only [i64_w, i32_w]; rw [c15b0]) | skip)
                by_cases c16 : a1 = a2
                · rw [if_pos c16] at H
                  have c16b0 : (a1 == a2) = true := beq_iff_eq.mpr c16
                  have c16b1 : (a1 != a2) = false := bne_eq_false_iff_eq.mpr c16
                  clear c16
                  have H' := Aside0.mk H
                  clear H
                  obtain ⟨Ao17, co17, eo17⟩ := Kd.R_slice HO_10.out
                  subst eo17
                  go_wp2
                  go_meet
                  case rel => exact ⟨_, (false), (by first | rfl | (simp; done) | (simp [*]; done)), H', ⟨by have := HJ5.out; have := HJ10.out; first | omega | exact Nat.le_refl _⟩, ⟨by (with_reducible repeat (first | apply Kd.R_alloc | apply Kd.R_drewN | apply Kd.R_drew)); exact HO_10.out⟩, ⟨by repeat (first | (with_reducible first | exact HB.out | apply below_alloc | apply pw_below_drewN | apply below_drew1) | exact HB.out)⟩⟩
                · rw [if_neg c16] at H
                  have c16b0 : (a1 == a2) = false := beq_eq_false_iff_ne.mpr c16
                  have c16b1 : (a1 != a2) = true := bne_iff_ne.mpr c16
                  replace H := Option.bind_eq_some_iff.mp H
                  obtain ⟨t110, A180, H⟩ := H
                  replace H : ((bits_Get.f l0 a2).bind fun t111 => (lockgatelaw2_BitsTurn.j2 kj10 l0 a1 a3 t107 x11_10 (t110 != t111))) = some r := H
                  have A18 := Aside0.mk A180
                  clear A180
                  replace H := Option.bind_eq_some_iff.mp H
                  obtain ⟨t111, A190, H⟩ := H
                  replace H : (lockgatelaw2_BitsTurn.j2 kj10 l0 a1 a3 t107 x11_10 (t110 != t111)) = some r := H
                  have A19 := Aside0.mk A190
                  clear A190
                  have H' := Aside0.mk H
                  clear H
                  obtain ⟨Ao20, co20, eo20⟩ := Kd.R_slice HO_10.out
                  subst eo20
                  go_wp2_with (first | (go_at_call 11; (with_reducible refine (bits_Get.calls _ _ t107 a2 t110 _ ?side1 ?side2 A18.out).mono ?_); (case side1 => repeat (first | exact (Kd.R_reads' HO_10.out).2.2 | (with_reducible refine Kd.C_alloc ?_ _) | (with_reducible refine Kd.C_drewN ?_ _) | (with_reducible refine Kd.C_drew ?_))); (case side2 => exact (Kd.R_reads' HO_10.out).2.1); rintro e w' ⟨rfl, ⟨nd, rfl⟩⟩) | (go_at_call 11; (with_reducible refine (bits_Get.calls _ _ l0 a2 t111 _ ?side1 ?side2 A19.out).mono ?_); (case side1 => repeat (first | exact (Kd.C_below HR0.out (by repeat (first | (with_reducible first | exact HB.out | apply below_alloc | apply pw_below_drewN | apply below_drew1) | exact HB.out))) | (with_reducible refine Kd.C_alloc ?_ _) | (with_reducible refine Kd.C_drewN ?_ _) | (with_reducible refine Kd.C_drew ?_))); (case side2 => exact HC0.out); rintro e w' ⟨rfl, ⟨nd, rfl⟩⟩))
                  go_meet
                  case rel => exact ⟨_, ((t110 != t111)), (by first | rfl | (simp; done) | (simp [*]; done)), H', ⟨by have := HJ5.out; have := HJ10.out; first | omega | exact Nat.le_refl _⟩, ⟨by (with_reducible repeat (first | apply Kd.R_alloc | apply Kd.R_drewN | apply Kd.R_drew)); exact HO_10.out⟩, ⟨by repeat (first | (with_reducible first | exact HB.out | apply below_alloc | apply pw_below_drewN | apply below_drew1) | exact HB.out)⟩⟩
              · rw [if_neg c15] at H
                have c15b0 : ((t107.length : Int) == (l0.length : Int)) = false := beq_eq_false_iff_ne.mpr c15
                have c15b1 : ((t107.length : Int) != (l0.length : Int)) = true := bne_iff_ne.mpr c15
                have c15b2 : (t107.length == l0.length) = false := by first | simpa using c15 | (simp at c15 ⊢; omega)
                (first | rw [c15b0] | (simp only [i64_w, i32_w]; rw [c15b0]) | skip)
                have H' := Aside0.mk H
                clear H
                obtain ⟨Ao21, co21, eo21⟩ := Kd.R_slice HO_10.out
                subst eo21
                go_wp2
                go_meet
                case rel => exact ⟨_, (true), (by first | rfl | (simp; done) | (simp [*]; done)), H', ⟨by have := HJ5.out; have := HJ10.out; first | omega | exact Nat.le_refl _⟩, ⟨by (with_reducible repeat (first | apply Kd.R_alloc | apply Kd.R_drewN | apply Kd.R_drew)); exact HO_10.out⟩, ⟨by repeat (first | (with_reducible first | exact HB.out | apply below_alloc | apply pw_below_drewN | apply below_drew1) | exact HB.out)⟩⟩
            case rest =>
              clear HC14
              try clear c1
              try clear p2
              try clear c4
              try clear c6
              try clear p6
              try clear c7
              try clear c8
              try clear c9
              try clear c13
              try clear c13b0
              try clear c15
              try clear c15b0
              try clear c15b1
              try clear c15b2
              try clear c16
              try clear c16b0
              try clear c16b1
              try clear p2
              try clear p6
              obtain ⟨kq, x55_13, rfl, HA, HJ13, HO_10, HB⟩ := hcut
              cases kq with
              | zero => exact absurd HA.out (by simp [lockgatelaw2_BitsTurn.j2])
              | succ kj13 =>
                have H := HA.out
                clear HA
                simp only [lockgatelaw2_BitsTurn.j2] at H
                by_cases c22 : x55_13 = true
                · subst c22
                  have H1 : (some false) = some r := by rw [if_pos rfl] at H; exact H
                  clear H
                  have H := H1
                  clear H1
                  obtain rfl := Option.some.inj H
                  go_wp2
                  go_ret
                  exact ⟨by first | rfl | (simp [errW_none, errW_some] <;> rfl) | (simp [*, errW_none, errW_some] <;> rfl), by repeat (first | (with_reducible first | exact HB.out | apply below_alloc | apply pw_below_drewN | apply below_drew1) | exact HB.out)⟩
                · replace c22 := Bool.eq_false_iff.mpr c22
                  subst c22
                  have H1 : ((bits_Get.f l0 a1).bind fun t112 => ((bits_Count.f t107 (wrap64 (8 * (l0.length : Int)))).bind fun t113 => ((bits_Count.f l0 (wrap64 (8 * (l0.length : Int)))).bind fun t114 => (if x11_10 = true then (if a3 = true then (lockgatelaw2_BitsTurn.j3 kj13 a1 a3 t107 x11_10 t112 (wrap64 (t113 - t114)) 0 (!t112)) else (lockgatelaw2_BitsTurn.j3 kj13 a1 a3 t107 x11_10 t112 (wrap64 (t113 - t114)) 0 false)) else (lockgatelaw2_BitsTurn.j3 kj13 a1 a3 t107 x11_10 t112 (wrap64 (t113 - t114)) 0 false))))) = some r := by rw [if_neg (show ¬ (false = true) by decide)] at H; exact H
                  clear H
                  have H := H1
                  clear H1
                  replace H := Option.bind_eq_some_iff.mp H
                  obtain ⟨t112, A230, H⟩ := H
                  replace H : ((bits_Count.f t107 (wrap64 (8 * (l0.length : Int)))).bind fun t113 => ((bits_Count.f l0 (wrap64 (8 * (l0.length : Int)))).bind fun t114 => (if x11_10 = true then (if a3 = true then (lockgatelaw2_BitsTurn.j3 kj13 a1 a3 t107 x11_10 t112 (wrap64 (t113 - t114)) 0 (!t112)) else (lockgatelaw2_BitsTurn.j3 kj13 a1 a3 t107 x11_10 t112 (wrap64 (t113 - t114)) 0 false)) else (lockgatelaw2_BitsTurn.j3 kj13 a1 a3 t107 x11_10 t112 (wrap64 (t113 - t114)) 0 false)))) = some r := H
                  have A23 := Aside0.mk A230
                  clear A230
                  replace H := Option.bind_eq_some_iff.mp H
                  obtain ⟨t113, A240, H⟩ := H
                  replace H : ((bits_Count.f l0 (wrap64 (8 * (l0.length : Int)))).bind fun t114 => (if x11_10 = true then (if a3 = true then (lockgatelaw2_BitsTurn.j3 kj13 a1 a3 t107 x11_10 t112 (wrap64 (t113 - t114)) 0 (!t112)) else (lockgatelaw2_BitsTurn.j3 kj13 a1 a3 t107 x11_10 t112 (wrap64 (t113 - t114)) 0 false)) else (lockgatelaw2_BitsTurn.j3 kj13 a1 a3 t107 x11_10 t112 (wrap64 (t113 - t114)) 0 false))) = some r := H
                  have A24 := Aside0.mk A240
                  clear A240
                  replace H := Option.bind_eq_some_iff.mp H
                  obtain ⟨t114, A250, H⟩ := H
                  replace H : (if x11_10 = true then (if a3 = true then (lockgatelaw2_BitsTurn.j3 kj13 a1 a3 t107 x11_10 t112 (wrap64 (t113 - t114)) 0 (!t112)) else (lockgatelaw2_BitsTurn.j3 kj13 a1 a3 t107 x11_10 t112 (wrap64 (t113 - t114)) 0 false)) else (lockgatelaw2_BitsTurn.j3 kj13 a1 a3 t107 x11_10 t112 (wrap64 (t113 - t114)) 0 false)) = some r := H
                  have A25 := Aside0.mk A250
                  clear A250
                  have HC26 := Aside0.mk H
                  clear H
                  go_upto_region 11 with (first | ((with_reducible refine gate_callee (f := 11) rfl ?_); refine goesL_ (some 58) rfl rfl Try.func11 (by kernel_rfl) rfl #[.slice A0 l0.length c0, .int .i64 a1] rfl (by (try simp only [List.map_toArray, List.map_cons, List.map_nil]); first | done | rfl | (simp only [List.length_drop, List.length_take]; rfl)) ?_; (with_reducible refine (bits_Get.calls _ _ l0 a1 t112 _ ?side1 ?side2 A23.out).mono ?_); (case side1 => repeat (first | exact (Kd.C_below HR0.out HB.out) | (with_reducible refine Kd.C_alloc ?_ _) | (with_reducible refine Kd.C_drewN ?_ _) | (with_reducible refine Kd.C_drew ?_))); (case side2 => exact HC0.out); rintro e w' ⟨rfl, ⟨nd, rfl⟩⟩; refine ⟨_, rfl, ?_⟩; obtain ⟨Ao27, co27, eo27⟩ := Kd.R_slice HO_10.out; subst eo27) | ((with_reducible refine gate_callee (f := 13) rfl ?_); refine goesL_ (some 63) rfl rfl Try.func13 (by kernel_rfl) rfl #[.slice Ao27 t107.length co27, .int .i64 (wrap64 (8 * (l0.length : Int)))] rfl (by (try simp only [List.map_toArray, List.map_cons, List.map_nil]); first | done | rfl | (simp only [List.length_drop, List.length_take]; rfl)) ?_; (with_reducible refine (bits_Count.calls _ _ t107 (wrap64 (8 * (l0.length : Int))) t113 _ ?side1 ?side2 A24.out).mono ?_); (case side1 => repeat (first | exact (Kd.R_reads' HO_10.out).2.2 | (with_reducible refine Kd.C_alloc ?_ _) | (with_reducible refine Kd.C_drewN ?_ _) | (with_reducible refine Kd.C_drew ?_))); (case side2 => exact (Kd.R_reads' HO_10.out).2.1); rintro e w28 ⟨rfl, hb⟩; refine ⟨_, rfl, ?_⟩; have n0_ := Aside0.mk (Kd.R_below (by (with_reducible repeat (first | apply Kd.R_alloc | apply Kd.R_drewN | apply Kd.R_drew)); exact HO_10.out) hb); have n1_ := Aside0.mk (below_step (by repeat (first | (with_reducible first | exact HB.out | apply below_alloc | apply pw_below_drewN | apply below_drew1) | exact HB.out)) hb); clear HO_10; clear HB; have HO_10 := n0_; have HB := n1_; clear n0_ n1_; (try clear hb); (try clear hb2); (try clear hk); (try clear hi)) | ((with_reducible refine gate_callee (f := 13) rfl ?_); refine goesL_ (some 68) rfl rfl Try.func13 (by kernel_rfl) rfl #[.slice A0 l0.length c0, .int .i64 (wrap64 (8 * (l0.length : Int)))] rfl (by (try simp only [List.map_toArray, List.map_cons, List.map_nil]); first | done | rfl | (simp only [List.length_drop, List.length_take]; rfl)) ?_; (with_reducible refine (bits_Count.calls _ _ l0 (wrap64 (8 * (l0.length : Int))) t114 _ ?side1 ?side2 A25.out).mono ?_); (case side1 => repeat (first | exact (Kd.C_below HR0.out HB.out) | (with_reducible refine Kd.C_alloc ?_ _) | (with_reducible refine Kd.C_drewN ?_ _) | (with_reducible refine Kd.C_drew ?_))); (case side2 => exact HC0.out); rintro e w29 ⟨rfl, hb⟩; refine ⟨_, rfl, ?_⟩; have n0_ := Aside0.mk (Kd.R_below (by (with_reducible repeat (first | apply Kd.R_alloc | apply Kd.R_drewN | apply Kd.R_drew)); exact HO_10.out) hb); have n1_ := Aside0.mk (below_step (by repeat (first | (with_reducible first | exact HB.out | apply below_alloc | apply pw_below_drewN | apply below_drew1) | exact HB.out)) hb); clear HO_10; clear HB; have HO_10 := n0_; have HB := n1_; clear n0_ n1_; (try clear hb); (try clear hb2); (try clear hk); (try clear hi)))
                  (try simp only [Act.put, List.setIfInBounds_toArray, List.set_cons_zero, List.set_cons_succ])
                  go_cut [77] (fun v77 wc => ∃ (kq : Nat) (x77_25 : Bool), v77 = .bool x77_25 ∧ Aside0 (lockgatelaw2_BitsTurn.j3 kq a1 a3 t107 x11_10 t112 (wrap64 (t113 - t114)) 0 x77_25 = some r) ∧ Aside0 (kq ≤ kj13) ∧ Aside0 (Kd.R (Kd.int .u8) 5 wc w.heap.size (fun _ => True) (.slice Ao27 t107.length co27) t107) ∧ Aside0 (Below w.heap.size w wc))
                  case first =>
                    have H := HC26.out
                    clear HC26
                    by_cases c30 : x11_10 = true
                    · subst c30
                      have H1 : (if a3 = true then (lockgatelaw2_BitsTurn.j3 kj13 a1 a3 t107 true t112 (wrap64 (t113 - t114)) 0 (!t112)) else (lockgatelaw2_BitsTurn.j3 kj13 a1 a3 t107 true t112 (wrap64 (t113 - t114)) 0 false)) = some r := by rw [if_pos rfl] at H; exact H
                      clear H
                      have H := H1
                      clear H1
                      by_cases c31 : a3 = true
                      · subst c31
                        have H1 : (lockgatelaw2_BitsTurn.j3 kj13 a1 true t107 true t112 (wrap64 (t113 - t114)) 0 (!t112)) = some r := by rw [if_pos rfl] at H; exact H
                        clear H
                        have H := H1
                        clear H1
                        have H' := Aside0.mk H
                        clear H
                        go_wp2
                        go_meet
                        case rel => exact ⟨_, (!t112), (by first | rfl | (simp; done) | (simp [*]; done)), H', ⟨by have := HJ5.out; have := HJ10.out; have := HJ13.out; first | omega | exact Nat.le_refl _⟩, ⟨by (with_reducible repeat (first | apply Kd.R_alloc | apply Kd.R_drewN | apply Kd.R_drew)); exact HO_10.out⟩, ⟨by repeat (first | (with_reducible first | exact HB.out | apply below_alloc | apply pw_below_drewN | apply below_drew1) | exact HB.out)⟩⟩
                      · replace c31 := Bool.eq_false_iff.mpr c31
                        subst c31
                        have H1 : (lockgatelaw2_BitsTurn.j3 kj13 a1 false t107 true t112 (wrap64 (t113 - t114)) 0 false) = some r := by rw [if_neg (show ¬ (false = true) by decide)] at H; exact H
                        clear H
                        have H := H1
                        clear H1
                        have H' := Aside0.mk H
                        clear H
                        go_wp2
                        go_meet
                        case rel => exact ⟨_, (false), (by first | rfl | (simp; done) | (simp [*]; done)), H', ⟨by have := HJ5.out; have := HJ10.out; have := HJ13.out; first | omega | exact Nat.le_refl _⟩, ⟨by (with_reducible repeat (first | apply Kd.R_alloc | apply Kd.R_drewN | apply Kd.R_drew)); exact HO_10.out⟩, ⟨by repeat (first | (with_reducible first | exact HB.out | apply below_alloc | apply pw_below_drewN | apply below_drew1) | exact HB.out)⟩⟩
                    · replace c30 := Bool.eq_false_iff.mpr c30
                      subst c30
                      have H1 : (lockgatelaw2_BitsTurn.j3 kj13 a1 a3 t107 false t112 (wrap64 (t113 - t114)) 0 false) = some r := by rw [if_neg (show ¬ (false = true) by decide)] at H; exact H
                      clear H
                      have H := H1
                      clear H1
                      have H' := Aside0.mk H
                      clear H
                      go_wp2
                      go_meet
                      case rel => exact ⟨_, (false), (by first | rfl | (simp; done) | (simp [*]; done)), H', ⟨by have := HJ5.out; have := HJ10.out; have := HJ13.out; first | omega | exact Nat.le_refl _⟩, ⟨by (with_reducible repeat (first | apply Kd.R_alloc | apply Kd.R_drewN | apply Kd.R_drew)); exact HO_10.out⟩, ⟨by repeat (first | (with_reducible first | exact HB.out | apply below_alloc | apply pw_below_drewN | apply below_drew1) | exact HB.out)⟩⟩
                  case rest =>
                    clear HC26
                    try clear c1
                    try clear c2
                    try clear p2
                    try clear c3
                    try clear c4
                    try clear c6
                    try clear p6
                    try clear c7
                    try clear c8
                    try clear c9
                    try clear c11
                    try clear c13
                    try clear c13b0
                    try clear c15
                    try clear c15b0
                    try clear c15b1
                    try clear c15b2
                    try clear c16
                    try clear c16b0
                    try clear c16b1
                    try clear c22
                    try clear c30
                    try clear c31
                    try clear p2
                    try clear p6
                    obtain ⟨kq, x77_25, rfl, HA, HJ25, HO_10, HB⟩ := hcut
                    cases kq with
                    | zero => exact absurd HA.out (by simp [lockgatelaw2_BitsTurn.j3])
                    | succ kj25 =>
                      have H := HA.out
                      clear HA
                      simp only [lockgatelaw2_BitsTurn.j3] at H
                      by_cases c32 : x77_25 = true
                      · subst c32
                        have H1 : (if x11_10 = true then (if a3 = true then (if (wrap64 (t113 - t114)) = 1 then ((bits_Get.f t107 a1).bind fun t115 => (some (t115 == a3))) else (some false)) else (if t112 = true then (if (wrap64 (t113 - t114)) = (-1) then ((bits_Get.f t107 a1).bind fun t116 => (some (t116 == a3))) else (some false)) else (if (wrap64 (t113 - t114)) = 1 then ((bits_Get.f t107 a1).bind fun t117 => (some (t117 == a3))) else (some false)))) else (if (wrap64 (t113 - t114)) = 1 then ((bits_Get.f t107 a1).bind fun t118 => (some (t118 == false))) else (some false))) = some r := by rw [if_pos rfl] at H; exact H
                        clear H
                        have H := H1
                        clear H1
                        by_cases c33 : x11_10 = true
                        · subst c33
                          have H1 : (if a3 = true then (if (wrap64 (t113 - t114)) = 1 then ((bits_Get.f t107 a1).bind fun t115 => (some (t115 == a3))) else (some false)) else (if t112 = true then (if (wrap64 (t113 - t114)) = (-1) then ((bits_Get.f t107 a1).bind fun t116 => (some (t116 == a3))) else (some false)) else (if (wrap64 (t113 - t114)) = 1 then ((bits_Get.f t107 a1).bind fun t117 => (some (t117 == a3))) else (some false)))) = some r := by rw [if_pos rfl] at H; exact H
                          clear H
                          have H := H1
                          clear H1
                          by_cases c34 : a3 = true
                          · subst c34
                            have H1 : (if (wrap64 (t113 - t114)) = 1 then ((bits_Get.f t107 a1).bind fun t115 => (some (t115 == true))) else (some false)) = some r := by rw [if_pos rfl] at H; exact H
                            clear H
                            have H := H1
                            clear H1
                            by_cases c35 : (wrap64 (t113 - t114)) = 1
                            · rw [if_pos c35] at H
                              have c35b0 : ((wrap64 (t113 - t114)) == 1) = true := beq_iff_eq.mpr c35
                              have c35b1 : ((wrap64 (t113 - t114)) != 1) = false := bne_eq_false_iff_eq.mpr c35
                              clear c35
                              replace H := Option.bind_eq_some_iff.mp H
                              obtain ⟨t115, A360, H⟩ := H
                              replace H : (some (t115 == true)) = some r := H
                              have A36 := Aside0.mk A360
                              clear A360
                              obtain rfl := Option.some.inj H
                              go_wp2_with (first | (go_at_call 11; (with_reducible refine (bits_Get.calls _ _ t107 a1 t115 _ ?side1 ?side2 A36.out).mono ?_); (case side1 => repeat (first | exact (Kd.R_reads' HO_10.out).2.2 | (with_reducible refine Kd.C_alloc ?_ _) | (with_reducible refine Kd.C_drewN ?_ _) | (with_reducible refine Kd.C_drew ?_))); (case side2 => exact (Kd.R_reads' HO_10.out).2.1); rintro e w' ⟨rfl, ⟨nd, rfl⟩⟩))
                              go_ret
                              exact ⟨by first | rfl | (simp [errW_none, errW_some] <;> rfl) | (simp [*, errW_none, errW_some] <;> rfl), by repeat (first | (with_reducible first | exact HB.out | apply below_alloc | apply pw_below_drewN | apply below_drew1) | exact HB.out)⟩
                            · rw [if_neg c35] at H
                              have c35b0 : ((wrap64 (t113 - t114)) == 1) = false := beq_eq_false_iff_ne.mpr c35
                              have c35b1 : ((wrap64 (t113 - t114)) != 1) = true := bne_iff_ne.mpr c35
                              obtain rfl := Option.some.inj H
                              go_wp2
                              go_ret
                              exact ⟨by first | rfl | (simp [errW_none, errW_some] <;> rfl) | (simp [*, errW_none, errW_some] <;> rfl), by repeat (first | (with_reducible first | exact HB.out | apply below_alloc | apply pw_below_drewN | apply below_drew1) | exact HB.out)⟩
                          · replace c34 := Bool.eq_false_iff.mpr c34
                            subst c34
                            have H1 : (if t112 = true then (if (wrap64 (t113 - t114)) = (-1) then ((bits_Get.f t107 a1).bind fun t116 => (some (t116 == false))) else (some false)) else (if (wrap64 (t113 - t114)) = 1 then ((bits_Get.f t107 a1).bind fun t117 => (some (t117 == false))) else (some false))) = some r := by rw [if_neg (show ¬ (false = true) by decide)] at H; exact H
                            clear H
                            have H := H1
                            clear H1
                            by_cases c37 : t112 = true
                            · subst c37
                              have H1 : (if (wrap64 (t113 - t114)) = (-1) then ((bits_Get.f t107 a1).bind fun t116 => (some (t116 == false))) else (some false)) = some r := by rw [if_pos rfl] at H; exact H
                              clear H
                              have H := H1
                              clear H1
                              by_cases c38 : (wrap64 (t113 - t114)) = (-1)
                              · rw [if_pos c38] at H
                                have c38b0 : ((wrap64 (t113 - t114)) == (-1)) = true := beq_iff_eq.mpr c38
                                have c38b1 : ((wrap64 (t113 - t114)) != (-1)) = false := bne_eq_false_iff_eq.mpr c38
                                clear c38
                                replace H := Option.bind_eq_some_iff.mp H
                                obtain ⟨t116, A390, H⟩ := H
                                replace H : (some (t116 == false)) = some r := H
                                have A39 := Aside0.mk A390
                                clear A390
                                obtain rfl := Option.some.inj H
                                go_wp2_with (first | (go_at_call 11; (with_reducible refine (bits_Get.calls _ _ t107 a1 t116 _ ?side1 ?side2 A39.out).mono ?_); (case side1 => repeat (first | exact (Kd.R_reads' HO_10.out).2.2 | (with_reducible refine Kd.C_alloc ?_ _) | (with_reducible refine Kd.C_drewN ?_ _) | (with_reducible refine Kd.C_drew ?_))); (case side2 => exact (Kd.R_reads' HO_10.out).2.1); rintro e w' ⟨rfl, ⟨nd, rfl⟩⟩))
                                go_ret
                                exact ⟨by first | rfl | (simp [errW_none, errW_some] <;> rfl) | (simp [*, errW_none, errW_some] <;> rfl), by repeat (first | (with_reducible first | exact HB.out | apply below_alloc | apply pw_below_drewN | apply below_drew1) | exact HB.out)⟩
                              · rw [if_neg c38] at H
                                have c38b0 : ((wrap64 (t113 - t114)) == (-1)) = false := beq_eq_false_iff_ne.mpr c38
                                have c38b1 : ((wrap64 (t113 - t114)) != (-1)) = true := bne_iff_ne.mpr c38
                                obtain rfl := Option.some.inj H
                                go_wp2
                                go_ret
                                exact ⟨by first | rfl | (simp [errW_none, errW_some] <;> rfl) | (simp [*, errW_none, errW_some] <;> rfl), by repeat (first | (with_reducible first | exact HB.out | apply below_alloc | apply pw_below_drewN | apply below_drew1) | exact HB.out)⟩
                            · replace c37 := Bool.eq_false_iff.mpr c37
                              subst c37
                              have H1 : (if (wrap64 (t113 - t114)) = 1 then ((bits_Get.f t107 a1).bind fun t117 => (some (t117 == false))) else (some false)) = some r := by rw [if_neg (show ¬ (false = true) by decide)] at H; exact H
                              clear H
                              have H := H1
                              clear H1
                              by_cases c40 : (wrap64 (t113 - t114)) = 1
                              · rw [if_pos c40] at H
                                have c40b0 : ((wrap64 (t113 - t114)) == 1) = true := beq_iff_eq.mpr c40
                                have c40b1 : ((wrap64 (t113 - t114)) != 1) = false := bne_eq_false_iff_eq.mpr c40
                                clear c40
                                replace H := Option.bind_eq_some_iff.mp H
                                obtain ⟨t117, A410, H⟩ := H
                                replace H : (some (t117 == false)) = some r := H
                                have A41 := Aside0.mk A410
                                clear A410
                                obtain rfl := Option.some.inj H
                                go_wp2_with (first | (go_at_call 11; (with_reducible refine (bits_Get.calls _ _ t107 a1 t117 _ ?side1 ?side2 A41.out).mono ?_); (case side1 => repeat (first | exact (Kd.R_reads' HO_10.out).2.2 | (with_reducible refine Kd.C_alloc ?_ _) | (with_reducible refine Kd.C_drewN ?_ _) | (with_reducible refine Kd.C_drew ?_))); (case side2 => exact (Kd.R_reads' HO_10.out).2.1); rintro e w' ⟨rfl, ⟨nd, rfl⟩⟩))
                                go_ret
                                exact ⟨by first | rfl | (simp [errW_none, errW_some] <;> rfl) | (simp [*, errW_none, errW_some] <;> rfl), by repeat (first | (with_reducible first | exact HB.out | apply below_alloc | apply pw_below_drewN | apply below_drew1) | exact HB.out)⟩
                              · rw [if_neg c40] at H
                                have c40b0 : ((wrap64 (t113 - t114)) == 1) = false := beq_eq_false_iff_ne.mpr c40
                                have c40b1 : ((wrap64 (t113 - t114)) != 1) = true := bne_iff_ne.mpr c40
                                obtain rfl := Option.some.inj H
                                go_wp2
                                go_ret
                                exact ⟨by first | rfl | (simp [errW_none, errW_some] <;> rfl) | (simp [*, errW_none, errW_some] <;> rfl), by repeat (first | (with_reducible first | exact HB.out | apply below_alloc | apply pw_below_drewN | apply below_drew1) | exact HB.out)⟩
                        · replace c33 := Bool.eq_false_iff.mpr c33
                          subst c33
                          have H1 : (if (wrap64 (t113 - t114)) = 1 then ((bits_Get.f t107 a1).bind fun t118 => (some (t118 == false))) else (some false)) = some r := by rw [if_neg (show ¬ (false = true) by decide)] at H; exact H
                          clear H
                          have H := H1
                          clear H1
                          by_cases c42 : (wrap64 (t113 - t114)) = 1
                          · rw [if_pos c42] at H
                            have c42b0 : ((wrap64 (t113 - t114)) == 1) = true := beq_iff_eq.mpr c42
                            have c42b1 : ((wrap64 (t113 - t114)) != 1) = false := bne_eq_false_iff_eq.mpr c42
                            clear c42
                            replace H := Option.bind_eq_some_iff.mp H
                            obtain ⟨t118, A430, H⟩ := H
                            replace H : (some (t118 == false)) = some r := H
                            have A43 := Aside0.mk A430
                            clear A430
                            obtain rfl := Option.some.inj H
                            go_wp2_with (first | (go_at_call 11; (with_reducible refine (bits_Get.calls _ _ t107 a1 t118 _ ?side1 ?side2 A43.out).mono ?_); (case side1 => repeat (first | exact (Kd.R_reads' HO_10.out).2.2 | (with_reducible refine Kd.C_alloc ?_ _) | (with_reducible refine Kd.C_drewN ?_ _) | (with_reducible refine Kd.C_drew ?_))); (case side2 => exact (Kd.R_reads' HO_10.out).2.1); rintro e w' ⟨rfl, ⟨nd, rfl⟩⟩))
                            go_ret
                            exact ⟨by first | rfl | (simp [errW_none, errW_some] <;> rfl) | (simp [*, errW_none, errW_some] <;> rfl), by repeat (first | (with_reducible first | exact HB.out | apply below_alloc | apply pw_below_drewN | apply below_drew1) | exact HB.out)⟩
                          · rw [if_neg c42] at H
                            have c42b0 : ((wrap64 (t113 - t114)) == 1) = false := beq_eq_false_iff_ne.mpr c42
                            have c42b1 : ((wrap64 (t113 - t114)) != 1) = true := bne_iff_ne.mpr c42
                            obtain rfl := Option.some.inj H
                            go_wp2
                            go_ret
                            exact ⟨by first | rfl | (simp [errW_none, errW_some] <;> rfl) | (simp [*, errW_none, errW_some] <;> rfl), by repeat (first | (with_reducible first | exact HB.out | apply below_alloc | apply pw_below_drewN | apply below_drew1) | exact HB.out)⟩
                      · replace c32 := Bool.eq_false_iff.mpr c32
                        subst c32
                        have H1 : (if x11_10 = true then (if a3 = true then (if (wrap64 (t113 - t114)) = 0 then ((bits_Get.f t107 a1).bind fun t119 => (some (t119 == a3))) else (some false)) else (if t112 = true then (if (wrap64 (t113 - t114)) = (-1) then ((bits_Get.f t107 a1).bind fun t120 => (some (t120 == a3))) else (some false)) else (if (wrap64 (t113 - t114)) = 0 then ((bits_Get.f t107 a1).bind fun t121 => (some (t121 == a3))) else (some false)))) else (if (wrap64 (t113 - t114)) = 0 then ((bits_Get.f t107 a1).bind fun t122 => (some (t122 == false))) else (some false))) = some r := by rw [if_neg (show ¬ (false = true) by decide)] at H; exact H
                        clear H
                        have H := H1
                        clear H1
                        by_cases c44 : x11_10 = true
                        · subst c44
                          have H1 : (if a3 = true then (if (wrap64 (t113 - t114)) = 0 then ((bits_Get.f t107 a1).bind fun t119 => (some (t119 == a3))) else (some false)) else (if t112 = true then (if (wrap64 (t113 - t114)) = (-1) then ((bits_Get.f t107 a1).bind fun t120 => (some (t120 == a3))) else (some false)) else (if (wrap64 (t113 - t114)) = 0 then ((bits_Get.f t107 a1).bind fun t121 => (some (t121 == a3))) else (some false)))) = some r := by rw [if_pos rfl] at H; exact H
                          clear H
                          have H := H1
                          clear H1
                          by_cases c45 : a3 = true
                          · subst c45
                            have H1 : (if (wrap64 (t113 - t114)) = 0 then ((bits_Get.f t107 a1).bind fun t119 => (some (t119 == true))) else (some false)) = some r := by rw [if_pos rfl] at H; exact H
                            clear H
                            have H := H1
                            clear H1
                            by_cases c46 : (wrap64 (t113 - t114)) = 0
                            · rw [if_pos c46] at H
                              have c46b0 : ((wrap64 (t113 - t114)) == 0) = true := beq_iff_eq.mpr c46
                              have c46b1 : ((wrap64 (t113 - t114)) != 0) = false := bne_eq_false_iff_eq.mpr c46
                              clear c46
                              replace H := Option.bind_eq_some_iff.mp H
                              obtain ⟨t119, A470, H⟩ := H
                              replace H : (some (t119 == true)) = some r := H
                              have A47 := Aside0.mk A470
                              clear A470
                              obtain rfl := Option.some.inj H
                              go_wp2_with (first | (go_at_call 11; (with_reducible refine (bits_Get.calls _ _ t107 a1 t119 _ ?side1 ?side2 A47.out).mono ?_); (case side1 => repeat (first | exact (Kd.R_reads' HO_10.out).2.2 | (with_reducible refine Kd.C_alloc ?_ _) | (with_reducible refine Kd.C_drewN ?_ _) | (with_reducible refine Kd.C_drew ?_))); (case side2 => exact (Kd.R_reads' HO_10.out).2.1); rintro e w' ⟨rfl, ⟨nd, rfl⟩⟩))
                              go_ret
                              exact ⟨by first | rfl | (simp [errW_none, errW_some] <;> rfl) | (simp [*, errW_none, errW_some] <;> rfl), by repeat (first | (with_reducible first | exact HB.out | apply below_alloc | apply pw_below_drewN | apply below_drew1) | exact HB.out)⟩
                            · rw [if_neg c46] at H
                              have c46b0 : ((wrap64 (t113 - t114)) == 0) = false := beq_eq_false_iff_ne.mpr c46
                              have c46b1 : ((wrap64 (t113 - t114)) != 0) = true := bne_iff_ne.mpr c46
                              obtain rfl := Option.some.inj H
                              go_wp2
                              go_ret
                              exact ⟨by first | rfl | (simp [errW_none, errW_some] <;> rfl) | (simp [*, errW_none, errW_some] <;> rfl), by repeat (first | (with_reducible first | exact HB.out | apply below_alloc | apply pw_below_drewN | apply below_drew1) | exact HB.out)⟩
                          · replace c45 := Bool.eq_false_iff.mpr c45
                            subst c45
                            have H1 : (if t112 = true then (if (wrap64 (t113 - t114)) = (-1) then ((bits_Get.f t107 a1).bind fun t120 => (some (t120 == false))) else (some false)) else (if (wrap64 (t113 - t114)) = 0 then ((bits_Get.f t107 a1).bind fun t121 => (some (t121 == false))) else (some false))) = some r := by rw [if_neg (show ¬ (false = true) by decide)] at H; exact H
                            clear H
                            have H := H1
                            clear H1
                            by_cases c48 : t112 = true
                            · subst c48
                              have H1 : (if (wrap64 (t113 - t114)) = (-1) then ((bits_Get.f t107 a1).bind fun t120 => (some (t120 == false))) else (some false)) = some r := by rw [if_pos rfl] at H; exact H
                              clear H
                              have H := H1
                              clear H1
                              by_cases c49 : (wrap64 (t113 - t114)) = (-1)
                              · rw [if_pos c49] at H
                                have c49b0 : ((wrap64 (t113 - t114)) == (-1)) = true := beq_iff_eq.mpr c49
                                have c49b1 : ((wrap64 (t113 - t114)) != (-1)) = false := bne_eq_false_iff_eq.mpr c49
                                clear c49
                                replace H := Option.bind_eq_some_iff.mp H
                                obtain ⟨t120, A500, H⟩ := H
                                replace H : (some (t120 == false)) = some r := H
                                have A50 := Aside0.mk A500
                                clear A500
                                obtain rfl := Option.some.inj H
                                go_wp2_with (first | (go_at_call 11; (with_reducible refine (bits_Get.calls _ _ t107 a1 t120 _ ?side1 ?side2 A50.out).mono ?_); (case side1 => repeat (first | exact (Kd.R_reads' HO_10.out).2.2 | (with_reducible refine Kd.C_alloc ?_ _) | (with_reducible refine Kd.C_drewN ?_ _) | (with_reducible refine Kd.C_drew ?_))); (case side2 => exact (Kd.R_reads' HO_10.out).2.1); rintro e w' ⟨rfl, ⟨nd, rfl⟩⟩))
                                go_ret
                                exact ⟨by first | rfl | (simp [errW_none, errW_some] <;> rfl) | (simp [*, errW_none, errW_some] <;> rfl), by repeat (first | (with_reducible first | exact HB.out | apply below_alloc | apply pw_below_drewN | apply below_drew1) | exact HB.out)⟩
                              · rw [if_neg c49] at H
                                have c49b0 : ((wrap64 (t113 - t114)) == (-1)) = false := beq_eq_false_iff_ne.mpr c49
                                have c49b1 : ((wrap64 (t113 - t114)) != (-1)) = true := bne_iff_ne.mpr c49
                                obtain rfl := Option.some.inj H
                                go_wp2
                                go_ret
                                exact ⟨by first | rfl | (simp [errW_none, errW_some] <;> rfl) | (simp [*, errW_none, errW_some] <;> rfl), by repeat (first | (with_reducible first | exact HB.out | apply below_alloc | apply pw_below_drewN | apply below_drew1) | exact HB.out)⟩
                            · replace c48 := Bool.eq_false_iff.mpr c48
                              subst c48
                              have H1 : (if (wrap64 (t113 - t114)) = 0 then ((bits_Get.f t107 a1).bind fun t121 => (some (t121 == false))) else (some false)) = some r := by rw [if_neg (show ¬ (false = true) by decide)] at H; exact H
                              clear H
                              have H := H1
                              clear H1
                              by_cases c51 : (wrap64 (t113 - t114)) = 0
                              · rw [if_pos c51] at H
                                have c51b0 : ((wrap64 (t113 - t114)) == 0) = true := beq_iff_eq.mpr c51
                                have c51b1 : ((wrap64 (t113 - t114)) != 0) = false := bne_eq_false_iff_eq.mpr c51
                                clear c51
                                replace H := Option.bind_eq_some_iff.mp H
                                obtain ⟨t121, A520, H⟩ := H
                                replace H : (some (t121 == false)) = some r := H
                                have A52 := Aside0.mk A520
                                clear A520
                                obtain rfl := Option.some.inj H
                                go_wp2_with (first | (go_at_call 11; (with_reducible refine (bits_Get.calls _ _ t107 a1 t121 _ ?side1 ?side2 A52.out).mono ?_); (case side1 => repeat (first | exact (Kd.R_reads' HO_10.out).2.2 | (with_reducible refine Kd.C_alloc ?_ _) | (with_reducible refine Kd.C_drewN ?_ _) | (with_reducible refine Kd.C_drew ?_))); (case side2 => exact (Kd.R_reads' HO_10.out).2.1); rintro e w' ⟨rfl, ⟨nd, rfl⟩⟩))
                                go_ret
                                exact ⟨by first | rfl | (simp [errW_none, errW_some] <;> rfl) | (simp [*, errW_none, errW_some] <;> rfl), by repeat (first | (with_reducible first | exact HB.out | apply below_alloc | apply pw_below_drewN | apply below_drew1) | exact HB.out)⟩
                              · rw [if_neg c51] at H
                                have c51b0 : ((wrap64 (t113 - t114)) == 0) = false := beq_eq_false_iff_ne.mpr c51
                                have c51b1 : ((wrap64 (t113 - t114)) != 0) = true := bne_iff_ne.mpr c51
                                obtain rfl := Option.some.inj H
                                go_wp2
                                go_ret
                                exact ⟨by first | rfl | (simp [errW_none, errW_some] <;> rfl) | (simp [*, errW_none, errW_some] <;> rfl), by repeat (first | (with_reducible first | exact HB.out | apply below_alloc | apply pw_below_drewN | apply below_drew1) | exact HB.out)⟩
                        · replace c44 := Bool.eq_false_iff.mpr c44
                          subst c44
                          have H1 : (if (wrap64 (t113 - t114)) = 0 then ((bits_Get.f t107 a1).bind fun t122 => (some (t122 == false))) else (some false)) = some r := by rw [if_neg (show ¬ (false = true) by decide)] at H; exact H
                          clear H
                          have H := H1
                          clear H1
                          by_cases c53 : (wrap64 (t113 - t114)) = 0
                          · rw [if_pos c53] at H
                            have c53b0 : ((wrap64 (t113 - t114)) == 0) = true := beq_iff_eq.mpr c53
                            have c53b1 : ((wrap64 (t113 - t114)) != 0) = false := bne_eq_false_iff_eq.mpr c53
                            clear c53
                            replace H := Option.bind_eq_some_iff.mp H
                            obtain ⟨t122, A540, H⟩ := H
                            replace H : (some (t122 == false)) = some r := H
                            have A54 := Aside0.mk A540
                            clear A540
                            obtain rfl := Option.some.inj H
                            go_wp2_with (first | (go_at_call 11; (with_reducible refine (bits_Get.calls _ _ t107 a1 t122 _ ?side1 ?side2 A54.out).mono ?_); (case side1 => repeat (first | exact (Kd.R_reads' HO_10.out).2.2 | (with_reducible refine Kd.C_alloc ?_ _) | (with_reducible refine Kd.C_drewN ?_ _) | (with_reducible refine Kd.C_drew ?_))); (case side2 => exact (Kd.R_reads' HO_10.out).2.1); rintro e w' ⟨rfl, ⟨nd, rfl⟩⟩))
                            go_ret
                            exact ⟨by first | rfl | (simp [errW_none, errW_some] <;> rfl) | (simp [*, errW_none, errW_some] <;> rfl), by repeat (first | (with_reducible first | exact HB.out | apply below_alloc | apply pw_below_drewN | apply below_drew1) | exact HB.out)⟩
                          · rw [if_neg c53] at H
                            have c53b0 : ((wrap64 (t113 - t114)) == 0) = false := beq_eq_false_iff_ne.mpr c53
                            have c53b1 : ((wrap64 (t113 - t114)) != 0) = true := bne_iff_ne.mpr c53
                            obtain rfl := Option.some.inj H
                            go_wp2
                            go_ret
                            exact ⟨by first | rfl | (simp [errW_none, errW_some] <;> rfl) | (simp [*, errW_none, errW_some] <;> rfl), by repeat (first | (with_reducible first | exact HB.out | apply below_alloc | apply pw_below_drewN | apply below_drew1) | exact HB.out)⟩

/-- THE ONE PURE STATEMENT of lockgatelaw2_BitsTurn: yours. -/
def lockgatelaw2_BitsTurn.Pure : Prop := ∀ (l0 : List Int) (a1 : Int) (a2 : Int) (a3 : Bool), l0.length ≤ maxLen → l0.length * 1 ≤ 140737488351232 → (∀ x ∈ l0, (Lit.int .u8 x).wf = true) → (Lit.int .i64 a1).wf = true → (Lit.int .i64 a2).wf = true → ∃ k, lockgatelaw2_BitsTurn.f k l0 a1 a2 a3 = some true
theorem lockgatelaw2_BitsTurn.walk (P : lockgatelaw2_BitsTurn.Pure) (a0 : Option Addr) (len0 cap0 : Nat) (z0 : List Int) (a1 : Int) (a2 : Int) (a3 : Bool) (w : World) (w0 : (a0 = none ∧ len0 = 0 ∧ cap0 = 0 ∧ z0 = []) ∨ ∃ x, a0 = some x ∧ len0 ≤ cap0 ∧ cap0 ≤ maxLen ∧ z0.length = cap0 ∧ (∀ i, i < z0.length → w.cell? (x.add i) = some (.int .u8 (z0.getD i 0))) ∧ ∀ n ∈ z0, (Lit.int .u8 n).wf = true) (y0 : len0 * 1 ≤ 140737488351232) (w1 : (Lit.int .i64 a1).wf = true) (w2 : (Lit.int .i64 a2).wf = true) :
    Calls Try.prog 4 #[.slice a0 len0 cap0, .int .i64 a1, .int .i64 a2, .bool a3] w fun e w' => e = .returned (.bool true) ∧ Below w.heap.size w w' := by
  obtain ⟨l0, rfl, hr0, hm0, hw0, hc0⟩ := ReadsInt.ofRowC w0
  obtain ⟨k, h⟩ := P l0 a1 a2 a3 hm0 y0 hw0 w1 w2
  refine (lockgatelaw2_BitsTurn.calls k _ _ l0 a1 a2 a3 true w (Kd.C_of_reads (d := (0 : Int)) (h1 := fun _ => rfl) hr0) hc0 h).mono ?_
  rintro e w' ⟨rfl, hd⟩
  exact ⟨rfl, hd⟩

end Go.Proofs.Ytngkneggkjfiiaa.PBitsTurn
