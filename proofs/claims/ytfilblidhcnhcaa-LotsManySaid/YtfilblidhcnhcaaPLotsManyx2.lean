-- written by the session's program wip/print/patch.py (a turned copy of the print) over contracts that the session proved by hand
import Derived.Test.YtfilblidhcnhcaaPLotsManyx0
import Derived.Test.YtfilblidhcnhcaaPLotsManyx1
namespace Go.Proofs.Ytfilblidhcnhcaa.PLotsMany
open Go.Proofs.Ytfilblidhcnhcaa.Given Go.Proofs.Ytfilblidhcnhcaa.PLotsFns
open Go.RowKit Go.Proofs.YtfilblidhcnhcaaW.PrintWords Go.Proofs.YtfilblidhcnhcaaW.PrintLast Go.Proofs.YtfilblidhcnhcaaW.PrintMore
attribute [local go_sem] max2_int min2_int max_two min_two max_three min_three max_four min_four   -- for this text's walks alone
set_option linter.unusedVariables false
set_option linter.unusedSimpArgs false

/-! ### lockgatelaw31_LotsMany: function 5 -/
mutual
def lockgatelaw31_LotsMany.j0 : Nat → Int → Int → Int → Bool → Bool → Option (Bool)
  | 0, _, _, _, _, _ => none
  | k + 1, x0, x1, x2, x7, x29 => if x29 = true then (some x7) else ((lots_Calls.f k x0 x1).bind fun t116 => ((lots_Calls.f k x0 (wrap64 (x1 + x2))).bind fun t119 => (if (t116.length : Int) = x1 then (lockgatelaw31_LotsMany.j1 k x1 t116 t119 ((t119.length : Int) != (wrap64 (x1 + x2)))) else (lockgatelaw31_LotsMany.j1 k x1 t116 t119 true))))
def lockgatelaw31_LotsMany.j1 : Nat → Int → List (S35) → List (S35) → Bool → Option (Bool)
  | 0, _, _, _, _ => none
  | k + 1, x1, x8, x9, x50 => if x50 = true then (some false) else (lockgatelaw31_LotsMany.l0 k x1 x8 x9 0)
def lockgatelaw31_LotsMany.l0 : Nat → Int → List (S35) → List (S35) → Int → Option (Bool)
  | 0, _, _, _, _ => none
  | k + 1, x1, x8, x9, x10 => if x10 < x1 then (if 0 ≤ x10 then (if x10 < (x8.length : Int) then (if x10 < (x9.length : Int) then ((lockgateref28_SameCall.f ((rd_T35 x8 x10).f0) ((rd_T35 x8 x10).f1) ((rd_T35 x8 x10).f2) ((rd_T35 x8 x10).f3) ((rd_T35 x8 x10).f4) ((rd_T35 x8 x10).f5) ((rd_T35 x9 x10).f0) ((rd_T35 x9 x10).f1) ((rd_T35 x9 x10).f2) ((rd_T35 x9 x10).f3) ((rd_T35 x9 x10).f4) ((rd_T35 x9 x10).f5)).bind fun t124 => (if t124 = true then (if ((rd_T35 x8 x10).f0) < 1 then (some false) else (if ((rd_T35 x8 x10).f0) > 13 then (some false) else (lockgatelaw31_LotsMany.l0 k x1 x8 x9 (wrap64 (x10 + 1))))) else (some false))) else (none)) else (none)) else (none)) else (some true)
end
def lockgatelaw31_LotsMany.f (k : Nat) (a0 : Int) (a1 : Int) (a2 : Int) : Option (Bool) := (lockgatelaw31_alive.f).bind fun t115 => (if t115 = true then (if a1 < 0 then (lockgatelaw31_LotsMany.j0 k a0 a1 a2 t115 true) else (if a1 > 60 then (lockgatelaw31_LotsMany.j0 k a0 a1 a2 t115 true) else (if a2 < 0 then (lockgatelaw31_LotsMany.j0 k a0 a1 a2 t115 true) else (lockgatelaw31_LotsMany.j0 k a0 a1 a2 t115 (decide (a2 > 40)))))) else (lockgatelaw31_LotsMany.j0 k a0 a1 a2 t115 true))
theorem lockgatelaw31_LotsMany.mono_l : ∀ k, (∀ y0 y1 y2 y3 y4, LeO (lockgatelaw31_LotsMany.j0 k y0 y1 y2 y3 y4) (lockgatelaw31_LotsMany.j0 (k + 1) y0 y1 y2 y3 y4)) ∧ (∀ y0 y1 y2 y3, LeO (lockgatelaw31_LotsMany.j1 k y0 y1 y2 y3) (lockgatelaw31_LotsMany.j1 (k + 1) y0 y1 y2 y3)) ∧ (∀ y0 y1 y2 y3, LeO (lockgatelaw31_LotsMany.l0 k y0 y1 y2 y3) (lockgatelaw31_LotsMany.l0 (k + 1) y0 y1 y2 y3))
  | 0 => ⟨fun _ _ _ _ _ r h => by simp [lockgatelaw31_LotsMany.j0] at h, fun _ _ _ _ r h => by simp [lockgatelaw31_LotsMany.j1] at h, fun _ _ _ _ r h => by simp [lockgatelaw31_LotsMany.l0] at h⟩
  | k + 1 => by
    obtain ⟨ih0, ih1, ih2⟩ := lockgatelaw31_LotsMany.mono_l k
    refine ⟨?_, ?_, ?_⟩
    · intro y0 y1 y2 y3 y4
      unfold lockgatelaw31_LotsMany.j0
      repeat' first
      | (with_reducible exact ih0 _ _ _ _ _)
      | (with_reducible exact ih1 _ _ _ _)
      | (with_reducible exact ih2 _ _ _ _)
      | (with_reducible exact lots_Calls.mono _ _ _)
      | (with_reducible exact LeO.refl _)
      | (with_reducible exact LeO.none _)
      | (with_reducible refine LeO.ite ?_ ?_)
      | (with_reducible refine LeO.bind ?_ (fun _ => ?_))
      | exact ih0 _ _ _ _ _
      | exact ih1 _ _ _ _
      | exact ih2 _ _ _ _
      | exact lots_Calls.mono _ _ _
      | exact LeO.none _
      | refine LeO.ite ?_ ?_
      | refine LeO.bind ?_ (fun _ => ?_)
    · intro y0 y1 y2 y3
      unfold lockgatelaw31_LotsMany.j1
      repeat' first
      | (with_reducible exact ih0 _ _ _ _ _)
      | (with_reducible exact ih1 _ _ _ _)
      | (with_reducible exact ih2 _ _ _ _)
      | (with_reducible exact lots_Calls.mono _ _ _)
      | (with_reducible exact LeO.refl _)
      | (with_reducible exact LeO.none _)
      | (with_reducible refine LeO.ite ?_ ?_)
      | (with_reducible refine LeO.bind ?_ (fun _ => ?_))
      | exact ih0 _ _ _ _ _
      | exact ih1 _ _ _ _
      | exact ih2 _ _ _ _
      | exact lots_Calls.mono _ _ _
      | exact LeO.none _
      | refine LeO.ite ?_ ?_
      | refine LeO.bind ?_ (fun _ => ?_)
    · intro y0 y1 y2 y3
      unfold lockgatelaw31_LotsMany.l0
      repeat' first
      | (with_reducible exact ih0 _ _ _ _ _)
      | (with_reducible exact ih1 _ _ _ _)
      | (with_reducible exact ih2 _ _ _ _)
      | (with_reducible exact lots_Calls.mono _ _ _)
      | (with_reducible exact LeO.refl _)
      | (with_reducible exact LeO.none _)
      | (with_reducible refine LeO.ite ?_ ?_)
      | (with_reducible refine LeO.bind ?_ (fun _ => ?_))
      | exact ih0 _ _ _ _ _
      | exact ih1 _ _ _ _
      | exact ih2 _ _ _ _
      | exact lots_Calls.mono _ _ _
      | exact LeO.none _
      | refine LeO.ite ?_ ?_
      | refine LeO.bind ?_ (fun _ => ?_)
theorem lockgatelaw31_LotsMany.mono : ∀ a0 a1 a2 k, LeO (lockgatelaw31_LotsMany.f k a0 a1 a2) (lockgatelaw31_LotsMany.f (k + 1) a0 a1 a2) := by
  intro a0 a1 a2 k
  obtain ⟨ih0, ih1, ih2⟩ := lockgatelaw31_LotsMany.mono_l k
  unfold lockgatelaw31_LotsMany.f
  repeat' first
      | (with_reducible exact ih0 _ _ _ _ _)
      | (with_reducible exact ih1 _ _ _ _)
      | (with_reducible exact ih2 _ _ _ _)
      | (with_reducible exact lots_Calls.mono _ _ _)
      | (with_reducible exact LeO.refl _)
      | (with_reducible exact LeO.none _)
      | (with_reducible refine LeO.ite ?_ ?_)
      | (with_reducible refine LeO.bind ?_ (fun _ => ?_))
      | exact ih0 _ _ _ _ _
      | exact ih1 _ _ _ _
      | exact ih2 _ _ _ _
      | exact lots_Calls.mono _ _ _
      | exact LeO.none _
      | refine LeO.ite ?_ ?_
      | refine LeO.bind ?_ (fun _ => ?_)
def lockgatelaw31_LotsMany.T11 : Bool × List (List Nat × List Nat) := (true, [([], []), ([], []), ([0, 1], [0, 1]), ([2], [2]), ([], []), ([], []), ([4, 5], [4, 5]), ([6], [6]), ([3, 7], [3, 7]), ([8], [8]), ([9, 8], [9]), ([10], [10]), ([10], [10]), ([11, 12, 10], [10, 11, 12]), ([13, 10], [10, 13]), ([14, 10], [10, 14]), ([15, 10], [10, 15]), ([10, 16], [10, 16]), ([17, 10], [17]), ([18], [18]), ([18], [18]), ([19, 20, 18], [18, 19, 20]), ([21, 18], [18, 21]), ([22, 18], [18, 22]), ([23, 18], [18, 23]), ([18, 24], [18, 24])])
def lockgatelaw31_LotsMany.B11 : List Nat := [0, 0, 3, 7, 0, 0, 48, 112, 255, 511, 1023, 2047, 2047, 8191, 16383, 32767, 65535, 131071, 262143, 524287, 524287, 2097151, 4194303, 8388607, 16777215, 33554431]
theorem lockgatelaw31_LotsMany.tab11 : rtab .any (opsOf Try.f5 11) = lockgatelaw31_LotsMany.T11 := by kernel_rfl
theorem lockgatelaw31_LotsMany.bits11 : waitsOk lockgatelaw31_LotsMany.T11.2 lockgatelaw31_LotsMany.B11 = true := by kernel_rfl
set_option maxHeartbeats 8000000 in
set_option maxRecDepth 100000 in
theorem lockgatelaw31_LotsMany.calls (k : Nat) (a0 : Int) (a1 : Int) (a2 : Int) (r : Bool) (w : World) (h : lockgatelaw31_LotsMany.f k a0 a1 a2 = some r) :
    Calls Try.prog 5 #[.int .i64 a0, .int .i64 a1, .int .i64 a2] w fun e w' => e = .returned (.bool r) ∧ Below w.heap.size w w' := by
  have hu35 := Try.underlying35
  have HB := Aside0.mk (Below.refl w.heap.size w)
  have H : ((lockgatelaw31_alive.f).bind fun t115 => (if t115 = true then (if a1 < 0 then (lockgatelaw31_LotsMany.j0 k a0 a1 a2 t115 true) else (if a1 > 60 then (lockgatelaw31_LotsMany.j0 k a0 a1 a2 t115 true) else (if a2 < 0 then (lockgatelaw31_LotsMany.j0 k a0 a1 a2 t115 true) else (lockgatelaw31_LotsMany.j0 k a0 a1 a2 t115 (decide (a2 > 40)))))) else (lockgatelaw31_LotsMany.j0 k a0 a1 a2 t115 true))) = some r := h
  clear h
  replace H := Option.bind_eq_some_iff.mp H
  obtain ⟨t115, A40, H⟩ := H
  replace H : (if t115 = true then (if a1 < 0 then (lockgatelaw31_LotsMany.j0 k a0 a1 a2 t115 true) else (if a1 > 60 then (lockgatelaw31_LotsMany.j0 k a0 a1 a2 t115 true) else (if a2 < 0 then (lockgatelaw31_LotsMany.j0 k a0 a1 a2 t115 true) else (lockgatelaw31_LotsMany.j0 k a0 a1 a2 t115 (decide (a2 > 40)))))) else (lockgatelaw31_LotsMany.j0 k a0 a1 a2 t115 true)) = some r := H
  have A4 := Aside0.mk A40
  clear A40
  have HC5 := Aside0.mk H
  clear H
  go_enter Try.func5, Try.ntmps5
  go_upto_region 2 with (first | ((with_reducible refine gate_callee (f := 7) rfl ?_); refine goesL_ (some 11) rfl rfl Try.func7 (by kernel_rfl) rfl #[] rfl (by (try simp only [List.map_toArray, List.map_cons, List.map_nil]); first | done | rfl | (simp only [List.length_drop, List.length_take]; rfl)) ?_; (with_reducible refine (lockgatelaw31_alive.calls  t115 _ A4.out).mono ?_); rintro e w6 ⟨rfl, hb⟩; refine ⟨_, rfl, ?_⟩; have n0_ := Aside0.mk (below_step (by repeat (first | (with_reducible first | exact HB.out | apply below_alloc | apply pw_below_drewN | apply below_drew1) | exact HB.out)) hb); clear HB; have HB := n0_; clear n0_; (try clear hb); (try clear hb2); (try clear hk); (try clear hi)))
  (try simp only [Act.put, List.setIfInBounds_toArray, List.set_cons_zero, List.set_cons_succ])
  go_cut [29] (fun v29 wc => ∃ (kq : Nat) (x29_4 : Bool), v29 = .bool x29_4 ∧ Aside0 (lockgatelaw31_LotsMany.j0 kq a0 a1 a2 t115 x29_4 = some r) ∧ Aside0 (kq ≤ k) ∧ Aside0 (Below w.heap.size w wc))
  case first =>
    have H := HC5.out
    clear HC5
    by_cases c7 : t115 = true
    · subst c7
      have H1 : (if a1 < 0 then (lockgatelaw31_LotsMany.j0 k a0 a1 a2 true true) else (if a1 > 60 then (lockgatelaw31_LotsMany.j0 k a0 a1 a2 true true) else (if a2 < 0 then (lockgatelaw31_LotsMany.j0 k a0 a1 a2 true true) else (lockgatelaw31_LotsMany.j0 k a0 a1 a2 true (decide (a2 > 40)))))) = some r := by rw [if_pos rfl] at H; exact H
      clear H
      have H := H1
      clear H1
      by_cases c8 : a1 < 0
      · rw [if_pos c8] at H
        have c8b0 : decide (a1 < 0) = true := decide_eq_true c8
        clear c8
        (first | rw [c8b0] | (simp only [i64_w, i32_w]; rw [c8b0]) | skip)
        have H' := Aside0.mk H
        clear H
        go_wp2
        go_meet
        case rel => exact ⟨_, (true), (by first | rfl | (simp; done) | (simp [*]; done)), H', ⟨by first | omega | exact Nat.le_refl _⟩, ⟨by repeat (first | (with_reducible first | exact HB.out | apply below_alloc | apply pw_below_drewN | apply below_drew1) | exact HB.out)⟩⟩
      · rw [if_neg c8] at H
        have c8b0 : decide (a1 < 0) = false := decide_eq_false c8
        clear c8
        (first | rw [c8b0] | (simp only [i64_w, i32_w]; rw [c8b0]) | skip)
        by_cases c9 : a1 > 60
        · rw [if_pos c9] at H
          have c9b0 : decide (60 < a1) = true := decide_eq_true c9
          clear c9
          have H' := Aside0.mk H
          clear H
          go_wp2
          go_meet
          case rel => exact ⟨_, (true), (by first | rfl | (simp; done) | (simp [*]; done)), H', ⟨by first | omega | exact Nat.le_refl _⟩, ⟨by repeat (first | (with_reducible first | exact HB.out | apply below_alloc | apply pw_below_drewN | apply below_drew1) | exact HB.out)⟩⟩
        · rw [if_neg c9] at H
          have c9b0 : decide (60 < a1) = false := decide_eq_false c9
          clear c9
          by_cases c10 : a2 < 0
          · rw [if_pos c10] at H
            have c10b0 : decide (a2 < 0) = true := decide_eq_true c10
            clear c10
            have H' := Aside0.mk H
            clear H
            go_wp2
            go_meet
            case rel => exact ⟨_, (true), (by first | rfl | (simp; done) | (simp [*]; done)), H', ⟨by first | omega | exact Nat.le_refl _⟩, ⟨by repeat (first | (with_reducible first | exact HB.out | apply below_alloc | apply pw_below_drewN | apply below_drew1) | exact HB.out)⟩⟩
          · rw [if_neg c10] at H
            have c10b0 : decide (a2 < 0) = false := decide_eq_false c10
            clear c10
            have H' := Aside0.mk H
            clear H
            go_wp2
            go_meet
            case rel => exact ⟨_, (decide (a2 > 40)), (by first | rfl | (simp; done) | (simp [*]; done)), H', ⟨by first | omega | exact Nat.le_refl _⟩, ⟨by repeat (first | (with_reducible first | exact HB.out | apply below_alloc | apply pw_below_drewN | apply below_drew1) | exact HB.out)⟩⟩
    · replace c7 := Bool.eq_false_iff.mpr c7
      subst c7
      have H1 : (lockgatelaw31_LotsMany.j0 k a0 a1 a2 false true) = some r := by rw [if_neg (show ¬ (false = true) by decide)] at H; exact H
      clear H
      have H := H1
      clear H1
      have H' := Aside0.mk H
      clear H
      go_wp2
      go_meet
      case rel => exact ⟨_, (true), (by first | rfl | (simp; done) | (simp [*]; done)), H', ⟨by first | omega | exact Nat.le_refl _⟩, ⟨by repeat (first | (with_reducible first | exact HB.out | apply below_alloc | apply pw_below_drewN | apply below_drew1) | exact HB.out)⟩⟩
  case rest =>
    clear HC5
    try clear c1
    try clear p2
    try clear c5
    try clear c7
    try clear c8
    try clear c8b0
    try clear c9
    try clear c9b0
    try clear c10
    try clear c10b0
    obtain ⟨kq, x29_4, rfl, HA, HJ4, HB⟩ := hcut
    cases kq with
    | zero => exact absurd HA.out (by simp [lockgatelaw31_LotsMany.j0])
    | succ kj4 =>
      have H := HA.out
      clear HA
      simp only [lockgatelaw31_LotsMany.j0] at H
      by_cases c11 : x29_4 = true
      · subst c11
        have H1 : (some t115) = some r := by rw [if_pos rfl] at H; exact H
        clear H
        have H := H1
        clear H1
        obtain rfl := Option.some.inj H
        go_wp2
        go_ret
        exact ⟨by first | rfl | (simp [errW_none, errW_some] <;> rfl) | (simp [*, errW_none, errW_some] <;> rfl), by repeat (first | (with_reducible first | exact HB.out | apply below_alloc | apply pw_below_drewN | apply below_drew1) | exact HB.out)⟩
      · replace c11 := Bool.eq_false_iff.mpr c11
        subst c11
        have H1 : ((lots_Calls.f kj4 a0 a1).bind fun t116 => ((lots_Calls.f kj4 a0 (wrap64 (a1 + a2))).bind fun t119 => (if (t116.length : Int) = a1 then (lockgatelaw31_LotsMany.j1 kj4 a1 t116 t119 ((t119.length : Int) != (wrap64 (a1 + a2)))) else (lockgatelaw31_LotsMany.j1 kj4 a1 t116 t119 true)))) = some r := by rw [if_neg (show ¬ (false = true) by decide)] at H; exact H
        clear H
        have H := H1
        clear H1
        replace H := Option.bind_eq_some_iff.mp H
        obtain ⟨t116, A120, H⟩ := H
        replace H : ((lots_Calls.f kj4 a0 (wrap64 (a1 + a2))).bind fun t119 => (if (t116.length : Int) = a1 then (lockgatelaw31_LotsMany.j1 kj4 a1 t116 t119 ((t119.length : Int) != (wrap64 (a1 + a2)))) else (lockgatelaw31_LotsMany.j1 kj4 a1 t116 t119 true))) = some r := H
        have A12 := Aside0.mk A120
        clear A120
        replace H := Option.bind_eq_some_iff.mp H
        obtain ⟨t119, A130, H⟩ := H
        replace H : (if (t116.length : Int) = a1 then (lockgatelaw31_LotsMany.j1 kj4 a1 t116 t119 ((t119.length : Int) != (wrap64 (a1 + a2)))) else (lockgatelaw31_LotsMany.j1 kj4 a1 t116 t119 true)) = some r := H
        have A13 := Aside0.mk A130
        clear A130
        have HC14 := Aside0.mk H
        clear H
        go_upto_region 6 with (first | ((with_reducible refine gate_callee (f := 12) rfl ?_); refine goesL_ (some 33) rfl rfl Try.func12 (by kernel_rfl) rfl #[.int .i64 a0, .int .i64 a1] rfl (by (try simp only [List.map_toArray, List.map_cons, List.map_nil]); first | done | rfl | (simp only [List.length_drop, List.length_take]; rfl)) ?_; (with_reducible refine (lots_Calls.calls kj4 a0 a1 t116 _ A12.out).mono ?_); rintro e w15 ⟨v117, rfl, ho0, hb⟩; refine ⟨_, rfl, ?_⟩; have n0_ := Aside0.mk (Kd.S_lower ho0 (below_size (by repeat (first | (with_reducible first | exact HB.out | apply below_alloc | apply pw_below_drewN | apply below_drew1) | exact HB.out)))); have n1_ := Aside0.mk (below_step (by repeat (first | (with_reducible first | exact HB.out | apply below_alloc | apply pw_below_drewN | apply below_drew1) | exact HB.out)) hb); clear HB; have HO118 := n0_; have HB := n1_; clear n0_ n1_; (try clear hb); (try clear hb2); (try clear hk); (try clear hi); (try clear ho0)) | ((with_reducible refine gate_callee (f := 12) rfl ?_); refine goesL_ (some 38) rfl rfl Try.func12 (by kernel_rfl) rfl #[.int .i64 a0, .int .i64 (wrap64 (a1 + a2))] rfl (by (try simp only [List.map_toArray, List.map_cons, List.map_nil]); first | done | rfl | (simp only [List.length_drop, List.length_take]; rfl)) ?_; (with_reducible refine (lots_Calls.calls kj4 a0 (wrap64 (a1 + a2)) t119 _ A13.out).mono ?_); rintro e w16 ⟨v120, rfl, ho0, hb⟩; refine ⟨_, rfl, ?_⟩; have n0_ := Aside0.mk (Kd.S_elder' (by (with_reducible repeat (first | apply Kd.S_alloc | apply Kd.S_drewN | apply Kd.S_drew)); exact HO118.out) (Kd.S_base ho0) hb); have n1_ := Aside0.mk (Kd.S_lower (Kd.S_new' ho0 (Kd.S_lt (by (with_reducible repeat (first | apply Kd.S_alloc | apply Kd.S_drewN | apply Kd.S_drew)); exact HO118.out))) (below_size (by repeat (first | (with_reducible first | exact HB.out | apply below_alloc | apply pw_below_drewN | apply below_drew1) | exact HB.out)))); have n2_ := Aside0.mk (below_step (by repeat (first | (with_reducible first | exact HB.out | apply below_alloc | apply pw_below_drewN | apply below_drew1) | exact HB.out)) hb); clear HO118; clear HB; have HO118 := n0_; have HO121 := n1_; have HB := n2_; clear n0_ n1_ n2_; (try clear hb); (try clear hb2); (try clear hk); (try clear hi); (try clear ho0)))
        (try simp only [Act.put, List.setIfInBounds_toArray, List.set_cons_zero, List.set_cons_succ])
        go_cut [50] (fun v50 wc => ∃ (kq : Nat) (x50_13 : Bool), v50 = .bool x50_13 ∧ Aside0 (lockgatelaw31_LotsMany.j1 kq a1 t116 t119 x50_13 = some r) ∧ Aside0 (kq ≤ kj4) ∧ Aside0 (Kd.S k35 35 wc w.heap.size (fun k_ => some k_ ≠ (v120 : Value).ownBlock) v117 t116) ∧ Aside0 (Kd.S k35 35 wc w.heap.size (fun k_ => some k_ ≠ (v117 : Value).ownBlock) v120 t119) ∧ Aside0 (Below w.heap.size w wc))
        case first =>
          have H := HC14.out
          clear HC14
          by_cases c17 : (t116.length : Int) = a1
          · rw [if_pos c17] at H
            have c17b0 : ((t116.length : Int) == a1) = true := beq_iff_eq.mpr c17
            have c17b1 : ((t116.length : Int) != a1) = false := bne_eq_false_iff_eq.mpr c17
            clear c17
            (first | rw [c17b0] | (simp only [i64_w, i32_w]; rw [c17b0]) | skip)
            have H' := Aside0.mk H
            clear H
            obtain ⟨Ao18, co18, eo18⟩ := Kd.S_slice HO118.out
            subst eo18
            obtain ⟨Ao19, co19, eo19⟩ := Kd.S_slice HO121.out
            subst eo19
            go_wp2
            go_meet
            case rel => exact ⟨_, (((t119.length : Int) != (wrap64 (a1 + a2)))), (by first | rfl | (simp; done) | (simp [*]; done)), H', ⟨by have := HJ4.out; first | omega | exact Nat.le_refl _⟩, ⟨by (with_reducible repeat (first | apply Kd.S_alloc | apply Kd.S_drewN | apply Kd.S_drew)); exact Kd.S_mono HO118.out (fun _ hk => hk.2)⟩, ⟨by (with_reducible repeat (first | apply Kd.S_alloc | apply Kd.S_drewN | apply Kd.S_drew)); exact Kd.S_mono HO121.out (fun _ hk => hk.2)⟩, ⟨by repeat (first | (with_reducible first | exact HB.out | apply below_alloc | apply pw_below_drewN | apply below_drew1) | exact HB.out)⟩⟩
          · rw [if_neg c17] at H
            have c17b0 : ((t116.length : Int) == a1) = false := beq_eq_false_iff_ne.mpr c17
            have c17b1 : ((t116.length : Int) != a1) = true := bne_iff_ne.mpr c17
            (first | rw [c17b0] | (simp only [i64_w, i32_w]; rw [c17b0]) | skip)
            have H' := Aside0.mk H
            clear H
            obtain ⟨Ao20, co20, eo20⟩ := Kd.S_slice HO118.out
            subst eo20
            go_wp2
            go_meet
            case rel => exact ⟨_, (true), (by first | rfl | (simp; done) | (simp [*]; done)), H', ⟨by have := HJ4.out; first | omega | exact Nat.le_refl _⟩, ⟨by (with_reducible repeat (first | apply Kd.S_alloc | apply Kd.S_drewN | apply Kd.S_drew)); exact Kd.S_mono HO118.out (fun _ hk => hk.2)⟩, ⟨by (with_reducible repeat (first | apply Kd.S_alloc | apply Kd.S_drewN | apply Kd.S_drew)); exact Kd.S_mono HO121.out (fun _ hk => hk.2)⟩, ⟨by repeat (first | (with_reducible first | exact HB.out | apply below_alloc | apply pw_below_drewN | apply below_drew1) | exact HB.out)⟩⟩
        case rest =>
          clear HC14
          try clear c1
          try clear p2
          try clear c5
          try clear p6
          try clear c7
          try clear c8
          try clear c8b0
          try clear c9
          try clear c9b0
          try clear c10
          try clear c10b0
          try clear c11
          try clear c12
          try clear c17
          try clear c17b0
          try clear c17b1
          try clear p2
          obtain ⟨kq, x50_13, rfl, HA, HJ13, HO_8, HO_9, HB⟩ := hcut
          cases kq with
          | zero => exact absurd HA.out (by simp [lockgatelaw31_LotsMany.j1])
          | succ kj13 =>
            have H := HA.out
            clear HA
            simp only [lockgatelaw31_LotsMany.j1] at H
            by_cases c21 : x50_13 = true
            · subst c21
              have H1 : (some false) = some r := by rw [if_pos rfl] at H; exact H
              clear H
              have H := H1
              clear H1
              obtain rfl := Option.some.inj H
              go_wp2
              go_ret
              exact ⟨by first | rfl | (simp [errW_none, errW_some] <;> rfl) | (simp [*, errW_none, errW_some] <;> rfl), by repeat (first | (with_reducible first | exact HB.out | apply below_alloc | apply pw_below_drewN | apply below_drew1) | exact HB.out)⟩
            · replace c21 := Bool.eq_false_iff.mpr c21
              subst c21
              have H1 : (lockgatelaw31_LotsMany.l0 kj13 a1 t116 t119 0) = some r := by rw [if_neg (show ¬ (false = true) by decide)] at H; exact H
              clear H
              have H := H1
              clear H1
              have H' := Aside0.mk H
              clear H
              go_wp2
              go_loopg [10] kj13 (fun kq v10 w' => ∃ (x10_3 : Int), v10 = .int .i64 x10_3 ∧ Aside0 (lockgatelaw31_LotsMany.l0 kq a1 t116 t119 x10_3 = some r) ∧ Aside0 (kq ≤ kj13) ∧ Aside0 (Kd.S k35 35 w' w.heap.size (fun k_ => some k_ ≠ (v120 : Value).ownBlock) v117 t116) ∧ Aside0 (Kd.S k35 35 w' w.heap.size (fun k_ => some k_ ≠ (v117 : Value).ownBlock) v120 t119) ∧ Aside0 (Below w.heap.size w w'))
              case atStart => exact ⟨(0), (by first | rfl | (simp; done) | (simp [*]; done)), H', ⟨Nat.le_refl _⟩, ⟨by (with_reducible repeat (first | apply Kd.S_alloc | apply Kd.S_drewN | apply Kd.S_drew)); exact HO_8.out⟩, ⟨by (with_reducible repeat (first | apply Kd.S_alloc | apply Kd.S_drewN | apply Kd.S_drew)); exact HO_9.out⟩, ⟨by repeat (first | (with_reducible first | exact HB.out | apply below_alloc | apply pw_below_drewN | apply below_drew1) | exact HB.out)⟩⟩
              case round =>
                clear H'
                try clear c1
                try clear c2
                try clear p2
                try clear c5
                try clear p6
                try clear c7
                try clear c8
                try clear c8b0
                try clear c9
                try clear c9b0
                try clear c10
                try clear c10b0
                try clear c11
                try clear c12
                try clear c17
                try clear c17b0
                try clear c17b1
                try clear c21
                try clear p2
                try clear p6
                obtain ⟨x10_3, rfl, HA, HK3, HO_8, HO_9, HB⟩ := hrel
                cases gk with
                | zero => exact absurd HA.out (by simp [lockgatelaw31_LotsMany.l0])
                | succ k3 =>
                  have H := HA.out
                  clear HA
                  simp only [lockgatelaw31_LotsMany.l0] at H
                  by_cases c22 : x10_3 < a1
                  · rw [if_pos c22] at H
                    have c22b0 : decide (x10_3 < a1) = true := decide_eq_true c22
                    clear c22
                    by_cases c23 : 0 ≤ x10_3
                    · rw [if_pos c23] at H
                      have c23b0 : decide (0 ≤ x10_3) = true := decide_eq_true c23
                      clear c23
                      by_cases c24 : x10_3 < (t116.length : Int)
                      · rw [if_pos c24] at H
                        have c24b0 : decide (x10_3 < (t116.length : Int)) = true := decide_eq_true c24
                        clear c24
                        by_cases c25 : x10_3 < (t119.length : Int)
                        · rw [if_pos c25] at H
                          have c25b0 : decide (x10_3 < (t119.length : Int)) = true := decide_eq_true c25
                          clear c25
                          replace H := Option.bind_eq_some_iff.mp H
                          obtain ⟨t124, A260, H⟩ := H
                          replace H : (if t124 = true then (if ((rd_T35 t116 x10_3).f0) < 1 then (some false) else (if ((rd_T35 t116 x10_3).f0) > 13 then (some false) else (lockgatelaw31_LotsMany.l0 k3 a1 t116 t119 (wrap64 (x10_3 + 1))))) else (some false)) = some r := H
                          have A26 := Aside0.mk A260
                          clear A260
                          by_cases c27 : t124 = true
                          · subst c27
                            have H1 : (if ((rd_T35 t116 x10_3).f0) < 1 then (some false) else (if ((rd_T35 t116 x10_3).f0) > 13 then (some false) else (lockgatelaw31_LotsMany.l0 k3 a1 t116 t119 (wrap64 (x10_3 + 1))))) = some r := by rw [if_pos rfl] at H; exact H
                            clear H
                            have H := H1
                            clear H1
                            by_cases c28 : ((rd_T35 t116 x10_3).f0) < 1
                            · rw [if_pos c28] at H
                              have c28b0 : decide (((rd_T35 t116 x10_3).f0) < 1) = true := decide_eq_true c28
                              clear c28
                              obtain rfl := Option.some.inj H
                              try go_wp2
                              have n0_ := Aside0.mk (Kd.S_drew HO_8.out)
                              have n1_ := Aside0.mk (Kd.S_drew HO_9.out)
                              have n2_ := Aside0.mk (below_drew1 HB.out)
                              clear HO_8
                              clear HO_9
                              clear HB
                              have HO_8 := n0_
                              have HO_9 := n1_
                              have HB := n2_
                              clear n0_ n1_ n2_
                              obtain ⟨Ao30, co30, eo30⟩ := Kd.S_slice HO_8.out
                              (first | subst eo30 | (injection eo30 with f1_ f2_ f3_; have f4_ := f1_.symm; have f5_ := f3_.symm; clear f1_ f2_ f3_; subst f4_; subst f5_))
                              have p122 : 0 ≤ (x10_3 : Int) := of_decide_eq_true (by first | (with_reducible assumption) | assumption)
                              have q122 : x10_3 < (t116.length : Int) := of_decide_eq_true (by first | (with_reducible assumption) | assumption)
                              obtain ⟨ad122, A122_5, c122_5, e122, hx122_0, hx122_1, hx122_2, hx122_3, hx122_4, hx122_5, hl122_5, hi122_5⟩ := at_T35 (Kd.S_reads' HO_8.out).2.2 x10_3 p122 q122
                              cases e122
                              obtain ⟨ce122, hce122, hMe122, hcc122⟩ := Kd.S_get HO_8.out z35 x10_3 p122 (by first | exact q122 | exact of_decide_eq_true (by first | (with_reducible assumption) | assumption) | (have e_ := (Kd.S_reads' HO_8.out).1; omega))
                              obtain ⟨ve122_5, rfl, ge122_5⟩ := k35_openM hMe122
                              have hv122_5 := hcc122 5 _ rfl
                              rw [add_field _ _ 5 (by omega)] at hv122_5
                              replace hv122_5 := Option.some.inj (hv122_5.symm.trans hx122_5)
                              rw [hv122_5] at ge122_5
                              have HL122_5 := Aside0.mk (show Kd.R (Kd.int .u8) 5 _ _ _ _ ((rd_T35 t116 x10_3).f5) from ge122_5)
                              clear hv122_5 ge122_5
                              clear hcc122 hce122
                              have HR122_5 := Aside0.mk hi122_5
                              have HC122_5 := Aside0.mk hl122_5
                              clear hi122_5 hl122_5
                              replace p122 := eq_true p122
                              replace q122 := eq_true q122
                              obtain ⟨Ao31, co31, eo31⟩ := Kd.S_slice HO_9.out
                              (first | subst eo31 | (injection eo31 with f1_ f2_ f3_; have f4_ := f1_.symm; have f5_ := f3_.symm; clear f1_ f2_ f3_; subst f4_; subst f5_))
                              have p123 : 0 ≤ (x10_3 : Int) := of_decide_eq_true (by first | (with_reducible assumption) | assumption)
                              have q123 : x10_3 < (t119.length : Int) := of_decide_eq_true (by first | (with_reducible assumption) | assumption)
                              obtain ⟨ad123, A123_5, c123_5, e123, hx123_0, hx123_1, hx123_2, hx123_3, hx123_4, hx123_5, hl123_5, hi123_5⟩ := at_T35 (Kd.S_reads' HO_9.out).2.2 x10_3 p123 q123
                              cases e123
                              obtain ⟨ce123, hce123, hMe123, hcc123⟩ := Kd.S_get HO_9.out z35 x10_3 p123 (by first | exact q123 | exact of_decide_eq_true (by first | (with_reducible assumption) | assumption) | (have e_ := (Kd.S_reads' HO_9.out).1; omega))
                              obtain ⟨ve123_5, rfl, ge123_5⟩ := k35_openM hMe123
                              have hv123_5 := hcc123 5 _ rfl
                              rw [add_field _ _ 5 (by omega)] at hv123_5
                              replace hv123_5 := Option.some.inj (hv123_5.symm.trans hx123_5)
                              rw [hv123_5] at ge123_5
                              have HL123_5 := Aside0.mk (show Kd.R (Kd.int .u8) 5 _ _ _ _ ((rd_T35 t119 x10_3).f5) from ge123_5)
                              clear hv123_5 ge123_5
                              clear hcc123 hce123
                              have HR123_5 := Aside0.mk hi123_5
                              have HC123_5 := Aside0.mk hl123_5
                              clear hi123_5 hl123_5
                              replace p123 := eq_true p123
                              replace q123 := eq_true q123
                              have p125 : 0 ≤ (x10_3 : Int) := of_decide_eq_true (by first | (with_reducible assumption) | assumption)
                              have q125 : x10_3 < (t116.length : Int) := of_decide_eq_true (by first | (with_reducible assumption) | assumption)
                              obtain ⟨ad125, A125_5, c125_5, e125, hx125_0, hx125_1, hx125_2, hx125_3, hx125_4, hx125_5, hl125_5, hi125_5⟩ := at_T35 (Kd.S_reads' HO_8.out).2.2 x10_3 p125 q125
                              obtain rfl : ad122 = ad125 := (by injection e125)
                              obtain ⟨ce125, hce125, hMe125, hcc125⟩ := Kd.S_get HO_8.out z35 x10_3 p125 (by first | exact q125 | exact of_decide_eq_true (by first | (with_reducible assumption) | assumption) | (have e_ := (Kd.S_reads' HO_8.out).1; omega))
                              obtain ⟨ve125_5, rfl, ge125_5⟩ := k35_openM hMe125
                              have hv125_5 := hcc125 5 _ rfl
                              rw [add_field _ _ 5 (by omega)] at hv125_5
                              replace hv125_5 := Option.some.inj (hv125_5.symm.trans hx125_5)
                              rw [hv125_5] at ge125_5
                              have HL125_5 := Aside0.mk (show Kd.R (Kd.int .u8) 5 _ _ _ _ ((rd_T35 t116 x10_3).f5) from ge125_5)
                              clear hv125_5 ge125_5
                              clear hcc125 hce125
                              have HR125_5 := Aside0.mk hi125_5
                              have HC125_5 := Aside0.mk hl125_5
                              clear hi125_5 hl125_5
                              replace p125 := eq_true p125
                              replace q125 := eq_true q125
                              refine start_ (n := 26) (S := fun w' => w'.cell? (ad122.add ((x10_3).toNat * 6)) = some (.int .i64 ((rd_T35 t116 x10_3).f0)) ∧ w'.cell? ⟨(ad122.add ((x10_3).toNat * 6)).block, (ad122.add ((x10_3).toNat * 6)).off + 1, none⟩ = some (.string ((rd_T35 t116 x10_3).f1)) ∧ w'.cell? ⟨(ad122.add ((x10_3).toNat * 6)).block, (ad122.add ((x10_3).toNat * 6)).off + 2, none⟩ = some (.string ((rd_T35 t116 x10_3).f2)) ∧ w'.cell? ⟨(ad122.add ((x10_3).toNat * 6)).block, (ad122.add ((x10_3).toNat * 6)).off + 3, none⟩ = some (.int .i64 ((rd_T35 t116 x10_3).f3)) ∧ w'.cell? ⟨(ad122.add ((x10_3).toNat * 6)).block, (ad122.add ((x10_3).toNat * 6)).off + 4, none⟩ = some (.int .i64 ((rd_T35 t116 x10_3).f4)) ∧ w'.cell? ⟨(ad122.add ((x10_3).toNat * 6)).block, (ad122.add ((x10_3).toNat * 6)).off + 5, none⟩ = some (.slice A122_5 ((rd_T35 t116 x10_3).f5).length c122_5) ∧ w'.cell? (ad123.add ((x10_3).toNat * 6)) = some (.int .i64 ((rd_T35 t119 x10_3).f0)) ∧ w'.cell? ⟨(ad123.add ((x10_3).toNat * 6)).block, (ad123.add ((x10_3).toNat * 6)).off + 1, none⟩ = some (.string ((rd_T35 t119 x10_3).f1)) ∧ w'.cell? ⟨(ad123.add ((x10_3).toNat * 6)).block, (ad123.add ((x10_3).toNat * 6)).off + 2, none⟩ = some (.string ((rd_T35 t119 x10_3).f2)) ∧ w'.cell? ⟨(ad123.add ((x10_3).toNat * 6)).block, (ad123.add ((x10_3).toNat * 6)).off + 3, none⟩ = some (.int .i64 ((rd_T35 t119 x10_3).f3)) ∧ w'.cell? ⟨(ad123.add ((x10_3).toNat * 6)).block, (ad123.add ((x10_3).toNat * 6)).off + 4, none⟩ = some (.int .i64 ((rd_T35 t119 x10_3).f4)) ∧ w'.cell? ⟨(ad123.add ((x10_3).toNat * 6)).block, (ad123.add ((x10_3).toNat * 6)).off + 5, none⟩ = some (.slice A123_5 ((rd_T35 t119 x10_3).f5).length c123_5) ∧ w'.cell? (ad122.add ((x10_3).toNat * 6)) = some (.int .i64 ((rd_T35 t116 x10_3).f0)) ∧ w'.cell? ⟨(ad122.add ((x10_3).toNat * 6)).block, (ad122.add ((x10_3).toNat * 6)).off + 1, none⟩ = some (.string ((rd_T35 t116 x10_3).f1)) ∧ w'.cell? ⟨(ad122.add ((x10_3).toNat * 6)).block, (ad122.add ((x10_3).toNat * 6)).off + 2, none⟩ = some (.string ((rd_T35 t116 x10_3).f2)) ∧ w'.cell? ⟨(ad122.add ((x10_3).toNat * 6)).block, (ad122.add ((x10_3).toNat * 6)).off + 3, none⟩ = some (.int .i64 ((rd_T35 t116 x10_3).f3)) ∧ w'.cell? ⟨(ad122.add ((x10_3).toNat * 6)).block, (ad122.add ((x10_3).toNat * 6)).off + 4, none⟩ = some (.int .i64 ((rd_T35 t116 x10_3).f4)) ∧ w'.cell? ⟨(ad122.add ((x10_3).toNat * 6)).block, (ad122.add ((x10_3).toNat * 6)).off + 5, none⟩ = some (.slice A125_5 ((rd_T35 t116 x10_3).f5).length c125_5)) (ds := []) #[false, false, false, false, false, false, false, false, false, false, false, false, false, false, false, false, false, false, false, false, false, false, false, false, false, false] (by kernel_rfl) rfl rfl ⟨hx122_0, hx122_1, hx122_2, hx122_3, hx122_4, hx122_5, hx123_0, hx123_1, hx123_2, hx123_3, hx123_4, hx123_5, hx125_0, hx125_1, hx125_2, hx125_3, hx125_4, hx125_5⟩ (fun hHeld => ?_); refine with_tabW lockgatelaw31_LotsMany.tab11 lockgatelaw31_LotsMany.bits11 (fun HT_ HW_ => ?_)
                              generalize wr.drew = w29 at HO_8 HO_9 HB HL122_5 HL123_5 HL125_5 HR122_5 HR123_5 HR125_5 hx122_0 hx122_1 hx122_2 hx122_3 hx122_4 hx122_5 hx123_0 hx123_1 hx123_2 hx123_3 hx123_4 hx123_5 hx125_0 hx125_1 hx125_2 hx125_3 hx125_4 hx125_5 hHeld ⊢
                              refine pure_ (i := 0) (N := some 56) (v := ?_) (a' := ?_) #[true, false, false, false, false, false, false, false, false, false, false, false, false, false, false, false, false, false, false, false, false, false, false, false, false, false] rfl rfl (any_of HT_.out (by kernel_rfl)) (fun _ _ _ h => h) (Or.inl ⟨by rfl, ?_⟩) ?_ ?_
                              rotate_left
                              · intro w'
                                go_simp
                                with_reducible rfl
                              rotate_left
                              · simp only [Act.put, List.setIfInBounds_toArray, List.set_cons_zero, List.set_cons_succ, i64_w, i32_w]
                                rfl
                              refine pure_ (i := 1) (N := some 57) (v := ?_) (a' := ?_) #[true, true, false, false, false, false, false, false, false, false, false, false, false, false, false, false, false, false, false, false, false, false, false, false, false, false] rfl rfl (any_of HT_.out (by kernel_rfl)) (fun _ _ _ h => h) (Or.inl ⟨by rfl, ?_⟩) ?_ ?_
                              rotate_left
                              · intro w'
                                go_simp
                                with_reducible rfl
                              rotate_left
                              · simp only [Act.put, List.setIfInBounds_toArray, List.set_cons_zero, List.set_cons_succ, i64_w, i32_w]
                                rfl
                              refine pure_ (i := 2) (N := some 58) (v := ?_) (a' := ?_) #[true, true, true, false, false, false, false, false, false, false, false, false, false, false, false, false, false, false, false, false, false, false, false, false, false, false] rfl rfl (any_of HT_.out (by kernel_rfl)) (fun _ _ _ h => h) (Or.inl ⟨by rfl, ?_⟩) ?_ ?_
                              rotate_left
                              · intro w'
                                go_simp
                                with_reducible rfl
                              rotate_left
                              · simp only [Act.put, List.setIfInBounds_toArray, List.set_cons_zero, List.set_cons_succ, i64_w, i32_w]
                                rfl
                              refine pure_ (i := 4) (N := some 60) (v := ?_) (a' := ?_) #[true, true, true, false, true, false, false, false, false, false, false, false, false, false, false, false, false, false, false, false, false, false, false, false, false, false] rfl rfl (any_of HT_.out (by kernel_rfl)) (fun _ _ _ h => h) (Or.inl ⟨by rfl, ?_⟩) ?_ ?_
                              rotate_left
                              · intro w'
                                go_simp
                                with_reducible rfl
                              rotate_left
                              · simp only [Act.put, List.setIfInBounds_toArray, List.set_cons_zero, List.set_cons_succ, i64_w, i32_w]
                                rfl
                              refine pure_ (i := 5) (N := some 61) (v := ?_) (a' := ?_) #[true, true, true, false, true, true, false, false, false, false, false, false, false, false, false, false, false, false, false, false, false, false, false, false, false, false] rfl rfl (any_of HT_.out (by kernel_rfl)) (fun _ _ _ h => h) (Or.inl ⟨by rfl, ?_⟩) ?_ ?_
                              rotate_left
                              · intro w'
                                go_simp
                                with_reducible rfl
                              rotate_left
                              · simp only [Act.put, List.setIfInBounds_toArray, List.set_cons_zero, List.set_cons_succ, i64_w, i32_w]
                                rfl
                              refine pure_ (i := 6) (N := some 62) (v := ?_) (a' := ?_) #[true, true, true, false, true, true, true, false, false, false, false, false, false, false, false, false, false, false, false, false, false, false, false, false, false, false] rfl rfl (any_of HT_.out (by kernel_rfl)) (fun _ _ _ h => h) (Or.inl ⟨by rfl, ?_⟩) ?_ ?_
                              rotate_left
                              · intro w'
                                go_simp
                                with_reducible rfl
                              rotate_left
                              · simp only [Act.put, List.setIfInBounds_toArray, List.set_cons_zero, List.set_cons_succ, i64_w, i32_w]
                                rfl
                              refine take_ (i := 3) (N := some 59) (v := ?_) (a' := ?_) #[true, true, true, true, true, true, true, false, false, false, false, false, false, false, false, false, false, false, false, false, false, false, false, false, false, false] rfl rfl (take_ofW HT_.out HW_.out (by kernel_rfl)) (fun _ _ _ h => h) (Or.inl ⟨by rfl, ?_⟩) hHeld ?_ ?_
                              rotate_left
                              · rintro w' ⟨s0, s1, s2, s3, s4, s5, s6, s7, s8, s9, s10, s11, s12, s13, s14, s15, s16, s17⟩
                                go_simp
                                with_reducible rfl
                              rotate_left
                              · simp only [Act.put, List.setIfInBounds_toArray, List.set_cons_zero, List.set_cons_succ, i64_w, i32_w]
                                rfl
                              refine take_ (i := 7) (N := some 63) (v := ?_) (a' := ?_) #[true, true, true, true, true, true, true, true, false, false, false, false, false, false, false, false, false, false, false, false, false, false, false, false, false, false] rfl rfl (take_ofW HT_.out HW_.out (by kernel_rfl)) (fun _ _ _ h => h) (Or.inl ⟨by rfl, ?_⟩) hHeld ?_ ?_
                              rotate_left
                              · rintro w' ⟨s0, s1, s2, s3, s4, s5, s6, s7, s8, s9, s10, s11, s12, s13, s14, s15, s16, s17⟩
                                go_simp
                                with_reducible rfl
                              rotate_left
                              · simp only [Act.put, List.setIfInBounds_toArray, List.set_cons_zero, List.set_cons_succ, i64_w, i32_w]
                                rfl
                              refine one_ (i := 8) (N := some 64) #[true, true, true, true, true, true, true, true, true, false, false, false, false, false, false, false, false, false, false, false, false, false, false, false, false, false] rfl rfl (one_of HT_.out (by kernel_rfl)) (by decide) (fun K hK => ?_)
                              refine goes_ Try.func14 (by kernel_rfl) rfl #[.agg #[.int .i64 ((rd_T35 t116 x10_3).f0), .string ((rd_T35 t116 x10_3).f1), .string ((rd_T35 t116 x10_3).f2), .int .i64 ((rd_T35 t116 x10_3).f3), .int .i64 ((rd_T35 t116 x10_3).f4), .slice A122_5 ((rd_T35 t116 x10_3).f5).length c122_5], .agg #[.int .i64 ((rd_T35 t119 x10_3).f0), .string ((rd_T35 t119 x10_3).f1), .string ((rd_T35 t119 x10_3).f2), .int .i64 ((rd_T35 t119 x10_3).f3), .int .i64 ((rd_T35 t119 x10_3).f4), .slice A123_5 ((rd_T35 t119 x10_3).f5).length c123_5]] (by rfl) rfl rfl (by (try simp only [List.map_toArray, List.map_cons, List.map_nil]); first | done | rfl | (simp only [List.length_drop, List.length_take]; rfl)) ?_
                              with_reducible refine (lockgateref28_SameCall.calls ((rd_T35 t116 x10_3).f0) ((rd_T35 t116 x10_3).f1) ((rd_T35 t116 x10_3).f2) ((rd_T35 t116 x10_3).f3) ((rd_T35 t116 x10_3).f4) _ _ ((rd_T35 t116 x10_3).f5) ((rd_T35 t119 x10_3).f0) ((rd_T35 t119 x10_3).f1) ((rd_T35 t119 x10_3).f2) ((rd_T35 t119 x10_3).f3) ((rd_T35 t119 x10_3).f4) _ _ ((rd_T35 t119 x10_3).f5) true _ ?side1 ?side2 ?side3 ?side4 A26.out).mono ?_
                              (case side1 => repeat (first | exact (by repeat (first | (with_reducible exact HR122_5.out) | (with_reducible refine Kd.C_alloc ?_ _) | (with_reducible refine Kd.C_drewN ?_ _) | (with_reducible refine Kd.C_drew ?_) | exact HR122_5.out)) | (with_reducible refine Kd.C_alloc ?_ _) | (with_reducible refine Kd.C_drewN ?_ _) | (with_reducible refine Kd.C_drew ?_)))
                              (case side2 => exact HC122_5.out)
                              (case side3 => repeat (first | exact (by repeat (first | (with_reducible exact HR123_5.out) | (with_reducible refine Kd.C_alloc ?_ _) | (with_reducible refine Kd.C_drewN ?_ _) | (with_reducible refine Kd.C_drew ?_) | exact HR123_5.out)) | (with_reducible refine Kd.C_alloc ?_ _) | (with_reducible refine Kd.C_drewN ?_ _) | (with_reducible refine Kd.C_drew ?_)))
                              (case side4 => exact HC123_5.out)
                              rintro e w32 ⟨rfl, hb⟩
                              have HS0_ := (hb.cell (World.block_lt_of_cell? _ _ (hHeld.1))).trans (hHeld.1)
                              have HS1_ := (hb.cell (World.block_lt_of_cell? _ _ (hHeld.2.1))).trans (hHeld.2.1)
                              have HS2_ := (hb.cell (World.block_lt_of_cell? _ _ (hHeld.2.2.1))).trans (hHeld.2.2.1)
                              have HS3_ := (hb.cell (World.block_lt_of_cell? _ _ (hHeld.2.2.2.1))).trans (hHeld.2.2.2.1)
                              have HS4_ := (hb.cell (World.block_lt_of_cell? _ _ (hHeld.2.2.2.2.1))).trans (hHeld.2.2.2.2.1)
                              have HS5_ := (hb.cell (World.block_lt_of_cell? _ _ (hHeld.2.2.2.2.2.1))).trans (hHeld.2.2.2.2.2.1)
                              have HS6_ := (hb.cell (World.block_lt_of_cell? _ _ (hHeld.2.2.2.2.2.2.1))).trans (hHeld.2.2.2.2.2.2.1)
                              have HS7_ := (hb.cell (World.block_lt_of_cell? _ _ (hHeld.2.2.2.2.2.2.2.1))).trans (hHeld.2.2.2.2.2.2.2.1)
                              have HS8_ := (hb.cell (World.block_lt_of_cell? _ _ (hHeld.2.2.2.2.2.2.2.2.1))).trans (hHeld.2.2.2.2.2.2.2.2.1)
                              have HS9_ := (hb.cell (World.block_lt_of_cell? _ _ (hHeld.2.2.2.2.2.2.2.2.2.1))).trans (hHeld.2.2.2.2.2.2.2.2.2.1)
                              have HS10_ := (hb.cell (World.block_lt_of_cell? _ _ (hHeld.2.2.2.2.2.2.2.2.2.2.1))).trans (hHeld.2.2.2.2.2.2.2.2.2.2.1)
                              have HS11_ := (hb.cell (World.block_lt_of_cell? _ _ (hHeld.2.2.2.2.2.2.2.2.2.2.2.1))).trans (hHeld.2.2.2.2.2.2.2.2.2.2.2.1)
                              have HS12_ := (hb.cell (World.block_lt_of_cell? _ _ (hHeld.2.2.2.2.2.2.2.2.2.2.2.2.1))).trans (hHeld.2.2.2.2.2.2.2.2.2.2.2.2.1)
                              have HS13_ := (hb.cell (World.block_lt_of_cell? _ _ (hHeld.2.2.2.2.2.2.2.2.2.2.2.2.2.1))).trans (hHeld.2.2.2.2.2.2.2.2.2.2.2.2.2.1)
                              have HS14_ := (hb.cell (World.block_lt_of_cell? _ _ (hHeld.2.2.2.2.2.2.2.2.2.2.2.2.2.2.1))).trans (hHeld.2.2.2.2.2.2.2.2.2.2.2.2.2.2.1)
                              have HS15_ := (hb.cell (World.block_lt_of_cell? _ _ (hHeld.2.2.2.2.2.2.2.2.2.2.2.2.2.2.2.1))).trans (hHeld.2.2.2.2.2.2.2.2.2.2.2.2.2.2.2.1)
                              have HS16_ := (hb.cell (World.block_lt_of_cell? _ _ (hHeld.2.2.2.2.2.2.2.2.2.2.2.2.2.2.2.2.1))).trans (hHeld.2.2.2.2.2.2.2.2.2.2.2.2.2.2.2.2.1)
                              have HS17_ := (hb.cell (World.block_lt_of_cell? _ _ (hHeld.2.2.2.2.2.2.2.2.2.2.2.2.2.2.2.2.2))).trans (hHeld.2.2.2.2.2.2.2.2.2.2.2.2.2.2.2.2.2)
                              refine ⟨_, rfl, ?_⟩
                              have n0_ := Aside0.mk (Kd.S_below (by (with_reducible repeat (first | apply Kd.S_alloc | apply Kd.S_drewN | apply Kd.S_drew)); exact HO_8.out) hb)
                              have n1_ := Aside0.mk (Kd.S_below (by (with_reducible repeat (first | apply Kd.S_alloc | apply Kd.S_drewN | apply Kd.S_drew)); exact HO_9.out) hb)
                              have n2_ := Aside0.mk (Kd.R_below (by (with_reducible repeat (first | apply Kd.R_alloc | apply Kd.R_drewN | apply Kd.R_drew)); exact HL122_5.out) hb)
                              have n3_ := Aside0.mk (Kd.R_below (by (with_reducible repeat (first | apply Kd.R_alloc | apply Kd.R_drewN | apply Kd.R_drew)); exact HL123_5.out) hb)
                              have n4_ := Aside0.mk (Kd.C_below (by repeat (first | (with_reducible exact HR122_5.out) | (with_reducible refine Kd.C_alloc ?_ _) | (with_reducible refine Kd.C_drewN ?_ _) | (with_reducible refine Kd.C_drew ?_) | exact HR122_5.out)) hb)
                              have n5_ := Aside0.mk (Kd.C_below (by repeat (first | (with_reducible exact HR123_5.out) | (with_reducible refine Kd.C_alloc ?_ _) | (with_reducible refine Kd.C_drewN ?_ _) | (with_reducible refine Kd.C_drew ?_) | exact HR123_5.out)) hb)
                              have n6_ := Aside0.mk (below_step (by repeat (first | (with_reducible first | exact HB.out | apply below_alloc | apply pw_below_drewN | apply below_drew1) | exact HB.out)) hb)
                              clear HO_8
                              clear HO_9
                              clear HL122_5
                              clear HL123_5
                              clear HR122_5
                              clear HR123_5
                              clear HB
                              have HO_8 := n0_
                              have HO_9 := n1_
                              have HL122_5 := n2_
                              have HL123_5 := n3_
                              have HR122_5 := n4_
                              have HR123_5 := n5_
                              have HB := n6_
                              clear n0_ n1_ n2_ n3_ n4_ n5_ n6_
                              (try clear hb)
                              (try clear hb2)
                              (try clear hk)
                              (try clear hi)
                              refine hK.out _ _ ⟨HS0_, HS1_, HS2_, HS3_, HS4_, HS5_, HS6_, HS7_, HS8_, HS9_, HS10_, HS11_, HS12_, HS13_, HS14_, HS15_, HS16_, HS17_⟩ (fun hHeld => ?_)
                              clear hK K
                              refine norm_ (a' := ?_) ?_ ?_
                              rotate_left
                              · show Act.put _ (some 64) _ = _
                                simp only [Act.put, List.setIfInBounds_toArray, List.set_cons_zero, List.set_cons_succ, i64_w, i32_w]
                                rfl
                              refine pure_ (i := 9) (N := some 65) (v := ?_) (a' := ?_) #[true, true, true, true, true, true, true, true, true, true, false, false, false, false, false, false, false, false, false, false, false, false, false, false, false, false] rfl rfl (any_of HT_.out (by kernel_rfl)) (fun _ _ _ h => h) (Or.inl ⟨by rfl, ?_⟩) ?_ ?_
                              rotate_left
                              · intro w'
                                go_simp
                                with_reducible rfl
                              rotate_left
                              · simp only [Act.put, List.setIfInBounds_toArray, List.set_cons_zero, List.set_cons_succ, i64_w, i32_w]
                                rfl
                              refine pure_ (i := 10) (N := some 66) (v := ?_) (a' := ?_) #[true, true, true, true, true, true, true, true, true, true, true, false, false, false, false, false, false, false, false, false, false, false, false, false, false, false] rfl rfl (any_of HT_.out (by kernel_rfl)) (fun _ _ _ h => h) (Or.inl ⟨by rfl, ?_⟩) ?_ ?_
                              rotate_left
                              · intro w'
                                go_simp
                                with_reducible rfl
                              rotate_left
                              · simp only [Act.put, List.setIfInBounds_toArray, List.set_cons_zero, List.set_cons_succ, i64_w, i32_w]
                                rfl
                              refine pure_ (i := 11) (N := some 67) (v := ?_) (a' := ?_) #[true, true, true, true, true, true, true, true, true, true, true, true, false, false, false, false, false, false, false, false, false, false, false, false, false, false] rfl rfl (any_of HT_.out (by kernel_rfl)) (fun _ _ _ h => h) (Or.inl ⟨by rfl, ?_⟩) ?_ ?_
                              rotate_left
                              · intro w'
                                go_simp
                                with_reducible rfl
                              rotate_left
                              · simp only [Act.put, List.setIfInBounds_toArray, List.set_cons_zero, List.set_cons_succ, i64_w, i32_w]
                                rfl
                              refine pure_ (i := 12) (N := some 68) (v := ?_) (a' := ?_) #[true, true, true, true, true, true, true, true, true, true, true, true, true, false, false, false, false, false, false, false, false, false, false, false, false, false] rfl rfl (any_of HT_.out (by kernel_rfl)) (fun _ _ _ h => h) (Or.inl ⟨by rfl, ?_⟩) ?_ ?_
                              rotate_left
                              · intro w'
                                go_simp
                                with_reducible rfl
                              rotate_left
                              · simp only [Act.put, List.setIfInBounds_toArray, List.set_cons_zero, List.set_cons_succ, i64_w, i32_w]
                                rfl
                              refine pure_ (i := 13) (N := some 69) (v := ?_) (a' := ?_) #[true, true, true, true, true, true, true, true, true, true, true, true, true, true, false, false, false, false, false, false, false, false, false, false, false, false] rfl rfl (any_of HT_.out (by kernel_rfl)) (fun _ _ _ h => h) (Or.inl ⟨by rfl, ?_⟩) ?_ ?_
                              rotate_left
                              · intro w'
                                go_simp
                                with_reducible rfl
                              rotate_left
                              · simp only [Act.put, List.setIfInBounds_toArray, List.set_cons_zero, List.set_cons_succ, i64_w, i32_w]
                                rfl
                              refine pure_ (i := 14) (N := some 70) (v := ?_) (a' := ?_) #[true, true, true, true, true, true, true, true, true, true, true, true, true, true, true, false, false, false, false, false, false, false, false, false, false, false] rfl rfl (any_of HT_.out (by kernel_rfl)) (fun _ _ _ h => h) (Or.inl ⟨by rfl, ?_⟩) ?_ ?_
                              rotate_left
                              · intro w'
                                go_simp
                                with_reducible rfl
                              rotate_left
                              · simp only [Act.put, List.setIfInBounds_toArray, List.set_cons_zero, List.set_cons_succ, i64_w, i32_w]
                                rfl
                              refine take_ (i := 15) (N := some 71) (v := ?_) (a' := ?_) #[true, true, true, true, true, true, true, true, true, true, true, true, true, true, true, true, false, false, false, false, false, false, false, false, false, false] rfl rfl (take_ofW HT_.out HW_.out (by kernel_rfl)) (fun _ _ _ h => h) (Or.inl ⟨by rfl, ?_⟩) hHeld ?_ ?_
                              rotate_left
                              · rintro w' ⟨s0, s1, s2, s3, s4, s5, s6, s7, s8, s9, s10, s11, s12, s13, s14, s15, s16, s17⟩
                                go_simp
                                with_reducible rfl
                              rotate_left
                              · simp only [Act.put, List.setIfInBounds_toArray, List.set_cons_zero, List.set_cons_succ, i64_w, i32_w]
                                rfl
                              refine pure_ (i := 16) (N := some 72) (v := ?_) (a' := ?_) #[true, true, true, true, true, true, true, true, true, true, true, true, true, true, true, true, true, false, false, false, false, false, false, false, false, false] rfl rfl (any_of HT_.out (by kernel_rfl)) (fun _ _ _ h => h) (Or.inl ⟨by rfl, ?_⟩) ?_ ?_
                              rotate_left
                              · intro w'
                                go_simp
                                with_reducible rfl
                              rotate_left
                              · simp only [Act.put, List.setIfInBounds_toArray, List.set_cons_zero, List.set_cons_succ, i64_w, i32_w]
                                rfl
                              refine pure_ (i := 17) (N := some 73) (v := ?_) (a' := ?_) #[true, true, true, true, true, true, true, true, true, true, true, true, true, true, true, true, true, true, false, false, false, false, false, false, false, false] rfl rfl (any_of HT_.out (by kernel_rfl)) (fun _ _ _ h => h) (Or.inl ⟨by rfl, ?_⟩) ?_ ?_
                              rotate_left
                              · intro w'
                                go_simp
                                with_reducible rfl
                              rotate_left
                              · simp only [Act.put, List.setIfInBounds_toArray, List.set_cons_zero, List.set_cons_succ, i64_w, i32_w]
                                rfl
                              refine pure_ (i := 18) (N := some 74) (v := ?_) (a' := ?_) #[true, true, true, true, true, true, true, true, true, true, true, true, true, true, true, true, true, true, true, false, false, false, false, false, false, false] rfl rfl (any_of HT_.out (by kernel_rfl)) (fun _ _ _ h => h) (Or.inl ⟨by rfl, ?_⟩) ?_ ?_
                              rotate_left
                              · intro w'
                                go_simp
                                with_reducible rfl
                              rotate_left
                              · simp only [Act.put, List.setIfInBounds_toArray, List.set_cons_zero, List.set_cons_succ, i64_w, i32_w]
                                rfl
                              refine pure_ (i := 19) (N := some 75) (v := undef) (a' := ?_) #[true, true, true, true, true, true, true, true, true, true, true, true, true, true, true, true, true, true, true, true, false, false, false, false, false, false] rfl rfl (any_of HT_.out (by kernel_rfl)) (fun _ _ _ h => h) (Or.inr ⟨by rfl, rfl⟩) ?_ ?_
                              rotate_left
                              · simp only [Act.put, List.setIfInBounds_toArray, List.set_cons_zero, List.set_cons_succ, i64_w, i32_w]
                                rfl
                              refine pure_ (i := 20) (N := some 76) (v := undef) (a' := ?_) #[true, true, true, true, true, true, true, true, true, true, true, true, true, true, true, true, true, true, true, true, true, false, false, false, false, false] rfl rfl (any_of HT_.out (by kernel_rfl)) (fun _ _ _ h => h) (Or.inr ⟨by rfl, rfl⟩) ?_ ?_
                              rotate_left
                              · simp only [Act.put, List.setIfInBounds_toArray, List.set_cons_zero, List.set_cons_succ, i64_w, i32_w]
                                rfl
                              refine pure_ (i := 21) (N := some 77) (v := undef) (a' := ?_) #[true, true, true, true, true, true, true, true, true, true, true, true, true, true, true, true, true, true, true, true, true, true, false, false, false, false] rfl rfl (any_of HT_.out (by kernel_rfl)) (fun _ _ _ h => h) (Or.inr ⟨by rfl, rfl⟩) ?_ ?_
                              rotate_left
                              · simp only [Act.put, List.setIfInBounds_toArray, List.set_cons_zero, List.set_cons_succ, i64_w, i32_w]
                                rfl
                              refine pure_ (i := 22) (N := some 78) (v := undef) (a' := ?_) #[true, true, true, true, true, true, true, true, true, true, true, true, true, true, true, true, true, true, true, true, true, true, true, false, false, false] rfl rfl (any_of HT_.out (by kernel_rfl)) (fun _ _ _ h => h) (Or.inr ⟨by rfl, rfl⟩) ?_ ?_
                              rotate_left
                              · simp only [Act.put, List.setIfInBounds_toArray, List.set_cons_zero, List.set_cons_succ, i64_w, i32_w]
                                rfl
                              refine pure_ (i := 23) (N := some 79) (v := undef) (a' := ?_) #[true, true, true, true, true, true, true, true, true, true, true, true, true, true, true, true, true, true, true, true, true, true, true, true, false, false] rfl rfl (any_of HT_.out (by kernel_rfl)) (fun _ _ _ h => h) (Or.inr ⟨by rfl, rfl⟩) ?_ ?_
                              rotate_left
                              · simp only [Act.put, List.setIfInBounds_toArray, List.set_cons_zero, List.set_cons_succ, i64_w, i32_w]
                                rfl
                              refine pure_ (i := 24) (N := some 80) (v := undef) (a' := ?_) #[true, true, true, true, true, true, true, true, true, true, true, true, true, true, true, true, true, true, true, true, true, true, true, true, true, false] rfl rfl (any_of HT_.out (by kernel_rfl)) (fun _ _ _ h => h) (Or.inr ⟨by rfl, rfl⟩) ?_ ?_
                              rotate_left
                              · simp only [Act.put, List.setIfInBounds_toArray, List.set_cons_zero, List.set_cons_succ, i64_w, i32_w]
                                rfl
                              refine pure_ (i := 25) (N := some 81) (v := ?_) (a' := ?_) #[true, true, true, true, true, true, true, true, true, true, true, true, true, true, true, true, true, true, true, true, true, true, true, true, true, true] rfl rfl (any_of HT_.out (by kernel_rfl)) (fun _ _ _ h => h) (Or.inl ⟨by rfl, ?_⟩) ?_ ?_
                              rotate_left
                              · intro w'
                                go_simp
                                with_reducible rfl
                              rotate_left
                              · simp only [Act.put, List.setIfInBounds_toArray, List.set_cons_zero, List.set_cons_succ, i64_w, i32_w]
                                rfl
                              refine done_ (done_of HT_.out (by kernel_rfl)) ?_
                              try go_wp2
                              go_ret
                              exact ⟨by first | rfl | (simp [errW_none, errW_some] <;> rfl) | (simp [*, errW_none, errW_some] <;> rfl), by repeat (first | (with_reducible first | exact HB.out | apply below_alloc | apply pw_below_drewN | apply below_drew1) | exact HB.out)⟩
                            · rw [if_neg c28] at H
                              have c28b0 : decide (((rd_T35 t116 x10_3).f0) < 1) = false := decide_eq_false c28
                              clear c28
                              by_cases c33 : ((rd_T35 t116 x10_3).f0) > 13
                              · rw [if_pos c33] at H
                                have c33b0 : decide (13 < ((rd_T35 t116 x10_3).f0)) = true := decide_eq_true c33
                                clear c33
                                obtain rfl := Option.some.inj H
                                try go_wp2
                                have n0_ := Aside0.mk (Kd.S_drew HO_8.out)
                                have n1_ := Aside0.mk (Kd.S_drew HO_9.out)
                                have n2_ := Aside0.mk (below_drew1 HB.out)
                                clear HO_8
                                clear HO_9
                                clear HB
                                have HO_8 := n0_
                                have HO_9 := n1_
                                have HB := n2_
                                clear n0_ n1_ n2_
                                obtain ⟨Ao35, co35, eo35⟩ := Kd.S_slice HO_8.out
                                (first | subst eo35 | (injection eo35 with f1_ f2_ f3_; have f4_ := f1_.symm; have f5_ := f3_.symm; clear f1_ f2_ f3_; subst f4_; subst f5_))
                                have p122 : 0 ≤ (x10_3 : Int) := of_decide_eq_true (by first | (with_reducible assumption) | assumption)
                                have q122 : x10_3 < (t116.length : Int) := of_decide_eq_true (by first | (with_reducible assumption) | assumption)
                                obtain ⟨ad122, A122_5, c122_5, e122, hx122_0, hx122_1, hx122_2, hx122_3, hx122_4, hx122_5, hl122_5, hi122_5⟩ := at_T35 (Kd.S_reads' HO_8.out).2.2 x10_3 p122 q122
                                cases e122
                                obtain ⟨ce122, hce122, hMe122, hcc122⟩ := Kd.S_get HO_8.out z35 x10_3 p122 (by first | exact q122 | exact of_decide_eq_true (by first | (with_reducible assumption) | assumption) | (have e_ := (Kd.S_reads' HO_8.out).1; omega))
                                obtain ⟨ve122_5, rfl, ge122_5⟩ := k35_openM hMe122
                                have hv122_5 := hcc122 5 _ rfl
                                rw [add_field _ _ 5 (by omega)] at hv122_5
                                replace hv122_5 := Option.some.inj (hv122_5.symm.trans hx122_5)
                                rw [hv122_5] at ge122_5
                                have HL122_5 := Aside0.mk (show Kd.R (Kd.int .u8) 5 _ _ _ _ ((rd_T35 t116 x10_3).f5) from ge122_5)
                                clear hv122_5 ge122_5
                                clear hcc122 hce122
                                have HR122_5 := Aside0.mk hi122_5
                                have HC122_5 := Aside0.mk hl122_5
                                clear hi122_5 hl122_5
                                replace p122 := eq_true p122
                                replace q122 := eq_true q122
                                obtain ⟨Ao36, co36, eo36⟩ := Kd.S_slice HO_9.out
                                (first | subst eo36 | (injection eo36 with f1_ f2_ f3_; have f4_ := f1_.symm; have f5_ := f3_.symm; clear f1_ f2_ f3_; subst f4_; subst f5_))
                                have p123 : 0 ≤ (x10_3 : Int) := of_decide_eq_true (by first | (with_reducible assumption) | assumption)
                                have q123 : x10_3 < (t119.length : Int) := of_decide_eq_true (by first | (with_reducible assumption) | assumption)
                                obtain ⟨ad123, A123_5, c123_5, e123, hx123_0, hx123_1, hx123_2, hx123_3, hx123_4, hx123_5, hl123_5, hi123_5⟩ := at_T35 (Kd.S_reads' HO_9.out).2.2 x10_3 p123 q123
                                cases e123
                                obtain ⟨ce123, hce123, hMe123, hcc123⟩ := Kd.S_get HO_9.out z35 x10_3 p123 (by first | exact q123 | exact of_decide_eq_true (by first | (with_reducible assumption) | assumption) | (have e_ := (Kd.S_reads' HO_9.out).1; omega))
                                obtain ⟨ve123_5, rfl, ge123_5⟩ := k35_openM hMe123
                                have hv123_5 := hcc123 5 _ rfl
                                rw [add_field _ _ 5 (by omega)] at hv123_5
                                replace hv123_5 := Option.some.inj (hv123_5.symm.trans hx123_5)
                                rw [hv123_5] at ge123_5
                                have HL123_5 := Aside0.mk (show Kd.R (Kd.int .u8) 5 _ _ _ _ ((rd_T35 t119 x10_3).f5) from ge123_5)
                                clear hv123_5 ge123_5
                                clear hcc123 hce123
                                have HR123_5 := Aside0.mk hi123_5
                                have HC123_5 := Aside0.mk hl123_5
                                clear hi123_5 hl123_5
                                replace p123 := eq_true p123
                                replace q123 := eq_true q123
                                have p125 : 0 ≤ (x10_3 : Int) := of_decide_eq_true (by first | (with_reducible assumption) | assumption)
                                have q125 : x10_3 < (t116.length : Int) := of_decide_eq_true (by first | (with_reducible assumption) | assumption)
                                obtain ⟨ad125, A125_5, c125_5, e125, hx125_0, hx125_1, hx125_2, hx125_3, hx125_4, hx125_5, hl125_5, hi125_5⟩ := at_T35 (Kd.S_reads' HO_8.out).2.2 x10_3 p125 q125
                                obtain rfl : ad122 = ad125 := (by injection e125)
                                obtain ⟨ce125, hce125, hMe125, hcc125⟩ := Kd.S_get HO_8.out z35 x10_3 p125 (by first | exact q125 | exact of_decide_eq_true (by first | (with_reducible assumption) | assumption) | (have e_ := (Kd.S_reads' HO_8.out).1; omega))
                                obtain ⟨ve125_5, rfl, ge125_5⟩ := k35_openM hMe125
                                have hv125_5 := hcc125 5 _ rfl
                                rw [add_field _ _ 5 (by omega)] at hv125_5
                                replace hv125_5 := Option.some.inj (hv125_5.symm.trans hx125_5)
                                rw [hv125_5] at ge125_5
                                have HL125_5 := Aside0.mk (show Kd.R (Kd.int .u8) 5 _ _ _ _ ((rd_T35 t116 x10_3).f5) from ge125_5)
                                clear hv125_5 ge125_5
                                clear hcc125 hce125
                                have HR125_5 := Aside0.mk hi125_5
                                have HC125_5 := Aside0.mk hl125_5
                                clear hi125_5 hl125_5
                                replace p125 := eq_true p125
                                replace q125 := eq_true q125
                                have p126 : 0 ≤ (x10_3 : Int) := of_decide_eq_true (by first | (with_reducible assumption) | assumption)
                                have q126 : x10_3 < (t116.length : Int) := of_decide_eq_true (by first | (with_reducible assumption) | assumption)
                                obtain ⟨ad126, A126_5, c126_5, e126, hx126_0, hx126_1, hx126_2, hx126_3, hx126_4, hx126_5, hl126_5, hi126_5⟩ := at_T35 (Kd.S_reads' HO_8.out).2.2 x10_3 p126 q126
                                obtain rfl : ad122 = ad126 := (by injection e126)
                                obtain ⟨ce126, hce126, hMe126, hcc126⟩ := Kd.S_get HO_8.out z35 x10_3 p126 (by first | exact q126 | exact of_decide_eq_true (by first | (with_reducible assumption) | assumption) | (have e_ := (Kd.S_reads' HO_8.out).1; omega))
                                obtain ⟨ve126_5, rfl, ge126_5⟩ := k35_openM hMe126
                                have hv126_5 := hcc126 5 _ rfl
                                rw [add_field _ _ 5 (by omega)] at hv126_5
                                replace hv126_5 := Option.some.inj (hv126_5.symm.trans hx126_5)
                                rw [hv126_5] at ge126_5
                                have HL126_5 := Aside0.mk (show Kd.R (Kd.int .u8) 5 _ _ _ _ ((rd_T35 t116 x10_3).f5) from ge126_5)
                                clear hv126_5 ge126_5
                                clear hcc126 hce126
                                have HR126_5 := Aside0.mk hi126_5
                                have HC126_5 := Aside0.mk hl126_5
                                clear hi126_5 hl126_5
                                replace p126 := eq_true p126
                                replace q126 := eq_true q126
                                have ea_ := Option.some.inj (hx125_5.symm.trans hx126_5)
                                injection ea_ with ea_ en_ ec_
                                subst ea_
                                subst ec_
                                clear en_
                                refine start_ (n := 26) (S := fun w' => w'.cell? (ad122.add ((x10_3).toNat * 6)) = some (.int .i64 ((rd_T35 t116 x10_3).f0)) ∧ w'.cell? ⟨(ad122.add ((x10_3).toNat * 6)).block, (ad122.add ((x10_3).toNat * 6)).off + 1, none⟩ = some (.string ((rd_T35 t116 x10_3).f1)) ∧ w'.cell? ⟨(ad122.add ((x10_3).toNat * 6)).block, (ad122.add ((x10_3).toNat * 6)).off + 2, none⟩ = some (.string ((rd_T35 t116 x10_3).f2)) ∧ w'.cell? ⟨(ad122.add ((x10_3).toNat * 6)).block, (ad122.add ((x10_3).toNat * 6)).off + 3, none⟩ = some (.int .i64 ((rd_T35 t116 x10_3).f3)) ∧ w'.cell? ⟨(ad122.add ((x10_3).toNat * 6)).block, (ad122.add ((x10_3).toNat * 6)).off + 4, none⟩ = some (.int .i64 ((rd_T35 t116 x10_3).f4)) ∧ w'.cell? ⟨(ad122.add ((x10_3).toNat * 6)).block, (ad122.add ((x10_3).toNat * 6)).off + 5, none⟩ = some (.slice A122_5 ((rd_T35 t116 x10_3).f5).length c122_5) ∧ w'.cell? (ad123.add ((x10_3).toNat * 6)) = some (.int .i64 ((rd_T35 t119 x10_3).f0)) ∧ w'.cell? ⟨(ad123.add ((x10_3).toNat * 6)).block, (ad123.add ((x10_3).toNat * 6)).off + 1, none⟩ = some (.string ((rd_T35 t119 x10_3).f1)) ∧ w'.cell? ⟨(ad123.add ((x10_3).toNat * 6)).block, (ad123.add ((x10_3).toNat * 6)).off + 2, none⟩ = some (.string ((rd_T35 t119 x10_3).f2)) ∧ w'.cell? ⟨(ad123.add ((x10_3).toNat * 6)).block, (ad123.add ((x10_3).toNat * 6)).off + 3, none⟩ = some (.int .i64 ((rd_T35 t119 x10_3).f3)) ∧ w'.cell? ⟨(ad123.add ((x10_3).toNat * 6)).block, (ad123.add ((x10_3).toNat * 6)).off + 4, none⟩ = some (.int .i64 ((rd_T35 t119 x10_3).f4)) ∧ w'.cell? ⟨(ad123.add ((x10_3).toNat * 6)).block, (ad123.add ((x10_3).toNat * 6)).off + 5, none⟩ = some (.slice A123_5 ((rd_T35 t119 x10_3).f5).length c123_5) ∧ w'.cell? (ad122.add ((x10_3).toNat * 6)) = some (.int .i64 ((rd_T35 t116 x10_3).f0)) ∧ w'.cell? ⟨(ad122.add ((x10_3).toNat * 6)).block, (ad122.add ((x10_3).toNat * 6)).off + 1, none⟩ = some (.string ((rd_T35 t116 x10_3).f1)) ∧ w'.cell? ⟨(ad122.add ((x10_3).toNat * 6)).block, (ad122.add ((x10_3).toNat * 6)).off + 2, none⟩ = some (.string ((rd_T35 t116 x10_3).f2)) ∧ w'.cell? ⟨(ad122.add ((x10_3).toNat * 6)).block, (ad122.add ((x10_3).toNat * 6)).off + 3, none⟩ = some (.int .i64 ((rd_T35 t116 x10_3).f3)) ∧ w'.cell? ⟨(ad122.add ((x10_3).toNat * 6)).block, (ad122.add ((x10_3).toNat * 6)).off + 4, none⟩ = some (.int .i64 ((rd_T35 t116 x10_3).f4)) ∧ w'.cell? ⟨(ad122.add ((x10_3).toNat * 6)).block, (ad122.add ((x10_3).toNat * 6)).off + 5, none⟩ = some (.slice A125_5 ((rd_T35 t116 x10_3).f5).length c125_5) ∧ w'.cell? (ad122.add ((x10_3).toNat * 6)) = some (.int .i64 ((rd_T35 t116 x10_3).f0)) ∧ w'.cell? ⟨(ad122.add ((x10_3).toNat * 6)).block, (ad122.add ((x10_3).toNat * 6)).off + 1, none⟩ = some (.string ((rd_T35 t116 x10_3).f1)) ∧ w'.cell? ⟨(ad122.add ((x10_3).toNat * 6)).block, (ad122.add ((x10_3).toNat * 6)).off + 2, none⟩ = some (.string ((rd_T35 t116 x10_3).f2)) ∧ w'.cell? ⟨(ad122.add ((x10_3).toNat * 6)).block, (ad122.add ((x10_3).toNat * 6)).off + 3, none⟩ = some (.int .i64 ((rd_T35 t116 x10_3).f3)) ∧ w'.cell? ⟨(ad122.add ((x10_3).toNat * 6)).block, (ad122.add ((x10_3).toNat * 6)).off + 4, none⟩ = some (.int .i64 ((rd_T35 t116 x10_3).f4)) ∧ w'.cell? ⟨(ad122.add ((x10_3).toNat * 6)).block, (ad122.add ((x10_3).toNat * 6)).off + 5, none⟩ = some (.slice A125_5 ((rd_T35 t116 x10_3).f5).length c125_5)) (ds := []) #[false, false, false, false, false, false, false, false, false, false, false, false, false, false, false, false, false, false, false, false, false, false, false, false, false, false] (by kernel_rfl) rfl rfl ⟨hx122_0, hx122_1, hx122_2, hx122_3, hx122_4, hx122_5, hx123_0, hx123_1, hx123_2, hx123_3, hx123_4, hx123_5, hx125_0, hx125_1, hx125_2, hx125_3, hx125_4, hx125_5, hx126_0, hx126_1, hx126_2, hx126_3, hx126_4, hx126_5⟩ (fun hHeld => ?_); refine with_tabW lockgatelaw31_LotsMany.tab11 lockgatelaw31_LotsMany.bits11 (fun HT_ HW_ => ?_)
                                generalize wr.drew = w34 at HO_8 HO_9 HB HL122_5 HL123_5 HL125_5 HL126_5 HR122_5 HR123_5 HR125_5 HR126_5 hx122_0 hx122_1 hx122_2 hx122_3 hx122_4 hx122_5 hx123_0 hx123_1 hx123_2 hx123_3 hx123_4 hx123_5 hx125_0 hx125_1 hx125_2 hx125_3 hx125_4 hx125_5 hx126_0 hx126_1 hx126_2 hx126_3 hx126_4 hx126_5 hHeld ⊢
                                refine pure_ (i := 0) (N := some 56) (v := ?_) (a' := ?_) #[true, false, false, false, false, false, false, false, false, false, false, false, false, false, false, false, false, false, false, false, false, false, false, false, false, false] rfl rfl (any_of HT_.out (by kernel_rfl)) (fun _ _ _ h => h) (Or.inl ⟨by rfl, ?_⟩) ?_ ?_
                                rotate_left
                                · intro w'
                                  go_simp
                                  with_reducible rfl
                                rotate_left
                                · simp only [Act.put, List.setIfInBounds_toArray, List.set_cons_zero, List.set_cons_succ, i64_w, i32_w]
                                  rfl
                                refine pure_ (i := 1) (N := some 57) (v := ?_) (a' := ?_) #[true, true, false, false, false, false, false, false, false, false, false, false, false, false, false, false, false, false, false, false, false, false, false, false, false, false] rfl rfl (any_of HT_.out (by kernel_rfl)) (fun _ _ _ h => h) (Or.inl ⟨by rfl, ?_⟩) ?_ ?_
                                rotate_left
                                · intro w'
                                  go_simp
                                  with_reducible rfl
                                rotate_left
                                · simp only [Act.put, List.setIfInBounds_toArray, List.set_cons_zero, List.set_cons_succ, i64_w, i32_w]
                                  rfl
                                refine pure_ (i := 2) (N := some 58) (v := ?_) (a' := ?_) #[true, true, true, false, false, false, false, false, false, false, false, false, false, false, false, false, false, false, false, false, false, false, false, false, false, false] rfl rfl (any_of HT_.out (by kernel_rfl)) (fun _ _ _ h => h) (Or.inl ⟨by rfl, ?_⟩) ?_ ?_
                                rotate_left
                                · intro w'
                                  go_simp
                                  with_reducible rfl
                                rotate_left
                                · simp only [Act.put, List.setIfInBounds_toArray, List.set_cons_zero, List.set_cons_succ, i64_w, i32_w]
                                  rfl
                                refine pure_ (i := 4) (N := some 60) (v := ?_) (a' := ?_) #[true, true, true, false, true, false, false, false, false, false, false, false, false, false, false, false, false, false, false, false, false, false, false, false, false, false] rfl rfl (any_of HT_.out (by kernel_rfl)) (fun _ _ _ h => h) (Or.inl ⟨by rfl, ?_⟩) ?_ ?_
                                rotate_left
                                · intro w'
                                  go_simp
                                  with_reducible rfl
                                rotate_left
                                · simp only [Act.put, List.setIfInBounds_toArray, List.set_cons_zero, List.set_cons_succ, i64_w, i32_w]
                                  rfl
                                refine pure_ (i := 5) (N := some 61) (v := ?_) (a' := ?_) #[true, true, true, false, true, true, false, false, false, false, false, false, false, false, false, false, false, false, false, false, false, false, false, false, false, false] rfl rfl (any_of HT_.out (by kernel_rfl)) (fun _ _ _ h => h) (Or.inl ⟨by rfl, ?_⟩) ?_ ?_
                                rotate_left
                                · intro w'
                                  go_simp
                                  with_reducible rfl
                                rotate_left
                                · simp only [Act.put, List.setIfInBounds_toArray, List.set_cons_zero, List.set_cons_succ, i64_w, i32_w]
                                  rfl
                                refine pure_ (i := 6) (N := some 62) (v := ?_) (a' := ?_) #[true, true, true, false, true, true, true, false, false, false, false, false, false, false, false, false, false, false, false, false, false, false, false, false, false, false] rfl rfl (any_of HT_.out (by kernel_rfl)) (fun _ _ _ h => h) (Or.inl ⟨by rfl, ?_⟩) ?_ ?_
                                rotate_left
                                · intro w'
                                  go_simp
                                  with_reducible rfl
                                rotate_left
                                · simp only [Act.put, List.setIfInBounds_toArray, List.set_cons_zero, List.set_cons_succ, i64_w, i32_w]
                                  rfl
                                refine take_ (i := 3) (N := some 59) (v := ?_) (a' := ?_) #[true, true, true, true, true, true, true, false, false, false, false, false, false, false, false, false, false, false, false, false, false, false, false, false, false, false] rfl rfl (take_ofW HT_.out HW_.out (by kernel_rfl)) (fun _ _ _ h => h) (Or.inl ⟨by rfl, ?_⟩) hHeld ?_ ?_
                                rotate_left
                                · rintro w' ⟨s0, s1, s2, s3, s4, s5, s6, s7, s8, s9, s10, s11, s12, s13, s14, s15, s16, s17, s18, s19, s20, s21, s22, s23⟩
                                  go_simp
                                  with_reducible rfl
                                rotate_left
                                · simp only [Act.put, List.setIfInBounds_toArray, List.set_cons_zero, List.set_cons_succ, i64_w, i32_w]
                                  rfl
                                refine take_ (i := 7) (N := some 63) (v := ?_) (a' := ?_) #[true, true, true, true, true, true, true, true, false, false, false, false, false, false, false, false, false, false, false, false, false, false, false, false, false, false] rfl rfl (take_ofW HT_.out HW_.out (by kernel_rfl)) (fun _ _ _ h => h) (Or.inl ⟨by rfl, ?_⟩) hHeld ?_ ?_
                                rotate_left
                                · rintro w' ⟨s0, s1, s2, s3, s4, s5, s6, s7, s8, s9, s10, s11, s12, s13, s14, s15, s16, s17, s18, s19, s20, s21, s22, s23⟩
                                  go_simp
                                  with_reducible rfl
                                rotate_left
                                · simp only [Act.put, List.setIfInBounds_toArray, List.set_cons_zero, List.set_cons_succ, i64_w, i32_w]
                                  rfl
                                refine one_ (i := 8) (N := some 64) #[true, true, true, true, true, true, true, true, true, false, false, false, false, false, false, false, false, false, false, false, false, false, false, false, false, false] rfl rfl (one_of HT_.out (by kernel_rfl)) (by decide) (fun K hK => ?_)
                                refine goes_ Try.func14 (by kernel_rfl) rfl #[.agg #[.int .i64 ((rd_T35 t116 x10_3).f0), .string ((rd_T35 t116 x10_3).f1), .string ((rd_T35 t116 x10_3).f2), .int .i64 ((rd_T35 t116 x10_3).f3), .int .i64 ((rd_T35 t116 x10_3).f4), .slice A122_5 ((rd_T35 t116 x10_3).f5).length c122_5], .agg #[.int .i64 ((rd_T35 t119 x10_3).f0), .string ((rd_T35 t119 x10_3).f1), .string ((rd_T35 t119 x10_3).f2), .int .i64 ((rd_T35 t119 x10_3).f3), .int .i64 ((rd_T35 t119 x10_3).f4), .slice A123_5 ((rd_T35 t119 x10_3).f5).length c123_5]] (by rfl) rfl rfl (by (try simp only [List.map_toArray, List.map_cons, List.map_nil]); first | done | rfl | (simp only [List.length_drop, List.length_take]; rfl)) ?_
                                with_reducible refine (lockgateref28_SameCall.calls ((rd_T35 t116 x10_3).f0) ((rd_T35 t116 x10_3).f1) ((rd_T35 t116 x10_3).f2) ((rd_T35 t116 x10_3).f3) ((rd_T35 t116 x10_3).f4) _ _ ((rd_T35 t116 x10_3).f5) ((rd_T35 t119 x10_3).f0) ((rd_T35 t119 x10_3).f1) ((rd_T35 t119 x10_3).f2) ((rd_T35 t119 x10_3).f3) ((rd_T35 t119 x10_3).f4) _ _ ((rd_T35 t119 x10_3).f5) true _ ?side1 ?side2 ?side3 ?side4 A26.out).mono ?_
                                (case side1 => repeat (first | exact (by repeat (first | (with_reducible exact HR122_5.out) | (with_reducible refine Kd.C_alloc ?_ _) | (with_reducible refine Kd.C_drewN ?_ _) | (with_reducible refine Kd.C_drew ?_) | exact HR122_5.out)) | (with_reducible refine Kd.C_alloc ?_ _) | (with_reducible refine Kd.C_drewN ?_ _) | (with_reducible refine Kd.C_drew ?_)))
                                (case side2 => exact HC122_5.out)
                                (case side3 => repeat (first | exact (by repeat (first | (with_reducible exact HR123_5.out) | (with_reducible refine Kd.C_alloc ?_ _) | (with_reducible refine Kd.C_drewN ?_ _) | (with_reducible refine Kd.C_drew ?_) | exact HR123_5.out)) | (with_reducible refine Kd.C_alloc ?_ _) | (with_reducible refine Kd.C_drewN ?_ _) | (with_reducible refine Kd.C_drew ?_)))
                                (case side4 => exact HC123_5.out)
                                rintro e w37 ⟨rfl, hb⟩
                                have HS0_ := (hb.cell (World.block_lt_of_cell? _ _ (hHeld.1))).trans (hHeld.1)
                                have HS1_ := (hb.cell (World.block_lt_of_cell? _ _ (hHeld.2.1))).trans (hHeld.2.1)
                                have HS2_ := (hb.cell (World.block_lt_of_cell? _ _ (hHeld.2.2.1))).trans (hHeld.2.2.1)
                                have HS3_ := (hb.cell (World.block_lt_of_cell? _ _ (hHeld.2.2.2.1))).trans (hHeld.2.2.2.1)
                                have HS4_ := (hb.cell (World.block_lt_of_cell? _ _ (hHeld.2.2.2.2.1))).trans (hHeld.2.2.2.2.1)
                                have HS5_ := (hb.cell (World.block_lt_of_cell? _ _ (hHeld.2.2.2.2.2.1))).trans (hHeld.2.2.2.2.2.1)
                                have HS6_ := (hb.cell (World.block_lt_of_cell? _ _ (hHeld.2.2.2.2.2.2.1))).trans (hHeld.2.2.2.2.2.2.1)
                                have HS7_ := (hb.cell (World.block_lt_of_cell? _ _ (hHeld.2.2.2.2.2.2.2.1))).trans (hHeld.2.2.2.2.2.2.2.1)
                                have HS8_ := (hb.cell (World.block_lt_of_cell? _ _ (hHeld.2.2.2.2.2.2.2.2.1))).trans (hHeld.2.2.2.2.2.2.2.2.1)
                                have HS9_ := (hb.cell (World.block_lt_of_cell? _ _ (hHeld.2.2.2.2.2.2.2.2.2.1))).trans (hHeld.2.2.2.2.2.2.2.2.2.1)
                                have HS10_ := (hb.cell (World.block_lt_of_cell? _ _ (hHeld.2.2.2.2.2.2.2.2.2.2.1))).trans (hHeld.2.2.2.2.2.2.2.2.2.2.1)
                                have HS11_ := (hb.cell (World.block_lt_of_cell? _ _ (hHeld.2.2.2.2.2.2.2.2.2.2.2.1))).trans (hHeld.2.2.2.2.2.2.2.2.2.2.2.1)
                                have HS12_ := (hb.cell (World.block_lt_of_cell? _ _ (hHeld.2.2.2.2.2.2.2.2.2.2.2.2.1))).trans (hHeld.2.2.2.2.2.2.2.2.2.2.2.2.1)
                                have HS13_ := (hb.cell (World.block_lt_of_cell? _ _ (hHeld.2.2.2.2.2.2.2.2.2.2.2.2.2.1))).trans (hHeld.2.2.2.2.2.2.2.2.2.2.2.2.2.1)
                                have HS14_ := (hb.cell (World.block_lt_of_cell? _ _ (hHeld.2.2.2.2.2.2.2.2.2.2.2.2.2.2.1))).trans (hHeld.2.2.2.2.2.2.2.2.2.2.2.2.2.2.1)
                                have HS15_ := (hb.cell (World.block_lt_of_cell? _ _ (hHeld.2.2.2.2.2.2.2.2.2.2.2.2.2.2.2.1))).trans (hHeld.2.2.2.2.2.2.2.2.2.2.2.2.2.2.2.1)
                                have HS16_ := (hb.cell (World.block_lt_of_cell? _ _ (hHeld.2.2.2.2.2.2.2.2.2.2.2.2.2.2.2.2.1))).trans (hHeld.2.2.2.2.2.2.2.2.2.2.2.2.2.2.2.2.1)
                                have HS17_ := (hb.cell (World.block_lt_of_cell? _ _ (hHeld.2.2.2.2.2.2.2.2.2.2.2.2.2.2.2.2.2.1))).trans (hHeld.2.2.2.2.2.2.2.2.2.2.2.2.2.2.2.2.2.1)
                                have HS18_ := (hb.cell (World.block_lt_of_cell? _ _ (hHeld.2.2.2.2.2.2.2.2.2.2.2.2.2.2.2.2.2.2.1))).trans (hHeld.2.2.2.2.2.2.2.2.2.2.2.2.2.2.2.2.2.2.1)
                                have HS19_ := (hb.cell (World.block_lt_of_cell? _ _ (hHeld.2.2.2.2.2.2.2.2.2.2.2.2.2.2.2.2.2.2.2.1))).trans (hHeld.2.2.2.2.2.2.2.2.2.2.2.2.2.2.2.2.2.2.2.1)
                                have HS20_ := (hb.cell (World.block_lt_of_cell? _ _ (hHeld.2.2.2.2.2.2.2.2.2.2.2.2.2.2.2.2.2.2.2.2.1))).trans (hHeld.2.2.2.2.2.2.2.2.2.2.2.2.2.2.2.2.2.2.2.2.1)
                                have HS21_ := (hb.cell (World.block_lt_of_cell? _ _ (hHeld.2.2.2.2.2.2.2.2.2.2.2.2.2.2.2.2.2.2.2.2.2.1))).trans (hHeld.2.2.2.2.2.2.2.2.2.2.2.2.2.2.2.2.2.2.2.2.2.1)
                                have HS22_ := (hb.cell (World.block_lt_of_cell? _ _ (hHeld.2.2.2.2.2.2.2.2.2.2.2.2.2.2.2.2.2.2.2.2.2.2.1))).trans (hHeld.2.2.2.2.2.2.2.2.2.2.2.2.2.2.2.2.2.2.2.2.2.2.1)
                                have HS23_ := (hb.cell (World.block_lt_of_cell? _ _ (hHeld.2.2.2.2.2.2.2.2.2.2.2.2.2.2.2.2.2.2.2.2.2.2.2))).trans (hHeld.2.2.2.2.2.2.2.2.2.2.2.2.2.2.2.2.2.2.2.2.2.2.2)
                                refine ⟨_, rfl, ?_⟩
                                have n0_ := Aside0.mk (Kd.S_below (by (with_reducible repeat (first | apply Kd.S_alloc | apply Kd.S_drewN | apply Kd.S_drew)); exact HO_8.out) hb)
                                have n1_ := Aside0.mk (Kd.S_below (by (with_reducible repeat (first | apply Kd.S_alloc | apply Kd.S_drewN | apply Kd.S_drew)); exact HO_9.out) hb)
                                have n2_ := Aside0.mk (Kd.R_below (by (with_reducible repeat (first | apply Kd.R_alloc | apply Kd.R_drewN | apply Kd.R_drew)); exact HL122_5.out) hb)
                                have n3_ := Aside0.mk (Kd.R_below (by (with_reducible repeat (first | apply Kd.R_alloc | apply Kd.R_drewN | apply Kd.R_drew)); exact HL123_5.out) hb)
                                have n4_ := Aside0.mk (Kd.C_below (by repeat (first | (with_reducible exact HR122_5.out) | (with_reducible refine Kd.C_alloc ?_ _) | (with_reducible refine Kd.C_drewN ?_ _) | (with_reducible refine Kd.C_drew ?_) | exact HR122_5.out)) hb)
                                have n5_ := Aside0.mk (Kd.C_below (by repeat (first | (with_reducible exact HR123_5.out) | (with_reducible refine Kd.C_alloc ?_ _) | (with_reducible refine Kd.C_drewN ?_ _) | (with_reducible refine Kd.C_drew ?_) | exact HR123_5.out)) hb)
                                have n6_ := Aside0.mk (below_step (by repeat (first | (with_reducible first | exact HB.out | apply below_alloc | apply pw_below_drewN | apply below_drew1) | exact HB.out)) hb)
                                clear HO_8
                                clear HO_9
                                clear HL122_5
                                clear HL123_5
                                clear HR122_5
                                clear HR123_5
                                clear HB
                                have HO_8 := n0_
                                have HO_9 := n1_
                                have HL122_5 := n2_
                                have HL123_5 := n3_
                                have HR122_5 := n4_
                                have HR123_5 := n5_
                                have HB := n6_
                                clear n0_ n1_ n2_ n3_ n4_ n5_ n6_
                                (try clear hb)
                                (try clear hb2)
                                (try clear hk)
                                (try clear hi)
                                refine hK.out _ _ ⟨HS0_, HS1_, HS2_, HS3_, HS4_, HS5_, HS6_, HS7_, HS8_, HS9_, HS10_, HS11_, HS12_, HS13_, HS14_, HS15_, HS16_, HS17_, HS18_, HS19_, HS20_, HS21_, HS22_, HS23_⟩ (fun hHeld => ?_)
                                clear hK K
                                refine norm_ (a' := ?_) ?_ ?_
                                rotate_left
                                · show Act.put _ (some 64) _ = _
                                  simp only [Act.put, List.setIfInBounds_toArray, List.set_cons_zero, List.set_cons_succ, i64_w, i32_w]
                                  rfl
                                refine pure_ (i := 9) (N := some 65) (v := ?_) (a' := ?_) #[true, true, true, true, true, true, true, true, true, true, false, false, false, false, false, false, false, false, false, false, false, false, false, false, false, false] rfl rfl (any_of HT_.out (by kernel_rfl)) (fun _ _ _ h => h) (Or.inl ⟨by rfl, ?_⟩) ?_ ?_
                                rotate_left
                                · intro w'
                                  go_simp
                                  with_reducible rfl
                                rotate_left
                                · simp only [Act.put, List.setIfInBounds_toArray, List.set_cons_zero, List.set_cons_succ, i64_w, i32_w]
                                  rfl
                                refine pure_ (i := 10) (N := some 66) (v := ?_) (a' := ?_) #[true, true, true, true, true, true, true, true, true, true, true, false, false, false, false, false, false, false, false, false, false, false, false, false, false, false] rfl rfl (any_of HT_.out (by kernel_rfl)) (fun _ _ _ h => h) (Or.inl ⟨by rfl, ?_⟩) ?_ ?_
                                rotate_left
                                · intro w'
                                  go_simp
                                  with_reducible rfl
                                rotate_left
                                · simp only [Act.put, List.setIfInBounds_toArray, List.set_cons_zero, List.set_cons_succ, i64_w, i32_w]
                                  rfl
                                refine pure_ (i := 11) (N := some 67) (v := ?_) (a' := ?_) #[true, true, true, true, true, true, true, true, true, true, true, true, false, false, false, false, false, false, false, false, false, false, false, false, false, false] rfl rfl (any_of HT_.out (by kernel_rfl)) (fun _ _ _ h => h) (Or.inl ⟨by rfl, ?_⟩) ?_ ?_
                                rotate_left
                                · intro w'
                                  go_simp
                                  with_reducible rfl
                                rotate_left
                                · simp only [Act.put, List.setIfInBounds_toArray, List.set_cons_zero, List.set_cons_succ, i64_w, i32_w]
                                  rfl
                                refine pure_ (i := 12) (N := some 68) (v := ?_) (a' := ?_) #[true, true, true, true, true, true, true, true, true, true, true, true, true, false, false, false, false, false, false, false, false, false, false, false, false, false] rfl rfl (any_of HT_.out (by kernel_rfl)) (fun _ _ _ h => h) (Or.inl ⟨by rfl, ?_⟩) ?_ ?_
                                rotate_left
                                · intro w'
                                  go_simp
                                  with_reducible rfl
                                rotate_left
                                · simp only [Act.put, List.setIfInBounds_toArray, List.set_cons_zero, List.set_cons_succ, i64_w, i32_w]
                                  rfl
                                refine pure_ (i := 13) (N := some 69) (v := ?_) (a' := ?_) #[true, true, true, true, true, true, true, true, true, true, true, true, true, true, false, false, false, false, false, false, false, false, false, false, false, false] rfl rfl (any_of HT_.out (by kernel_rfl)) (fun _ _ _ h => h) (Or.inl ⟨by rfl, ?_⟩) ?_ ?_
                                rotate_left
                                · intro w'
                                  go_simp
                                  with_reducible rfl
                                rotate_left
                                · simp only [Act.put, List.setIfInBounds_toArray, List.set_cons_zero, List.set_cons_succ, i64_w, i32_w]
                                  rfl
                                refine pure_ (i := 14) (N := some 70) (v := ?_) (a' := ?_) #[true, true, true, true, true, true, true, true, true, true, true, true, true, true, true, false, false, false, false, false, false, false, false, false, false, false] rfl rfl (any_of HT_.out (by kernel_rfl)) (fun _ _ _ h => h) (Or.inl ⟨by rfl, ?_⟩) ?_ ?_
                                rotate_left
                                · intro w'
                                  go_simp
                                  with_reducible rfl
                                rotate_left
                                · simp only [Act.put, List.setIfInBounds_toArray, List.set_cons_zero, List.set_cons_succ, i64_w, i32_w]
                                  rfl
                                refine take_ (i := 15) (N := some 71) (v := ?_) (a' := ?_) #[true, true, true, true, true, true, true, true, true, true, true, true, true, true, true, true, false, false, false, false, false, false, false, false, false, false] rfl rfl (take_ofW HT_.out HW_.out (by kernel_rfl)) (fun _ _ _ h => h) (Or.inl ⟨by rfl, ?_⟩) hHeld ?_ ?_
                                rotate_left
                                · rintro w' ⟨s0, s1, s2, s3, s4, s5, s6, s7, s8, s9, s10, s11, s12, s13, s14, s15, s16, s17, s18, s19, s20, s21, s22, s23⟩
                                  go_simp
                                  with_reducible rfl
                                rotate_left
                                · simp only [Act.put, List.setIfInBounds_toArray, List.set_cons_zero, List.set_cons_succ, i64_w, i32_w]
                                  rfl
                                refine pure_ (i := 16) (N := some 72) (v := ?_) (a' := ?_) #[true, true, true, true, true, true, true, true, true, true, true, true, true, true, true, true, true, false, false, false, false, false, false, false, false, false] rfl rfl (any_of HT_.out (by kernel_rfl)) (fun _ _ _ h => h) (Or.inl ⟨by rfl, ?_⟩) ?_ ?_
                                rotate_left
                                · intro w'
                                  go_simp
                                  with_reducible rfl
                                rotate_left
                                · simp only [Act.put, List.setIfInBounds_toArray, List.set_cons_zero, List.set_cons_succ, i64_w, i32_w]
                                  rfl
                                refine pure_ (i := 17) (N := some 73) (v := ?_) (a' := ?_) #[true, true, true, true, true, true, true, true, true, true, true, true, true, true, true, true, true, true, false, false, false, false, false, false, false, false] rfl rfl (any_of HT_.out (by kernel_rfl)) (fun _ _ _ h => h) (Or.inl ⟨by rfl, ?_⟩) ?_ ?_
                                rotate_left
                                · intro w'
                                  go_simp
                                  with_reducible rfl
                                rotate_left
                                · simp only [Act.put, List.setIfInBounds_toArray, List.set_cons_zero, List.set_cons_succ, i64_w, i32_w]
                                  rfl
                                refine pure_ (i := 18) (N := some 74) (v := ?_) (a' := ?_) #[true, true, true, true, true, true, true, true, true, true, true, true, true, true, true, true, true, true, true, false, false, false, false, false, false, false] rfl rfl (any_of HT_.out (by kernel_rfl)) (fun _ _ _ h => h) (Or.inl ⟨by rfl, ?_⟩) ?_ ?_
                                rotate_left
                                · intro w'
                                  go_simp
                                  with_reducible rfl
                                rotate_left
                                · simp only [Act.put, List.setIfInBounds_toArray, List.set_cons_zero, List.set_cons_succ, i64_w, i32_w]
                                  rfl
                                refine pure_ (i := 19) (N := some 75) (v := ?_) (a' := ?_) #[true, true, true, true, true, true, true, true, true, true, true, true, true, true, true, true, true, true, true, true, false, false, false, false, false, false] rfl rfl (any_of HT_.out (by kernel_rfl)) (fun _ _ _ h => h) (Or.inl ⟨by rfl, ?_⟩) ?_ ?_
                                rotate_left
                                · intro w'
                                  go_simp
                                  with_reducible rfl
                                rotate_left
                                · simp only [Act.put, List.setIfInBounds_toArray, List.set_cons_zero, List.set_cons_succ, i64_w, i32_w]
                                  rfl
                                refine pure_ (i := 20) (N := some 76) (v := ?_) (a' := ?_) #[true, true, true, true, true, true, true, true, true, true, true, true, true, true, true, true, true, true, true, true, true, false, false, false, false, false] rfl rfl (any_of HT_.out (by kernel_rfl)) (fun _ _ _ h => h) (Or.inl ⟨by rfl, ?_⟩) ?_ ?_
                                rotate_left
                                · intro w'
                                  go_simp
                                  with_reducible rfl
                                rotate_left
                                · simp only [Act.put, List.setIfInBounds_toArray, List.set_cons_zero, List.set_cons_succ, i64_w, i32_w]
                                  rfl
                                refine pure_ (i := 21) (N := some 77) (v := ?_) (a' := ?_) #[true, true, true, true, true, true, true, true, true, true, true, true, true, true, true, true, true, true, true, true, true, true, false, false, false, false] rfl rfl (any_of HT_.out (by kernel_rfl)) (fun _ _ _ h => h) (Or.inl ⟨by rfl, ?_⟩) ?_ ?_
                                rotate_left
                                · intro w'
                                  go_simp
                                  with_reducible rfl
                                rotate_left
                                · simp only [Act.put, List.setIfInBounds_toArray, List.set_cons_zero, List.set_cons_succ, i64_w, i32_w]
                                  rfl
                                refine pure_ (i := 22) (N := some 78) (v := ?_) (a' := ?_) #[true, true, true, true, true, true, true, true, true, true, true, true, true, true, true, true, true, true, true, true, true, true, true, false, false, false] rfl rfl (any_of HT_.out (by kernel_rfl)) (fun _ _ _ h => h) (Or.inl ⟨by rfl, ?_⟩) ?_ ?_
                                rotate_left
                                · intro w'
                                  go_simp
                                  with_reducible rfl
                                rotate_left
                                · simp only [Act.put, List.setIfInBounds_toArray, List.set_cons_zero, List.set_cons_succ, i64_w, i32_w]
                                  rfl
                                refine take_ (i := 23) (N := some 79) (v := ?_) (a' := ?_) #[true, true, true, true, true, true, true, true, true, true, true, true, true, true, true, true, true, true, true, true, true, true, true, true, false, false] rfl rfl (take_ofW HT_.out HW_.out (by kernel_rfl)) (fun _ _ _ h => h) (Or.inl ⟨by rfl, ?_⟩) hHeld ?_ ?_
                                rotate_left
                                · rintro w' ⟨s0, s1, s2, s3, s4, s5, s6, s7, s8, s9, s10, s11, s12, s13, s14, s15, s16, s17, s18, s19, s20, s21, s22, s23⟩
                                  go_simp
                                  with_reducible rfl
                                rotate_left
                                · simp only [Act.put, List.setIfInBounds_toArray, List.set_cons_zero, List.set_cons_succ, i64_w, i32_w]
                                  rfl
                                refine pure_ (i := 24) (N := some 80) (v := ?_) (a' := ?_) #[true, true, true, true, true, true, true, true, true, true, true, true, true, true, true, true, true, true, true, true, true, true, true, true, true, false] rfl rfl (any_of HT_.out (by kernel_rfl)) (fun _ _ _ h => h) (Or.inl ⟨by rfl, ?_⟩) ?_ ?_
                                rotate_left
                                · intro w'
                                  go_simp
                                  with_reducible rfl
                                rotate_left
                                · simp only [Act.put, List.setIfInBounds_toArray, List.set_cons_zero, List.set_cons_succ, i64_w, i32_w]
                                  rfl
                                refine pure_ (i := 25) (N := some 81) (v := ?_) (a' := ?_) #[true, true, true, true, true, true, true, true, true, true, true, true, true, true, true, true, true, true, true, true, true, true, true, true, true, true] rfl rfl (any_of HT_.out (by kernel_rfl)) (fun _ _ _ h => h) (Or.inl ⟨by rfl, ?_⟩) ?_ ?_
                                rotate_left
                                · intro w'
                                  go_simp
                                  with_reducible rfl
                                rotate_left
                                · simp only [Act.put, List.setIfInBounds_toArray, List.set_cons_zero, List.set_cons_succ, i64_w, i32_w]
                                  rfl
                                refine done_ (done_of HT_.out (by kernel_rfl)) ?_
                                try go_wp2
                                go_ret
                                exact ⟨by first | rfl | (simp [errW_none, errW_some] <;> rfl) | (simp [*, errW_none, errW_some] <;> rfl), by repeat (first | (with_reducible first | exact HB.out | apply below_alloc | apply pw_below_drewN | apply below_drew1) | exact HB.out)⟩
                              · rw [if_neg c33] at H
                                have c33b0 : decide (13 < ((rd_T35 t116 x10_3).f0)) = false := decide_eq_false c33
                                clear c33
                                have H' := Aside0.mk H
                                clear H
                                try go_wp2
                                have n0_ := Aside0.mk (Kd.S_drew HO_8.out)
                                have n1_ := Aside0.mk (Kd.S_drew HO_9.out)
                                have n2_ := Aside0.mk (below_drew1 HB.out)
                                clear HO_8
                                clear HO_9
                                clear HB
                                have HO_8 := n0_
                                have HO_9 := n1_
                                have HB := n2_
                                clear n0_ n1_ n2_
                                obtain ⟨Ao39, co39, eo39⟩ := Kd.S_slice HO_8.out
                                (first | subst eo39 | (injection eo39 with f1_ f2_ f3_; have f4_ := f1_.symm; have f5_ := f3_.symm; clear f1_ f2_ f3_; subst f4_; subst f5_))
                                have p122 : 0 ≤ (x10_3 : Int) := of_decide_eq_true (by first | (with_reducible assumption) | assumption)
                                have q122 : x10_3 < (t116.length : Int) := of_decide_eq_true (by first | (with_reducible assumption) | assumption)
                                obtain ⟨ad122, A122_5, c122_5, e122, hx122_0, hx122_1, hx122_2, hx122_3, hx122_4, hx122_5, hl122_5, hi122_5⟩ := at_T35 (Kd.S_reads' HO_8.out).2.2 x10_3 p122 q122
                                cases e122
                                obtain ⟨ce122, hce122, hMe122, hcc122⟩ := Kd.S_get HO_8.out z35 x10_3 p122 (by first | exact q122 | exact of_decide_eq_true (by first | (with_reducible assumption) | assumption) | (have e_ := (Kd.S_reads' HO_8.out).1; omega))
                                obtain ⟨ve122_5, rfl, ge122_5⟩ := k35_openM hMe122
                                have hv122_5 := hcc122 5 _ rfl
                                rw [add_field _ _ 5 (by omega)] at hv122_5
                                replace hv122_5 := Option.some.inj (hv122_5.symm.trans hx122_5)
                                rw [hv122_5] at ge122_5
                                have HL122_5 := Aside0.mk (show Kd.R (Kd.int .u8) 5 _ _ _ _ ((rd_T35 t116 x10_3).f5) from ge122_5)
                                clear hv122_5 ge122_5
                                clear hcc122 hce122
                                have HR122_5 := Aside0.mk hi122_5
                                have HC122_5 := Aside0.mk hl122_5
                                clear hi122_5 hl122_5
                                replace p122 := eq_true p122
                                replace q122 := eq_true q122
                                obtain ⟨Ao40, co40, eo40⟩ := Kd.S_slice HO_9.out
                                (first | subst eo40 | (injection eo40 with f1_ f2_ f3_; have f4_ := f1_.symm; have f5_ := f3_.symm; clear f1_ f2_ f3_; subst f4_; subst f5_))
                                have p123 : 0 ≤ (x10_3 : Int) := of_decide_eq_true (by first | (with_reducible assumption) | assumption)
                                have q123 : x10_3 < (t119.length : Int) := of_decide_eq_true (by first | (with_reducible assumption) | assumption)
                                obtain ⟨ad123, A123_5, c123_5, e123, hx123_0, hx123_1, hx123_2, hx123_3, hx123_4, hx123_5, hl123_5, hi123_5⟩ := at_T35 (Kd.S_reads' HO_9.out).2.2 x10_3 p123 q123
                                cases e123
                                obtain ⟨ce123, hce123, hMe123, hcc123⟩ := Kd.S_get HO_9.out z35 x10_3 p123 (by first | exact q123 | exact of_decide_eq_true (by first | (with_reducible assumption) | assumption) | (have e_ := (Kd.S_reads' HO_9.out).1; omega))
                                obtain ⟨ve123_5, rfl, ge123_5⟩ := k35_openM hMe123
                                have hv123_5 := hcc123 5 _ rfl
                                rw [add_field _ _ 5 (by omega)] at hv123_5
                                replace hv123_5 := Option.some.inj (hv123_5.symm.trans hx123_5)
                                rw [hv123_5] at ge123_5
                                have HL123_5 := Aside0.mk (show Kd.R (Kd.int .u8) 5 _ _ _ _ ((rd_T35 t119 x10_3).f5) from ge123_5)
                                clear hv123_5 ge123_5
                                clear hcc123 hce123
                                have HR123_5 := Aside0.mk hi123_5
                                have HC123_5 := Aside0.mk hl123_5
                                clear hi123_5 hl123_5
                                replace p123 := eq_true p123
                                replace q123 := eq_true q123
                                have p125 : 0 ≤ (x10_3 : Int) := of_decide_eq_true (by first | (with_reducible assumption) | assumption)
                                have q125 : x10_3 < (t116.length : Int) := of_decide_eq_true (by first | (with_reducible assumption) | assumption)
                                obtain ⟨ad125, A125_5, c125_5, e125, hx125_0, hx125_1, hx125_2, hx125_3, hx125_4, hx125_5, hl125_5, hi125_5⟩ := at_T35 (Kd.S_reads' HO_8.out).2.2 x10_3 p125 q125
                                obtain rfl : ad122 = ad125 := (by injection e125)
                                obtain ⟨ce125, hce125, hMe125, hcc125⟩ := Kd.S_get HO_8.out z35 x10_3 p125 (by first | exact q125 | exact of_decide_eq_true (by first | (with_reducible assumption) | assumption) | (have e_ := (Kd.S_reads' HO_8.out).1; omega))
                                obtain ⟨ve125_5, rfl, ge125_5⟩ := k35_openM hMe125
                                have hv125_5 := hcc125 5 _ rfl
                                rw [add_field _ _ 5 (by omega)] at hv125_5
                                replace hv125_5 := Option.some.inj (hv125_5.symm.trans hx125_5)
                                rw [hv125_5] at ge125_5
                                have HL125_5 := Aside0.mk (show Kd.R (Kd.int .u8) 5 _ _ _ _ ((rd_T35 t116 x10_3).f5) from ge125_5)
                                clear hv125_5 ge125_5
                                clear hcc125 hce125
                                have HR125_5 := Aside0.mk hi125_5
                                have HC125_5 := Aside0.mk hl125_5
                                clear hi125_5 hl125_5
                                replace p125 := eq_true p125
                                replace q125 := eq_true q125
                                have p126 : 0 ≤ (x10_3 : Int) := of_decide_eq_true (by first | (with_reducible assumption) | assumption)
                                have q126 : x10_3 < (t116.length : Int) := of_decide_eq_true (by first | (with_reducible assumption) | assumption)
                                obtain ⟨ad126, A126_5, c126_5, e126, hx126_0, hx126_1, hx126_2, hx126_3, hx126_4, hx126_5, hl126_5, hi126_5⟩ := at_T35 (Kd.S_reads' HO_8.out).2.2 x10_3 p126 q126
                                obtain rfl : ad122 = ad126 := (by injection e126)
                                obtain ⟨ce126, hce126, hMe126, hcc126⟩ := Kd.S_get HO_8.out z35 x10_3 p126 (by first | exact q126 | exact of_decide_eq_true (by first | (with_reducible assumption) | assumption) | (have e_ := (Kd.S_reads' HO_8.out).1; omega))
                                obtain ⟨ve126_5, rfl, ge126_5⟩ := k35_openM hMe126
                                have hv126_5 := hcc126 5 _ rfl
                                rw [add_field _ _ 5 (by omega)] at hv126_5
                                replace hv126_5 := Option.some.inj (hv126_5.symm.trans hx126_5)
                                rw [hv126_5] at ge126_5
                                have HL126_5 := Aside0.mk (show Kd.R (Kd.int .u8) 5 _ _ _ _ ((rd_T35 t116 x10_3).f5) from ge126_5)
                                clear hv126_5 ge126_5
                                clear hcc126 hce126
                                have HR126_5 := Aside0.mk hi126_5
                                have HC126_5 := Aside0.mk hl126_5
                                clear hi126_5 hl126_5
                                replace p126 := eq_true p126
                                replace q126 := eq_true q126
                                have ea_ := Option.some.inj (hx125_5.symm.trans hx126_5)
                                injection ea_ with ea_ en_ ec_
                                subst ea_
                                subst ec_
                                clear en_
                                refine start_ (n := 26) (S := fun w' => w'.cell? (ad122.add ((x10_3).toNat * 6)) = some (.int .i64 ((rd_T35 t116 x10_3).f0)) ∧ w'.cell? ⟨(ad122.add ((x10_3).toNat * 6)).block, (ad122.add ((x10_3).toNat * 6)).off + 1, none⟩ = some (.string ((rd_T35 t116 x10_3).f1)) ∧ w'.cell? ⟨(ad122.add ((x10_3).toNat * 6)).block, (ad122.add ((x10_3).toNat * 6)).off + 2, none⟩ = some (.string ((rd_T35 t116 x10_3).f2)) ∧ w'.cell? ⟨(ad122.add ((x10_3).toNat * 6)).block, (ad122.add ((x10_3).toNat * 6)).off + 3, none⟩ = some (.int .i64 ((rd_T35 t116 x10_3).f3)) ∧ w'.cell? ⟨(ad122.add ((x10_3).toNat * 6)).block, (ad122.add ((x10_3).toNat * 6)).off + 4, none⟩ = some (.int .i64 ((rd_T35 t116 x10_3).f4)) ∧ w'.cell? ⟨(ad122.add ((x10_3).toNat * 6)).block, (ad122.add ((x10_3).toNat * 6)).off + 5, none⟩ = some (.slice A122_5 ((rd_T35 t116 x10_3).f5).length c122_5) ∧ w'.cell? (ad123.add ((x10_3).toNat * 6)) = some (.int .i64 ((rd_T35 t119 x10_3).f0)) ∧ w'.cell? ⟨(ad123.add ((x10_3).toNat * 6)).block, (ad123.add ((x10_3).toNat * 6)).off + 1, none⟩ = some (.string ((rd_T35 t119 x10_3).f1)) ∧ w'.cell? ⟨(ad123.add ((x10_3).toNat * 6)).block, (ad123.add ((x10_3).toNat * 6)).off + 2, none⟩ = some (.string ((rd_T35 t119 x10_3).f2)) ∧ w'.cell? ⟨(ad123.add ((x10_3).toNat * 6)).block, (ad123.add ((x10_3).toNat * 6)).off + 3, none⟩ = some (.int .i64 ((rd_T35 t119 x10_3).f3)) ∧ w'.cell? ⟨(ad123.add ((x10_3).toNat * 6)).block, (ad123.add ((x10_3).toNat * 6)).off + 4, none⟩ = some (.int .i64 ((rd_T35 t119 x10_3).f4)) ∧ w'.cell? ⟨(ad123.add ((x10_3).toNat * 6)).block, (ad123.add ((x10_3).toNat * 6)).off + 5, none⟩ = some (.slice A123_5 ((rd_T35 t119 x10_3).f5).length c123_5) ∧ w'.cell? (ad122.add ((x10_3).toNat * 6)) = some (.int .i64 ((rd_T35 t116 x10_3).f0)) ∧ w'.cell? ⟨(ad122.add ((x10_3).toNat * 6)).block, (ad122.add ((x10_3).toNat * 6)).off + 1, none⟩ = some (.string ((rd_T35 t116 x10_3).f1)) ∧ w'.cell? ⟨(ad122.add ((x10_3).toNat * 6)).block, (ad122.add ((x10_3).toNat * 6)).off + 2, none⟩ = some (.string ((rd_T35 t116 x10_3).f2)) ∧ w'.cell? ⟨(ad122.add ((x10_3).toNat * 6)).block, (ad122.add ((x10_3).toNat * 6)).off + 3, none⟩ = some (.int .i64 ((rd_T35 t116 x10_3).f3)) ∧ w'.cell? ⟨(ad122.add ((x10_3).toNat * 6)).block, (ad122.add ((x10_3).toNat * 6)).off + 4, none⟩ = some (.int .i64 ((rd_T35 t116 x10_3).f4)) ∧ w'.cell? ⟨(ad122.add ((x10_3).toNat * 6)).block, (ad122.add ((x10_3).toNat * 6)).off + 5, none⟩ = some (.slice A125_5 ((rd_T35 t116 x10_3).f5).length c125_5) ∧ w'.cell? (ad122.add ((x10_3).toNat * 6)) = some (.int .i64 ((rd_T35 t116 x10_3).f0)) ∧ w'.cell? ⟨(ad122.add ((x10_3).toNat * 6)).block, (ad122.add ((x10_3).toNat * 6)).off + 1, none⟩ = some (.string ((rd_T35 t116 x10_3).f1)) ∧ w'.cell? ⟨(ad122.add ((x10_3).toNat * 6)).block, (ad122.add ((x10_3).toNat * 6)).off + 2, none⟩ = some (.string ((rd_T35 t116 x10_3).f2)) ∧ w'.cell? ⟨(ad122.add ((x10_3).toNat * 6)).block, (ad122.add ((x10_3).toNat * 6)).off + 3, none⟩ = some (.int .i64 ((rd_T35 t116 x10_3).f3)) ∧ w'.cell? ⟨(ad122.add ((x10_3).toNat * 6)).block, (ad122.add ((x10_3).toNat * 6)).off + 4, none⟩ = some (.int .i64 ((rd_T35 t116 x10_3).f4)) ∧ w'.cell? ⟨(ad122.add ((x10_3).toNat * 6)).block, (ad122.add ((x10_3).toNat * 6)).off + 5, none⟩ = some (.slice A125_5 ((rd_T35 t116 x10_3).f5).length c125_5)) (ds := []) #[false, false, false, false, false, false, false, false, false, false, false, false, false, false, false, false, false, false, false, false, false, false, false, false, false, false] (by kernel_rfl) rfl rfl ⟨hx122_0, hx122_1, hx122_2, hx122_3, hx122_4, hx122_5, hx123_0, hx123_1, hx123_2, hx123_3, hx123_4, hx123_5, hx125_0, hx125_1, hx125_2, hx125_3, hx125_4, hx125_5, hx126_0, hx126_1, hx126_2, hx126_3, hx126_4, hx126_5⟩ (fun hHeld => ?_); refine with_tabW lockgatelaw31_LotsMany.tab11 lockgatelaw31_LotsMany.bits11 (fun HT_ HW_ => ?_)
                                generalize wr.drew = w38 at HO_8 HO_9 HB HL122_5 HL123_5 HL125_5 HL126_5 HR122_5 HR123_5 HR125_5 HR126_5 hx122_0 hx122_1 hx122_2 hx122_3 hx122_4 hx122_5 hx123_0 hx123_1 hx123_2 hx123_3 hx123_4 hx123_5 hx125_0 hx125_1 hx125_2 hx125_3 hx125_4 hx125_5 hx126_0 hx126_1 hx126_2 hx126_3 hx126_4 hx126_5 hHeld ⊢
                                refine pure_ (i := 0) (N := some 56) (v := ?_) (a' := ?_) #[true, false, false, false, false, false, false, false, false, false, false, false, false, false, false, false, false, false, false, false, false, false, false, false, false, false] rfl rfl (any_of HT_.out (by kernel_rfl)) (fun _ _ _ h => h) (Or.inl ⟨by rfl, ?_⟩) ?_ ?_
                                rotate_left
                                · intro w'
                                  go_simp
                                  with_reducible rfl
                                rotate_left
                                · simp only [Act.put, List.setIfInBounds_toArray, List.set_cons_zero, List.set_cons_succ, i64_w, i32_w]
                                  rfl
                                refine pure_ (i := 1) (N := some 57) (v := ?_) (a' := ?_) #[true, true, false, false, false, false, false, false, false, false, false, false, false, false, false, false, false, false, false, false, false, false, false, false, false, false] rfl rfl (any_of HT_.out (by kernel_rfl)) (fun _ _ _ h => h) (Or.inl ⟨by rfl, ?_⟩) ?_ ?_
                                rotate_left
                                · intro w'
                                  go_simp
                                  with_reducible rfl
                                rotate_left
                                · simp only [Act.put, List.setIfInBounds_toArray, List.set_cons_zero, List.set_cons_succ, i64_w, i32_w]
                                  rfl
                                refine pure_ (i := 2) (N := some 58) (v := ?_) (a' := ?_) #[true, true, true, false, false, false, false, false, false, false, false, false, false, false, false, false, false, false, false, false, false, false, false, false, false, false] rfl rfl (any_of HT_.out (by kernel_rfl)) (fun _ _ _ h => h) (Or.inl ⟨by rfl, ?_⟩) ?_ ?_
                                rotate_left
                                · intro w'
                                  go_simp
                                  with_reducible rfl
                                rotate_left
                                · simp only [Act.put, List.setIfInBounds_toArray, List.set_cons_zero, List.set_cons_succ, i64_w, i32_w]
                                  rfl
                                refine pure_ (i := 4) (N := some 60) (v := ?_) (a' := ?_) #[true, true, true, false, true, false, false, false, false, false, false, false, false, false, false, false, false, false, false, false, false, false, false, false, false, false] rfl rfl (any_of HT_.out (by kernel_rfl)) (fun _ _ _ h => h) (Or.inl ⟨by rfl, ?_⟩) ?_ ?_
                                rotate_left
                                · intro w'
                                  go_simp
                                  with_reducible rfl
                                rotate_left
                                · simp only [Act.put, List.setIfInBounds_toArray, List.set_cons_zero, List.set_cons_succ, i64_w, i32_w]
                                  rfl
                                refine pure_ (i := 5) (N := some 61) (v := ?_) (a' := ?_) #[true, true, true, false, true, true, false, false, false, false, false, false, false, false, false, false, false, false, false, false, false, false, false, false, false, false] rfl rfl (any_of HT_.out (by kernel_rfl)) (fun _ _ _ h => h) (Or.inl ⟨by rfl, ?_⟩) ?_ ?_
                                rotate_left
                                · intro w'
                                  go_simp
                                  with_reducible rfl
                                rotate_left
                                · simp only [Act.put, List.setIfInBounds_toArray, List.set_cons_zero, List.set_cons_succ, i64_w, i32_w]
                                  rfl
                                refine pure_ (i := 6) (N := some 62) (v := ?_) (a' := ?_) #[true, true, true, false, true, true, true, false, false, false, false, false, false, false, false, false, false, false, false, false, false, false, false, false, false, false] rfl rfl (any_of HT_.out (by kernel_rfl)) (fun _ _ _ h => h) (Or.inl ⟨by rfl, ?_⟩) ?_ ?_
                                rotate_left
                                · intro w'
                                  go_simp
                                  with_reducible rfl
                                rotate_left
                                · simp only [Act.put, List.setIfInBounds_toArray, List.set_cons_zero, List.set_cons_succ, i64_w, i32_w]
                                  rfl
                                refine take_ (i := 3) (N := some 59) (v := ?_) (a' := ?_) #[true, true, true, true, true, true, true, false, false, false, false, false, false, false, false, false, false, false, false, false, false, false, false, false, false, false] rfl rfl (take_ofW HT_.out HW_.out (by kernel_rfl)) (fun _ _ _ h => h) (Or.inl ⟨by rfl, ?_⟩) hHeld ?_ ?_
                                rotate_left
                                · rintro w' ⟨s0, s1, s2, s3, s4, s5, s6, s7, s8, s9, s10, s11, s12, s13, s14, s15, s16, s17, s18, s19, s20, s21, s22, s23⟩
                                  go_simp
                                  with_reducible rfl
                                rotate_left
                                · simp only [Act.put, List.setIfInBounds_toArray, List.set_cons_zero, List.set_cons_succ, i64_w, i32_w]
                                  rfl
                                refine take_ (i := 7) (N := some 63) (v := ?_) (a' := ?_) #[true, true, true, true, true, true, true, true, false, false, false, false, false, false, false, false, false, false, false, false, false, false, false, false, false, false] rfl rfl (take_ofW HT_.out HW_.out (by kernel_rfl)) (fun _ _ _ h => h) (Or.inl ⟨by rfl, ?_⟩) hHeld ?_ ?_
                                rotate_left
                                · rintro w' ⟨s0, s1, s2, s3, s4, s5, s6, s7, s8, s9, s10, s11, s12, s13, s14, s15, s16, s17, s18, s19, s20, s21, s22, s23⟩
                                  go_simp
                                  with_reducible rfl
                                rotate_left
                                · simp only [Act.put, List.setIfInBounds_toArray, List.set_cons_zero, List.set_cons_succ, i64_w, i32_w]
                                  rfl
                                refine one_ (i := 8) (N := some 64) #[true, true, true, true, true, true, true, true, true, false, false, false, false, false, false, false, false, false, false, false, false, false, false, false, false, false] rfl rfl (one_of HT_.out (by kernel_rfl)) (by decide) (fun K hK => ?_)
                                refine goes_ Try.func14 (by kernel_rfl) rfl #[.agg #[.int .i64 ((rd_T35 t116 x10_3).f0), .string ((rd_T35 t116 x10_3).f1), .string ((rd_T35 t116 x10_3).f2), .int .i64 ((rd_T35 t116 x10_3).f3), .int .i64 ((rd_T35 t116 x10_3).f4), .slice A122_5 ((rd_T35 t116 x10_3).f5).length c122_5], .agg #[.int .i64 ((rd_T35 t119 x10_3).f0), .string ((rd_T35 t119 x10_3).f1), .string ((rd_T35 t119 x10_3).f2), .int .i64 ((rd_T35 t119 x10_3).f3), .int .i64 ((rd_T35 t119 x10_3).f4), .slice A123_5 ((rd_T35 t119 x10_3).f5).length c123_5]] (by rfl) rfl rfl (by (try simp only [List.map_toArray, List.map_cons, List.map_nil]); first | done | rfl | (simp only [List.length_drop, List.length_take]; rfl)) ?_
                                with_reducible refine (lockgateref28_SameCall.calls ((rd_T35 t116 x10_3).f0) ((rd_T35 t116 x10_3).f1) ((rd_T35 t116 x10_3).f2) ((rd_T35 t116 x10_3).f3) ((rd_T35 t116 x10_3).f4) _ _ ((rd_T35 t116 x10_3).f5) ((rd_T35 t119 x10_3).f0) ((rd_T35 t119 x10_3).f1) ((rd_T35 t119 x10_3).f2) ((rd_T35 t119 x10_3).f3) ((rd_T35 t119 x10_3).f4) _ _ ((rd_T35 t119 x10_3).f5) true _ ?side1 ?side2 ?side3 ?side4 A26.out).mono ?_
                                (case side1 => repeat (first | exact (by repeat (first | (with_reducible exact HR122_5.out) | (with_reducible refine Kd.C_alloc ?_ _) | (with_reducible refine Kd.C_drewN ?_ _) | (with_reducible refine Kd.C_drew ?_) | exact HR122_5.out)) | (with_reducible refine Kd.C_alloc ?_ _) | (with_reducible refine Kd.C_drewN ?_ _) | (with_reducible refine Kd.C_drew ?_)))
                                (case side2 => exact HC122_5.out)
                                (case side3 => repeat (first | exact (by repeat (first | (with_reducible exact HR123_5.out) | (with_reducible refine Kd.C_alloc ?_ _) | (with_reducible refine Kd.C_drewN ?_ _) | (with_reducible refine Kd.C_drew ?_) | exact HR123_5.out)) | (with_reducible refine Kd.C_alloc ?_ _) | (with_reducible refine Kd.C_drewN ?_ _) | (with_reducible refine Kd.C_drew ?_)))
                                (case side4 => exact HC123_5.out)
                                rintro e w41 ⟨rfl, hb⟩
                                have HS0_ := (hb.cell (World.block_lt_of_cell? _ _ (hHeld.1))).trans (hHeld.1)
                                have HS1_ := (hb.cell (World.block_lt_of_cell? _ _ (hHeld.2.1))).trans (hHeld.2.1)
                                have HS2_ := (hb.cell (World.block_lt_of_cell? _ _ (hHeld.2.2.1))).trans (hHeld.2.2.1)
                                have HS3_ := (hb.cell (World.block_lt_of_cell? _ _ (hHeld.2.2.2.1))).trans (hHeld.2.2.2.1)
                                have HS4_ := (hb.cell (World.block_lt_of_cell? _ _ (hHeld.2.2.2.2.1))).trans (hHeld.2.2.2.2.1)
                                have HS5_ := (hb.cell (World.block_lt_of_cell? _ _ (hHeld.2.2.2.2.2.1))).trans (hHeld.2.2.2.2.2.1)
                                have HS6_ := (hb.cell (World.block_lt_of_cell? _ _ (hHeld.2.2.2.2.2.2.1))).trans (hHeld.2.2.2.2.2.2.1)
                                have HS7_ := (hb.cell (World.block_lt_of_cell? _ _ (hHeld.2.2.2.2.2.2.2.1))).trans (hHeld.2.2.2.2.2.2.2.1)
                                have HS8_ := (hb.cell (World.block_lt_of_cell? _ _ (hHeld.2.2.2.2.2.2.2.2.1))).trans (hHeld.2.2.2.2.2.2.2.2.1)
                                have HS9_ := (hb.cell (World.block_lt_of_cell? _ _ (hHeld.2.2.2.2.2.2.2.2.2.1))).trans (hHeld.2.2.2.2.2.2.2.2.2.1)
                                have HS10_ := (hb.cell (World.block_lt_of_cell? _ _ (hHeld.2.2.2.2.2.2.2.2.2.2.1))).trans (hHeld.2.2.2.2.2.2.2.2.2.2.1)
                                have HS11_ := (hb.cell (World.block_lt_of_cell? _ _ (hHeld.2.2.2.2.2.2.2.2.2.2.2.1))).trans (hHeld.2.2.2.2.2.2.2.2.2.2.2.1)
                                have HS12_ := (hb.cell (World.block_lt_of_cell? _ _ (hHeld.2.2.2.2.2.2.2.2.2.2.2.2.1))).trans (hHeld.2.2.2.2.2.2.2.2.2.2.2.2.1)
                                have HS13_ := (hb.cell (World.block_lt_of_cell? _ _ (hHeld.2.2.2.2.2.2.2.2.2.2.2.2.2.1))).trans (hHeld.2.2.2.2.2.2.2.2.2.2.2.2.2.1)
                                have HS14_ := (hb.cell (World.block_lt_of_cell? _ _ (hHeld.2.2.2.2.2.2.2.2.2.2.2.2.2.2.1))).trans (hHeld.2.2.2.2.2.2.2.2.2.2.2.2.2.2.1)
                                have HS15_ := (hb.cell (World.block_lt_of_cell? _ _ (hHeld.2.2.2.2.2.2.2.2.2.2.2.2.2.2.2.1))).trans (hHeld.2.2.2.2.2.2.2.2.2.2.2.2.2.2.2.1)
                                have HS16_ := (hb.cell (World.block_lt_of_cell? _ _ (hHeld.2.2.2.2.2.2.2.2.2.2.2.2.2.2.2.2.1))).trans (hHeld.2.2.2.2.2.2.2.2.2.2.2.2.2.2.2.2.1)
                                have HS17_ := (hb.cell (World.block_lt_of_cell? _ _ (hHeld.2.2.2.2.2.2.2.2.2.2.2.2.2.2.2.2.2.1))).trans (hHeld.2.2.2.2.2.2.2.2.2.2.2.2.2.2.2.2.2.1)
                                have HS18_ := (hb.cell (World.block_lt_of_cell? _ _ (hHeld.2.2.2.2.2.2.2.2.2.2.2.2.2.2.2.2.2.2.1))).trans (hHeld.2.2.2.2.2.2.2.2.2.2.2.2.2.2.2.2.2.2.1)
                                have HS19_ := (hb.cell (World.block_lt_of_cell? _ _ (hHeld.2.2.2.2.2.2.2.2.2.2.2.2.2.2.2.2.2.2.2.1))).trans (hHeld.2.2.2.2.2.2.2.2.2.2.2.2.2.2.2.2.2.2.2.1)
                                have HS20_ := (hb.cell (World.block_lt_of_cell? _ _ (hHeld.2.2.2.2.2.2.2.2.2.2.2.2.2.2.2.2.2.2.2.2.1))).trans (hHeld.2.2.2.2.2.2.2.2.2.2.2.2.2.2.2.2.2.2.2.2.1)
                                have HS21_ := (hb.cell (World.block_lt_of_cell? _ _ (hHeld.2.2.2.2.2.2.2.2.2.2.2.2.2.2.2.2.2.2.2.2.2.1))).trans (hHeld.2.2.2.2.2.2.2.2.2.2.2.2.2.2.2.2.2.2.2.2.2.1)
                                have HS22_ := (hb.cell (World.block_lt_of_cell? _ _ (hHeld.2.2.2.2.2.2.2.2.2.2.2.2.2.2.2.2.2.2.2.2.2.2.1))).trans (hHeld.2.2.2.2.2.2.2.2.2.2.2.2.2.2.2.2.2.2.2.2.2.2.1)
                                have HS23_ := (hb.cell (World.block_lt_of_cell? _ _ (hHeld.2.2.2.2.2.2.2.2.2.2.2.2.2.2.2.2.2.2.2.2.2.2.2))).trans (hHeld.2.2.2.2.2.2.2.2.2.2.2.2.2.2.2.2.2.2.2.2.2.2.2)
                                refine ⟨_, rfl, ?_⟩
                                have n0_ := Aside0.mk (Kd.S_below (by (with_reducible repeat (first | apply Kd.S_alloc | apply Kd.S_drewN | apply Kd.S_drew)); exact HO_8.out) hb)
                                have n1_ := Aside0.mk (Kd.S_below (by (with_reducible repeat (first | apply Kd.S_alloc | apply Kd.S_drewN | apply Kd.S_drew)); exact HO_9.out) hb)
                                have n2_ := Aside0.mk (Kd.R_below (by (with_reducible repeat (first | apply Kd.R_alloc | apply Kd.R_drewN | apply Kd.R_drew)); exact HL122_5.out) hb)
                                have n3_ := Aside0.mk (Kd.R_below (by (with_reducible repeat (first | apply Kd.R_alloc | apply Kd.R_drewN | apply Kd.R_drew)); exact HL123_5.out) hb)
                                have n4_ := Aside0.mk (Kd.C_below (by repeat (first | (with_reducible exact HR122_5.out) | (with_reducible refine Kd.C_alloc ?_ _) | (with_reducible refine Kd.C_drewN ?_ _) | (with_reducible refine Kd.C_drew ?_) | exact HR122_5.out)) hb)
                                have n5_ := Aside0.mk (Kd.C_below (by repeat (first | (with_reducible exact HR123_5.out) | (with_reducible refine Kd.C_alloc ?_ _) | (with_reducible refine Kd.C_drewN ?_ _) | (with_reducible refine Kd.C_drew ?_) | exact HR123_5.out)) hb)
                                have n6_ := Aside0.mk (below_step (by repeat (first | (with_reducible first | exact HB.out | apply below_alloc | apply pw_below_drewN | apply below_drew1) | exact HB.out)) hb)
                                clear HO_8
                                clear HO_9
                                clear HL122_5
                                clear HL123_5
                                clear HR122_5
                                clear HR123_5
                                clear HB
                                have HO_8 := n0_
                                have HO_9 := n1_
                                have HL122_5 := n2_
                                have HL123_5 := n3_
                                have HR122_5 := n4_
                                have HR123_5 := n5_
                                have HB := n6_
                                clear n0_ n1_ n2_ n3_ n4_ n5_ n6_
                                (try clear hb)
                                (try clear hb2)
                                (try clear hk)
                                (try clear hi)
                                refine hK.out _ _ ⟨HS0_, HS1_, HS2_, HS3_, HS4_, HS5_, HS6_, HS7_, HS8_, HS9_, HS10_, HS11_, HS12_, HS13_, HS14_, HS15_, HS16_, HS17_, HS18_, HS19_, HS20_, HS21_, HS22_, HS23_⟩ (fun hHeld => ?_)
                                clear hK K
                                refine norm_ (a' := ?_) ?_ ?_
                                rotate_left
                                · show Act.put _ (some 64) _ = _
                                  simp only [Act.put, List.setIfInBounds_toArray, List.set_cons_zero, List.set_cons_succ, i64_w, i32_w]
                                  rfl
                                refine pure_ (i := 9) (N := some 65) (v := ?_) (a' := ?_) #[true, true, true, true, true, true, true, true, true, true, false, false, false, false, false, false, false, false, false, false, false, false, false, false, false, false] rfl rfl (any_of HT_.out (by kernel_rfl)) (fun _ _ _ h => h) (Or.inl ⟨by rfl, ?_⟩) ?_ ?_
                                rotate_left
                                · intro w'
                                  go_simp
                                  with_reducible rfl
                                rotate_left
                                · simp only [Act.put, List.setIfInBounds_toArray, List.set_cons_zero, List.set_cons_succ, i64_w, i32_w]
                                  rfl
                                refine pure_ (i := 10) (N := some 66) (v := ?_) (a' := ?_) #[true, true, true, true, true, true, true, true, true, true, true, false, false, false, false, false, false, false, false, false, false, false, false, false, false, false] rfl rfl (any_of HT_.out (by kernel_rfl)) (fun _ _ _ h => h) (Or.inl ⟨by rfl, ?_⟩) ?_ ?_
                                rotate_left
                                · intro w'
                                  go_simp
                                  with_reducible rfl
                                rotate_left
                                · simp only [Act.put, List.setIfInBounds_toArray, List.set_cons_zero, List.set_cons_succ, i64_w, i32_w]
                                  rfl
                                refine pure_ (i := 11) (N := some 67) (v := ?_) (a' := ?_) #[true, true, true, true, true, true, true, true, true, true, true, true, false, false, false, false, false, false, false, false, false, false, false, false, false, false] rfl rfl (any_of HT_.out (by kernel_rfl)) (fun _ _ _ h => h) (Or.inl ⟨by rfl, ?_⟩) ?_ ?_
                                rotate_left
                                · intro w'
                                  go_simp
                                  with_reducible rfl
                                rotate_left
                                · simp only [Act.put, List.setIfInBounds_toArray, List.set_cons_zero, List.set_cons_succ, i64_w, i32_w]
                                  rfl
                                refine pure_ (i := 12) (N := some 68) (v := ?_) (a' := ?_) #[true, true, true, true, true, true, true, true, true, true, true, true, true, false, false, false, false, false, false, false, false, false, false, false, false, false] rfl rfl (any_of HT_.out (by kernel_rfl)) (fun _ _ _ h => h) (Or.inl ⟨by rfl, ?_⟩) ?_ ?_
                                rotate_left
                                · intro w'
                                  go_simp
                                  with_reducible rfl
                                rotate_left
                                · simp only [Act.put, List.setIfInBounds_toArray, List.set_cons_zero, List.set_cons_succ, i64_w, i32_w]
                                  rfl
                                refine pure_ (i := 13) (N := some 69) (v := ?_) (a' := ?_) #[true, true, true, true, true, true, true, true, true, true, true, true, true, true, false, false, false, false, false, false, false, false, false, false, false, false] rfl rfl (any_of HT_.out (by kernel_rfl)) (fun _ _ _ h => h) (Or.inl ⟨by rfl, ?_⟩) ?_ ?_
                                rotate_left
                                · intro w'
                                  go_simp
                                  with_reducible rfl
                                rotate_left
                                · simp only [Act.put, List.setIfInBounds_toArray, List.set_cons_zero, List.set_cons_succ, i64_w, i32_w]
                                  rfl
                                refine pure_ (i := 14) (N := some 70) (v := ?_) (a' := ?_) #[true, true, true, true, true, true, true, true, true, true, true, true, true, true, true, false, false, false, false, false, false, false, false, false, false, false] rfl rfl (any_of HT_.out (by kernel_rfl)) (fun _ _ _ h => h) (Or.inl ⟨by rfl, ?_⟩) ?_ ?_
                                rotate_left
                                · intro w'
                                  go_simp
                                  with_reducible rfl
                                rotate_left
                                · simp only [Act.put, List.setIfInBounds_toArray, List.set_cons_zero, List.set_cons_succ, i64_w, i32_w]
                                  rfl
                                refine take_ (i := 15) (N := some 71) (v := ?_) (a' := ?_) #[true, true, true, true, true, true, true, true, true, true, true, true, true, true, true, true, false, false, false, false, false, false, false, false, false, false] rfl rfl (take_ofW HT_.out HW_.out (by kernel_rfl)) (fun _ _ _ h => h) (Or.inl ⟨by rfl, ?_⟩) hHeld ?_ ?_
                                rotate_left
                                · rintro w' ⟨s0, s1, s2, s3, s4, s5, s6, s7, s8, s9, s10, s11, s12, s13, s14, s15, s16, s17, s18, s19, s20, s21, s22, s23⟩
                                  go_simp
                                  with_reducible rfl
                                rotate_left
                                · simp only [Act.put, List.setIfInBounds_toArray, List.set_cons_zero, List.set_cons_succ, i64_w, i32_w]
                                  rfl
                                refine pure_ (i := 16) (N := some 72) (v := ?_) (a' := ?_) #[true, true, true, true, true, true, true, true, true, true, true, true, true, true, true, true, true, false, false, false, false, false, false, false, false, false] rfl rfl (any_of HT_.out (by kernel_rfl)) (fun _ _ _ h => h) (Or.inl ⟨by rfl, ?_⟩) ?_ ?_
                                rotate_left
                                · intro w'
                                  go_simp
                                  with_reducible rfl
                                rotate_left
                                · simp only [Act.put, List.setIfInBounds_toArray, List.set_cons_zero, List.set_cons_succ, i64_w, i32_w]
                                  rfl
                                refine pure_ (i := 17) (N := some 73) (v := ?_) (a' := ?_) #[true, true, true, true, true, true, true, true, true, true, true, true, true, true, true, true, true, true, false, false, false, false, false, false, false, false] rfl rfl (any_of HT_.out (by kernel_rfl)) (fun _ _ _ h => h) (Or.inl ⟨by rfl, ?_⟩) ?_ ?_
                                rotate_left
                                · intro w'
                                  go_simp
                                  with_reducible rfl
                                rotate_left
                                · simp only [Act.put, List.setIfInBounds_toArray, List.set_cons_zero, List.set_cons_succ, i64_w, i32_w]
                                  rfl
                                refine pure_ (i := 18) (N := some 74) (v := ?_) (a' := ?_) #[true, true, true, true, true, true, true, true, true, true, true, true, true, true, true, true, true, true, true, false, false, false, false, false, false, false] rfl rfl (any_of HT_.out (by kernel_rfl)) (fun _ _ _ h => h) (Or.inl ⟨by rfl, ?_⟩) ?_ ?_
                                rotate_left
                                · intro w'
                                  go_simp
                                  with_reducible rfl
                                rotate_left
                                · simp only [Act.put, List.setIfInBounds_toArray, List.set_cons_zero, List.set_cons_succ, i64_w, i32_w]
                                  rfl
                                refine pure_ (i := 19) (N := some 75) (v := ?_) (a' := ?_) #[true, true, true, true, true, true, true, true, true, true, true, true, true, true, true, true, true, true, true, true, false, false, false, false, false, false] rfl rfl (any_of HT_.out (by kernel_rfl)) (fun _ _ _ h => h) (Or.inl ⟨by rfl, ?_⟩) ?_ ?_
                                rotate_left
                                · intro w'
                                  go_simp
                                  with_reducible rfl
                                rotate_left
                                · simp only [Act.put, List.setIfInBounds_toArray, List.set_cons_zero, List.set_cons_succ, i64_w, i32_w]
                                  rfl
                                refine pure_ (i := 20) (N := some 76) (v := ?_) (a' := ?_) #[true, true, true, true, true, true, true, true, true, true, true, true, true, true, true, true, true, true, true, true, true, false, false, false, false, false] rfl rfl (any_of HT_.out (by kernel_rfl)) (fun _ _ _ h => h) (Or.inl ⟨by rfl, ?_⟩) ?_ ?_
                                rotate_left
                                · intro w'
                                  go_simp
                                  with_reducible rfl
                                rotate_left
                                · simp only [Act.put, List.setIfInBounds_toArray, List.set_cons_zero, List.set_cons_succ, i64_w, i32_w]
                                  rfl
                                refine pure_ (i := 21) (N := some 77) (v := ?_) (a' := ?_) #[true, true, true, true, true, true, true, true, true, true, true, true, true, true, true, true, true, true, true, true, true, true, false, false, false, false] rfl rfl (any_of HT_.out (by kernel_rfl)) (fun _ _ _ h => h) (Or.inl ⟨by rfl, ?_⟩) ?_ ?_
                                rotate_left
                                · intro w'
                                  go_simp
                                  with_reducible rfl
                                rotate_left
                                · simp only [Act.put, List.setIfInBounds_toArray, List.set_cons_zero, List.set_cons_succ, i64_w, i32_w]
                                  rfl
                                refine pure_ (i := 22) (N := some 78) (v := ?_) (a' := ?_) #[true, true, true, true, true, true, true, true, true, true, true, true, true, true, true, true, true, true, true, true, true, true, true, false, false, false] rfl rfl (any_of HT_.out (by kernel_rfl)) (fun _ _ _ h => h) (Or.inl ⟨by rfl, ?_⟩) ?_ ?_
                                rotate_left
                                · intro w'
                                  go_simp
                                  with_reducible rfl
                                rotate_left
                                · simp only [Act.put, List.setIfInBounds_toArray, List.set_cons_zero, List.set_cons_succ, i64_w, i32_w]
                                  rfl
                                refine take_ (i := 23) (N := some 79) (v := ?_) (a' := ?_) #[true, true, true, true, true, true, true, true, true, true, true, true, true, true, true, true, true, true, true, true, true, true, true, true, false, false] rfl rfl (take_ofW HT_.out HW_.out (by kernel_rfl)) (fun _ _ _ h => h) (Or.inl ⟨by rfl, ?_⟩) hHeld ?_ ?_
                                rotate_left
                                · rintro w' ⟨s0, s1, s2, s3, s4, s5, s6, s7, s8, s9, s10, s11, s12, s13, s14, s15, s16, s17, s18, s19, s20, s21, s22, s23⟩
                                  go_simp
                                  with_reducible rfl
                                rotate_left
                                · simp only [Act.put, List.setIfInBounds_toArray, List.set_cons_zero, List.set_cons_succ, i64_w, i32_w]
                                  rfl
                                refine pure_ (i := 24) (N := some 80) (v := ?_) (a' := ?_) #[true, true, true, true, true, true, true, true, true, true, true, true, true, true, true, true, true, true, true, true, true, true, true, true, true, false] rfl rfl (any_of HT_.out (by kernel_rfl)) (fun _ _ _ h => h) (Or.inl ⟨by rfl, ?_⟩) ?_ ?_
                                rotate_left
                                · intro w'
                                  go_simp
                                  with_reducible rfl
                                rotate_left
                                · simp only [Act.put, List.setIfInBounds_toArray, List.set_cons_zero, List.set_cons_succ, i64_w, i32_w]
                                  rfl
                                refine pure_ (i := 25) (N := some 81) (v := ?_) (a' := ?_) #[true, true, true, true, true, true, true, true, true, true, true, true, true, true, true, true, true, true, true, true, true, true, true, true, true, true] rfl rfl (any_of HT_.out (by kernel_rfl)) (fun _ _ _ h => h) (Or.inl ⟨by rfl, ?_⟩) ?_ ?_
                                rotate_left
                                · intro w'
                                  go_simp
                                  with_reducible rfl
                                rotate_left
                                · simp only [Act.put, List.setIfInBounds_toArray, List.set_cons_zero, List.set_cons_succ, i64_w, i32_w]
                                  rfl
                                refine done_ (done_of HT_.out (by kernel_rfl)) ?_
                                try go_wp2
                                go_roundg k3
                                case measure => have := HJ4.out; have := HJ13.out; have := HK3.out; omega
                                case rel => exact ⟨(wrap64 (x10_3 + 1)), (by first | rfl | (simp; done) | (simp [*]; done)), H', ⟨by have := HJ4.out; have := HJ13.out; have := HK3.out; omega⟩, ⟨by (with_reducible repeat (first | apply Kd.S_alloc | apply Kd.S_drewN | apply Kd.S_drew)); exact HO_8.out⟩, ⟨by (with_reducible repeat (first | apply Kd.S_alloc | apply Kd.S_drewN | apply Kd.S_drew)); exact HO_9.out⟩, ⟨by repeat (first | (with_reducible first | exact HB.out | apply below_alloc | apply pw_below_drewN | apply below_drew1) | exact HB.out)⟩⟩
                          · replace c27 := Bool.eq_false_iff.mpr c27
                            subst c27
                            have H1 : (some false) = some r := by rw [if_neg (show ¬ (false = true) by decide)] at H; exact H
                            clear H
                            have H := H1
                            clear H1
                            obtain rfl := Option.some.inj H
                            try go_wp2
                            have n0_ := Aside0.mk (Kd.S_drew HO_8.out)
                            have n1_ := Aside0.mk (Kd.S_drew HO_9.out)
                            have n2_ := Aside0.mk (below_drew1 HB.out)
                            clear HO_8
                            clear HO_9
                            clear HB
                            have HO_8 := n0_
                            have HO_9 := n1_
                            have HB := n2_
                            clear n0_ n1_ n2_
                            obtain ⟨Ao43, co43, eo43⟩ := Kd.S_slice HO_8.out
                            (first | subst eo43 | (injection eo43 with f1_ f2_ f3_; have f4_ := f1_.symm; have f5_ := f3_.symm; clear f1_ f2_ f3_; subst f4_; subst f5_))
                            have p122 : 0 ≤ (x10_3 : Int) := of_decide_eq_true (by first | (with_reducible assumption) | assumption)
                            have q122 : x10_3 < (t116.length : Int) := of_decide_eq_true (by first | (with_reducible assumption) | assumption)
                            obtain ⟨ad122, A122_5, c122_5, e122, hx122_0, hx122_1, hx122_2, hx122_3, hx122_4, hx122_5, hl122_5, hi122_5⟩ := at_T35 (Kd.S_reads' HO_8.out).2.2 x10_3 p122 q122
                            cases e122
                            obtain ⟨ce122, hce122, hMe122, hcc122⟩ := Kd.S_get HO_8.out z35 x10_3 p122 (by first | exact q122 | exact of_decide_eq_true (by first | (with_reducible assumption) | assumption) | (have e_ := (Kd.S_reads' HO_8.out).1; omega))
                            obtain ⟨ve122_5, rfl, ge122_5⟩ := k35_openM hMe122
                            have hv122_5 := hcc122 5 _ rfl
                            rw [add_field _ _ 5 (by omega)] at hv122_5
                            replace hv122_5 := Option.some.inj (hv122_5.symm.trans hx122_5)
                            rw [hv122_5] at ge122_5
                            have HL122_5 := Aside0.mk (show Kd.R (Kd.int .u8) 5 _ _ _ _ ((rd_T35 t116 x10_3).f5) from ge122_5)
                            clear hv122_5 ge122_5
                            clear hcc122 hce122
                            have HR122_5 := Aside0.mk hi122_5
                            have HC122_5 := Aside0.mk hl122_5
                            clear hi122_5 hl122_5
                            replace p122 := eq_true p122
                            replace q122 := eq_true q122
                            obtain ⟨Ao44, co44, eo44⟩ := Kd.S_slice HO_9.out
                            (first | subst eo44 | (injection eo44 with f1_ f2_ f3_; have f4_ := f1_.symm; have f5_ := f3_.symm; clear f1_ f2_ f3_; subst f4_; subst f5_))
                            have p123 : 0 ≤ (x10_3 : Int) := of_decide_eq_true (by first | (with_reducible assumption) | assumption)
                            have q123 : x10_3 < (t119.length : Int) := of_decide_eq_true (by first | (with_reducible assumption) | assumption)
                            obtain ⟨ad123, A123_5, c123_5, e123, hx123_0, hx123_1, hx123_2, hx123_3, hx123_4, hx123_5, hl123_5, hi123_5⟩ := at_T35 (Kd.S_reads' HO_9.out).2.2 x10_3 p123 q123
                            cases e123
                            obtain ⟨ce123, hce123, hMe123, hcc123⟩ := Kd.S_get HO_9.out z35 x10_3 p123 (by first | exact q123 | exact of_decide_eq_true (by first | (with_reducible assumption) | assumption) | (have e_ := (Kd.S_reads' HO_9.out).1; omega))
                            obtain ⟨ve123_5, rfl, ge123_5⟩ := k35_openM hMe123
                            have hv123_5 := hcc123 5 _ rfl
                            rw [add_field _ _ 5 (by omega)] at hv123_5
                            replace hv123_5 := Option.some.inj (hv123_5.symm.trans hx123_5)
                            rw [hv123_5] at ge123_5
                            have HL123_5 := Aside0.mk (show Kd.R (Kd.int .u8) 5 _ _ _ _ ((rd_T35 t119 x10_3).f5) from ge123_5)
                            clear hv123_5 ge123_5
                            clear hcc123 hce123
                            have HR123_5 := Aside0.mk hi123_5
                            have HC123_5 := Aside0.mk hl123_5
                            clear hi123_5 hl123_5
                            replace p123 := eq_true p123
                            replace q123 := eq_true q123
                            refine start_ (n := 26) (S := fun w' => w'.cell? (ad122.add ((x10_3).toNat * 6)) = some (.int .i64 ((rd_T35 t116 x10_3).f0)) ∧ w'.cell? ⟨(ad122.add ((x10_3).toNat * 6)).block, (ad122.add ((x10_3).toNat * 6)).off + 1, none⟩ = some (.string ((rd_T35 t116 x10_3).f1)) ∧ w'.cell? ⟨(ad122.add ((x10_3).toNat * 6)).block, (ad122.add ((x10_3).toNat * 6)).off + 2, none⟩ = some (.string ((rd_T35 t116 x10_3).f2)) ∧ w'.cell? ⟨(ad122.add ((x10_3).toNat * 6)).block, (ad122.add ((x10_3).toNat * 6)).off + 3, none⟩ = some (.int .i64 ((rd_T35 t116 x10_3).f3)) ∧ w'.cell? ⟨(ad122.add ((x10_3).toNat * 6)).block, (ad122.add ((x10_3).toNat * 6)).off + 4, none⟩ = some (.int .i64 ((rd_T35 t116 x10_3).f4)) ∧ w'.cell? ⟨(ad122.add ((x10_3).toNat * 6)).block, (ad122.add ((x10_3).toNat * 6)).off + 5, none⟩ = some (.slice A122_5 ((rd_T35 t116 x10_3).f5).length c122_5) ∧ w'.cell? (ad123.add ((x10_3).toNat * 6)) = some (.int .i64 ((rd_T35 t119 x10_3).f0)) ∧ w'.cell? ⟨(ad123.add ((x10_3).toNat * 6)).block, (ad123.add ((x10_3).toNat * 6)).off + 1, none⟩ = some (.string ((rd_T35 t119 x10_3).f1)) ∧ w'.cell? ⟨(ad123.add ((x10_3).toNat * 6)).block, (ad123.add ((x10_3).toNat * 6)).off + 2, none⟩ = some (.string ((rd_T35 t119 x10_3).f2)) ∧ w'.cell? ⟨(ad123.add ((x10_3).toNat * 6)).block, (ad123.add ((x10_3).toNat * 6)).off + 3, none⟩ = some (.int .i64 ((rd_T35 t119 x10_3).f3)) ∧ w'.cell? ⟨(ad123.add ((x10_3).toNat * 6)).block, (ad123.add ((x10_3).toNat * 6)).off + 4, none⟩ = some (.int .i64 ((rd_T35 t119 x10_3).f4)) ∧ w'.cell? ⟨(ad123.add ((x10_3).toNat * 6)).block, (ad123.add ((x10_3).toNat * 6)).off + 5, none⟩ = some (.slice A123_5 ((rd_T35 t119 x10_3).f5).length c123_5)) (ds := []) #[false, false, false, false, false, false, false, false, false, false, false, false, false, false, false, false, false, false, false, false, false, false, false, false, false, false] (by kernel_rfl) rfl rfl ⟨hx122_0, hx122_1, hx122_2, hx122_3, hx122_4, hx122_5, hx123_0, hx123_1, hx123_2, hx123_3, hx123_4, hx123_5⟩ (fun hHeld => ?_); refine with_tabW lockgatelaw31_LotsMany.tab11 lockgatelaw31_LotsMany.bits11 (fun HT_ HW_ => ?_)
                            generalize wr.drew = w42 at HO_8 HO_9 HB HL122_5 HL123_5 HR122_5 HR123_5 hx122_0 hx122_1 hx122_2 hx122_3 hx122_4 hx122_5 hx123_0 hx123_1 hx123_2 hx123_3 hx123_4 hx123_5 hHeld ⊢
                            refine pure_ (i := 0) (N := some 56) (v := ?_) (a' := ?_) #[true, false, false, false, false, false, false, false, false, false, false, false, false, false, false, false, false, false, false, false, false, false, false, false, false, false] rfl rfl (any_of HT_.out (by kernel_rfl)) (fun _ _ _ h => h) (Or.inl ⟨by rfl, ?_⟩) ?_ ?_
                            rotate_left
                            · intro w'
                              go_simp
                              with_reducible rfl
                            rotate_left
                            · simp only [Act.put, List.setIfInBounds_toArray, List.set_cons_zero, List.set_cons_succ, i64_w, i32_w]
                              rfl
                            refine pure_ (i := 1) (N := some 57) (v := ?_) (a' := ?_) #[true, true, false, false, false, false, false, false, false, false, false, false, false, false, false, false, false, false, false, false, false, false, false, false, false, false] rfl rfl (any_of HT_.out (by kernel_rfl)) (fun _ _ _ h => h) (Or.inl ⟨by rfl, ?_⟩) ?_ ?_
                            rotate_left
                            · intro w'
                              go_simp
                              with_reducible rfl
                            rotate_left
                            · simp only [Act.put, List.setIfInBounds_toArray, List.set_cons_zero, List.set_cons_succ, i64_w, i32_w]
                              rfl
                            refine pure_ (i := 2) (N := some 58) (v := ?_) (a' := ?_) #[true, true, true, false, false, false, false, false, false, false, false, false, false, false, false, false, false, false, false, false, false, false, false, false, false, false] rfl rfl (any_of HT_.out (by kernel_rfl)) (fun _ _ _ h => h) (Or.inl ⟨by rfl, ?_⟩) ?_ ?_
                            rotate_left
                            · intro w'
                              go_simp
                              with_reducible rfl
                            rotate_left
                            · simp only [Act.put, List.setIfInBounds_toArray, List.set_cons_zero, List.set_cons_succ, i64_w, i32_w]
                              rfl
                            refine pure_ (i := 4) (N := some 60) (v := ?_) (a' := ?_) #[true, true, true, false, true, false, false, false, false, false, false, false, false, false, false, false, false, false, false, false, false, false, false, false, false, false] rfl rfl (any_of HT_.out (by kernel_rfl)) (fun _ _ _ h => h) (Or.inl ⟨by rfl, ?_⟩) ?_ ?_
                            rotate_left
                            · intro w'
                              go_simp
                              with_reducible rfl
                            rotate_left
                            · simp only [Act.put, List.setIfInBounds_toArray, List.set_cons_zero, List.set_cons_succ, i64_w, i32_w]
                              rfl
                            refine pure_ (i := 5) (N := some 61) (v := ?_) (a' := ?_) #[true, true, true, false, true, true, false, false, false, false, false, false, false, false, false, false, false, false, false, false, false, false, false, false, false, false] rfl rfl (any_of HT_.out (by kernel_rfl)) (fun _ _ _ h => h) (Or.inl ⟨by rfl, ?_⟩) ?_ ?_
                            rotate_left
                            · intro w'
                              go_simp
                              with_reducible rfl
                            rotate_left
                            · simp only [Act.put, List.setIfInBounds_toArray, List.set_cons_zero, List.set_cons_succ, i64_w, i32_w]
                              rfl
                            refine pure_ (i := 6) (N := some 62) (v := ?_) (a' := ?_) #[true, true, true, false, true, true, true, false, false, false, false, false, false, false, false, false, false, false, false, false, false, false, false, false, false, false] rfl rfl (any_of HT_.out (by kernel_rfl)) (fun _ _ _ h => h) (Or.inl ⟨by rfl, ?_⟩) ?_ ?_
                            rotate_left
                            · intro w'
                              go_simp
                              with_reducible rfl
                            rotate_left
                            · simp only [Act.put, List.setIfInBounds_toArray, List.set_cons_zero, List.set_cons_succ, i64_w, i32_w]
                              rfl
                            refine take_ (i := 3) (N := some 59) (v := ?_) (a' := ?_) #[true, true, true, true, true, true, true, false, false, false, false, false, false, false, false, false, false, false, false, false, false, false, false, false, false, false] rfl rfl (take_ofW HT_.out HW_.out (by kernel_rfl)) (fun _ _ _ h => h) (Or.inl ⟨by rfl, ?_⟩) hHeld ?_ ?_
                            rotate_left
                            · rintro w' ⟨s0, s1, s2, s3, s4, s5, s6, s7, s8, s9, s10, s11⟩
                              go_simp
                              with_reducible rfl
                            rotate_left
                            · simp only [Act.put, List.setIfInBounds_toArray, List.set_cons_zero, List.set_cons_succ, i64_w, i32_w]
                              rfl
                            refine take_ (i := 7) (N := some 63) (v := ?_) (a' := ?_) #[true, true, true, true, true, true, true, true, false, false, false, false, false, false, false, false, false, false, false, false, false, false, false, false, false, false] rfl rfl (take_ofW HT_.out HW_.out (by kernel_rfl)) (fun _ _ _ h => h) (Or.inl ⟨by rfl, ?_⟩) hHeld ?_ ?_
                            rotate_left
                            · rintro w' ⟨s0, s1, s2, s3, s4, s5, s6, s7, s8, s9, s10, s11⟩
                              go_simp
                              with_reducible rfl
                            rotate_left
                            · simp only [Act.put, List.setIfInBounds_toArray, List.set_cons_zero, List.set_cons_succ, i64_w, i32_w]
                              rfl
                            refine one_ (i := 8) (N := some 64) #[true, true, true, true, true, true, true, true, true, false, false, false, false, false, false, false, false, false, false, false, false, false, false, false, false, false] rfl rfl (one_of HT_.out (by kernel_rfl)) (by decide) (fun K hK => ?_)
                            refine goes_ Try.func14 (by kernel_rfl) rfl #[.agg #[.int .i64 ((rd_T35 t116 x10_3).f0), .string ((rd_T35 t116 x10_3).f1), .string ((rd_T35 t116 x10_3).f2), .int .i64 ((rd_T35 t116 x10_3).f3), .int .i64 ((rd_T35 t116 x10_3).f4), .slice A122_5 ((rd_T35 t116 x10_3).f5).length c122_5], .agg #[.int .i64 ((rd_T35 t119 x10_3).f0), .string ((rd_T35 t119 x10_3).f1), .string ((rd_T35 t119 x10_3).f2), .int .i64 ((rd_T35 t119 x10_3).f3), .int .i64 ((rd_T35 t119 x10_3).f4), .slice A123_5 ((rd_T35 t119 x10_3).f5).length c123_5]] (by rfl) rfl rfl (by (try simp only [List.map_toArray, List.map_cons, List.map_nil]); first | done | rfl | (simp only [List.length_drop, List.length_take]; rfl)) ?_
                            with_reducible refine (lockgateref28_SameCall.calls ((rd_T35 t116 x10_3).f0) ((rd_T35 t116 x10_3).f1) ((rd_T35 t116 x10_3).f2) ((rd_T35 t116 x10_3).f3) ((rd_T35 t116 x10_3).f4) _ _ ((rd_T35 t116 x10_3).f5) ((rd_T35 t119 x10_3).f0) ((rd_T35 t119 x10_3).f1) ((rd_T35 t119 x10_3).f2) ((rd_T35 t119 x10_3).f3) ((rd_T35 t119 x10_3).f4) _ _ ((rd_T35 t119 x10_3).f5) false _ ?side1 ?side2 ?side3 ?side4 A26.out).mono ?_
                            (case side1 => repeat (first | exact (by repeat (first | (with_reducible exact HR122_5.out) | (with_reducible refine Kd.C_alloc ?_ _) | (with_reducible refine Kd.C_drewN ?_ _) | (with_reducible refine Kd.C_drew ?_) | exact HR122_5.out)) | (with_reducible refine Kd.C_alloc ?_ _) | (with_reducible refine Kd.C_drewN ?_ _) | (with_reducible refine Kd.C_drew ?_)))
                            (case side2 => exact HC122_5.out)
                            (case side3 => repeat (first | exact (by repeat (first | (with_reducible exact HR123_5.out) | (with_reducible refine Kd.C_alloc ?_ _) | (with_reducible refine Kd.C_drewN ?_ _) | (with_reducible refine Kd.C_drew ?_) | exact HR123_5.out)) | (with_reducible refine Kd.C_alloc ?_ _) | (with_reducible refine Kd.C_drewN ?_ _) | (with_reducible refine Kd.C_drew ?_)))
                            (case side4 => exact HC123_5.out)
                            rintro e w45 ⟨rfl, hb⟩
                            have HS0_ := (hb.cell (World.block_lt_of_cell? _ _ (hHeld.1))).trans (hHeld.1)
                            have HS1_ := (hb.cell (World.block_lt_of_cell? _ _ (hHeld.2.1))).trans (hHeld.2.1)
                            have HS2_ := (hb.cell (World.block_lt_of_cell? _ _ (hHeld.2.2.1))).trans (hHeld.2.2.1)
                            have HS3_ := (hb.cell (World.block_lt_of_cell? _ _ (hHeld.2.2.2.1))).trans (hHeld.2.2.2.1)
                            have HS4_ := (hb.cell (World.block_lt_of_cell? _ _ (hHeld.2.2.2.2.1))).trans (hHeld.2.2.2.2.1)
                            have HS5_ := (hb.cell (World.block_lt_of_cell? _ _ (hHeld.2.2.2.2.2.1))).trans (hHeld.2.2.2.2.2.1)
                            have HS6_ := (hb.cell (World.block_lt_of_cell? _ _ (hHeld.2.2.2.2.2.2.1))).trans (hHeld.2.2.2.2.2.2.1)
                            have HS7_ := (hb.cell (World.block_lt_of_cell? _ _ (hHeld.2.2.2.2.2.2.2.1))).trans (hHeld.2.2.2.2.2.2.2.1)
                            have HS8_ := (hb.cell (World.block_lt_of_cell? _ _ (hHeld.2.2.2.2.2.2.2.2.1))).trans (hHeld.2.2.2.2.2.2.2.2.1)
                            have HS9_ := (hb.cell (World.block_lt_of_cell? _ _ (hHeld.2.2.2.2.2.2.2.2.2.1))).trans (hHeld.2.2.2.2.2.2.2.2.2.1)
                            have HS10_ := (hb.cell (World.block_lt_of_cell? _ _ (hHeld.2.2.2.2.2.2.2.2.2.2.1))).trans (hHeld.2.2.2.2.2.2.2.2.2.2.1)
                            have HS11_ := (hb.cell (World.block_lt_of_cell? _ _ (hHeld.2.2.2.2.2.2.2.2.2.2.2))).trans (hHeld.2.2.2.2.2.2.2.2.2.2.2)
                            refine ⟨_, rfl, ?_⟩
                            have n0_ := Aside0.mk (Kd.S_below (by (with_reducible repeat (first | apply Kd.S_alloc | apply Kd.S_drewN | apply Kd.S_drew)); exact HO_8.out) hb)
                            have n1_ := Aside0.mk (Kd.S_below (by (with_reducible repeat (first | apply Kd.S_alloc | apply Kd.S_drewN | apply Kd.S_drew)); exact HO_9.out) hb)
                            have n2_ := Aside0.mk (Kd.R_below (by (with_reducible repeat (first | apply Kd.R_alloc | apply Kd.R_drewN | apply Kd.R_drew)); exact HL122_5.out) hb)
                            have n3_ := Aside0.mk (Kd.R_below (by (with_reducible repeat (first | apply Kd.R_alloc | apply Kd.R_drewN | apply Kd.R_drew)); exact HL123_5.out) hb)
                            have n4_ := Aside0.mk (Kd.C_below (by repeat (first | (with_reducible exact HR122_5.out) | (with_reducible refine Kd.C_alloc ?_ _) | (with_reducible refine Kd.C_drewN ?_ _) | (with_reducible refine Kd.C_drew ?_) | exact HR122_5.out)) hb)
                            have n5_ := Aside0.mk (Kd.C_below (by repeat (first | (with_reducible exact HR123_5.out) | (with_reducible refine Kd.C_alloc ?_ _) | (with_reducible refine Kd.C_drewN ?_ _) | (with_reducible refine Kd.C_drew ?_) | exact HR123_5.out)) hb)
                            have n6_ := Aside0.mk (below_step (by repeat (first | (with_reducible first | exact HB.out | apply below_alloc | apply pw_below_drewN | apply below_drew1) | exact HB.out)) hb)
                            clear HO_8
                            clear HO_9
                            clear HL122_5
                            clear HL123_5
                            clear HR122_5
                            clear HR123_5
                            clear HB
                            have HO_8 := n0_
                            have HO_9 := n1_
                            have HL122_5 := n2_
                            have HL123_5 := n3_
                            have HR122_5 := n4_
                            have HR123_5 := n5_
                            have HB := n6_
                            clear n0_ n1_ n2_ n3_ n4_ n5_ n6_
                            (try clear hb)
                            (try clear hb2)
                            (try clear hk)
                            (try clear hi)
                            refine hK.out _ _ ⟨HS0_, HS1_, HS2_, HS3_, HS4_, HS5_, HS6_, HS7_, HS8_, HS9_, HS10_, HS11_⟩ (fun hHeld => ?_)
                            clear hK K
                            refine norm_ (a' := ?_) ?_ ?_
                            rotate_left
                            · show Act.put _ (some 64) _ = _
                              simp only [Act.put, List.setIfInBounds_toArray, List.set_cons_zero, List.set_cons_succ, i64_w, i32_w]
                              rfl
                            refine pure_ (i := 9) (N := some 65) (v := ?_) (a' := ?_) #[true, true, true, true, true, true, true, true, true, true, false, false, false, false, false, false, false, false, false, false, false, false, false, false, false, false] rfl rfl (any_of HT_.out (by kernel_rfl)) (fun _ _ _ h => h) (Or.inl ⟨by rfl, ?_⟩) ?_ ?_
                            rotate_left
                            · intro w'
                              go_simp
                              with_reducible rfl
                            rotate_left
                            · simp only [Act.put, List.setIfInBounds_toArray, List.set_cons_zero, List.set_cons_succ, i64_w, i32_w]
                              rfl
                            refine pure_ (i := 10) (N := some 66) (v := ?_) (a' := ?_) #[true, true, true, true, true, true, true, true, true, true, true, false, false, false, false, false, false, false, false, false, false, false, false, false, false, false] rfl rfl (any_of HT_.out (by kernel_rfl)) (fun _ _ _ h => h) (Or.inl ⟨by rfl, ?_⟩) ?_ ?_
                            rotate_left
                            · intro w'
                              go_simp
                              with_reducible rfl
                            rotate_left
                            · simp only [Act.put, List.setIfInBounds_toArray, List.set_cons_zero, List.set_cons_succ, i64_w, i32_w]
                              rfl
                            refine pure_ (i := 11) (N := some 67) (v := undef) (a' := ?_) #[true, true, true, true, true, true, true, true, true, true, true, true, false, false, false, false, false, false, false, false, false, false, false, false, false, false] rfl rfl (any_of HT_.out (by kernel_rfl)) (fun _ _ _ h => h) (Or.inr ⟨by rfl, rfl⟩) ?_ ?_
                            rotate_left
                            · simp only [Act.put, List.setIfInBounds_toArray, List.set_cons_zero, List.set_cons_succ, i64_w, i32_w]
                              rfl
                            refine pure_ (i := 12) (N := some 68) (v := undef) (a' := ?_) #[true, true, true, true, true, true, true, true, true, true, true, true, true, false, false, false, false, false, false, false, false, false, false, false, false, false] rfl rfl (any_of HT_.out (by kernel_rfl)) (fun _ _ _ h => h) (Or.inr ⟨by rfl, rfl⟩) ?_ ?_
                            rotate_left
                            · simp only [Act.put, List.setIfInBounds_toArray, List.set_cons_zero, List.set_cons_succ, i64_w, i32_w]
                              rfl
                            refine pure_ (i := 13) (N := some 69) (v := undef) (a' := ?_) #[true, true, true, true, true, true, true, true, true, true, true, true, true, true, false, false, false, false, false, false, false, false, false, false, false, false] rfl rfl (any_of HT_.out (by kernel_rfl)) (fun _ _ _ h => h) (Or.inr ⟨by rfl, rfl⟩) ?_ ?_
                            rotate_left
                            · simp only [Act.put, List.setIfInBounds_toArray, List.set_cons_zero, List.set_cons_succ, i64_w, i32_w]
                              rfl
                            refine pure_ (i := 14) (N := some 70) (v := undef) (a' := ?_) #[true, true, true, true, true, true, true, true, true, true, true, true, true, true, true, false, false, false, false, false, false, false, false, false, false, false] rfl rfl (any_of HT_.out (by kernel_rfl)) (fun _ _ _ h => h) (Or.inr ⟨by rfl, rfl⟩) ?_ ?_
                            rotate_left
                            · simp only [Act.put, List.setIfInBounds_toArray, List.set_cons_zero, List.set_cons_succ, i64_w, i32_w]
                              rfl
                            refine pure_ (i := 15) (N := some 71) (v := undef) (a' := ?_) #[true, true, true, true, true, true, true, true, true, true, true, true, true, true, true, true, false, false, false, false, false, false, false, false, false, false] rfl rfl (any_of HT_.out (by kernel_rfl)) (fun _ _ _ h => h) (Or.inr ⟨by rfl, rfl⟩) ?_ ?_
                            rotate_left
                            · simp only [Act.put, List.setIfInBounds_toArray, List.set_cons_zero, List.set_cons_succ, i64_w, i32_w]
                              rfl
                            refine pure_ (i := 16) (N := some 72) (v := undef) (a' := ?_) #[true, true, true, true, true, true, true, true, true, true, true, true, true, true, true, true, true, false, false, false, false, false, false, false, false, false] rfl rfl (any_of HT_.out (by kernel_rfl)) (fun _ _ _ h => h) (Or.inr ⟨by rfl, rfl⟩) ?_ ?_
                            rotate_left
                            · simp only [Act.put, List.setIfInBounds_toArray, List.set_cons_zero, List.set_cons_succ, i64_w, i32_w]
                              rfl
                            refine pure_ (i := 17) (N := some 73) (v := ?_) (a' := ?_) #[true, true, true, true, true, true, true, true, true, true, true, true, true, true, true, true, true, true, false, false, false, false, false, false, false, false] rfl rfl (any_of HT_.out (by kernel_rfl)) (fun _ _ _ h => h) (Or.inl ⟨by rfl, ?_⟩) ?_ ?_
                            rotate_left
                            · intro w'
                              go_simp
                              with_reducible rfl
                            rotate_left
                            · simp only [Act.put, List.setIfInBounds_toArray, List.set_cons_zero, List.set_cons_succ, i64_w, i32_w]
                              rfl
                            refine pure_ (i := 18) (N := some 74) (v := ?_) (a' := ?_) #[true, true, true, true, true, true, true, true, true, true, true, true, true, true, true, true, true, true, true, false, false, false, false, false, false, false] rfl rfl (any_of HT_.out (by kernel_rfl)) (fun _ _ _ h => h) (Or.inl ⟨by rfl, ?_⟩) ?_ ?_
                            rotate_left
                            · intro w'
                              go_simp
                              with_reducible rfl
                            rotate_left
                            · simp only [Act.put, List.setIfInBounds_toArray, List.set_cons_zero, List.set_cons_succ, i64_w, i32_w]
                              rfl
                            refine pure_ (i := 19) (N := some 75) (v := undef) (a' := ?_) #[true, true, true, true, true, true, true, true, true, true, true, true, true, true, true, true, true, true, true, true, false, false, false, false, false, false] rfl rfl (any_of HT_.out (by kernel_rfl)) (fun _ _ _ h => h) (Or.inr ⟨by rfl, rfl⟩) ?_ ?_
                            rotate_left
                            · simp only [Act.put, List.setIfInBounds_toArray, List.set_cons_zero, List.set_cons_succ, i64_w, i32_w]
                              rfl
                            refine pure_ (i := 20) (N := some 76) (v := undef) (a' := ?_) #[true, true, true, true, true, true, true, true, true, true, true, true, true, true, true, true, true, true, true, true, true, false, false, false, false, false] rfl rfl (any_of HT_.out (by kernel_rfl)) (fun _ _ _ h => h) (Or.inr ⟨by rfl, rfl⟩) ?_ ?_
                            rotate_left
                            · simp only [Act.put, List.setIfInBounds_toArray, List.set_cons_zero, List.set_cons_succ, i64_w, i32_w]
                              rfl
                            refine pure_ (i := 21) (N := some 77) (v := undef) (a' := ?_) #[true, true, true, true, true, true, true, true, true, true, true, true, true, true, true, true, true, true, true, true, true, true, false, false, false, false] rfl rfl (any_of HT_.out (by kernel_rfl)) (fun _ _ _ h => h) (Or.inr ⟨by rfl, rfl⟩) ?_ ?_
                            rotate_left
                            · simp only [Act.put, List.setIfInBounds_toArray, List.set_cons_zero, List.set_cons_succ, i64_w, i32_w]
                              rfl
                            refine pure_ (i := 22) (N := some 78) (v := undef) (a' := ?_) #[true, true, true, true, true, true, true, true, true, true, true, true, true, true, true, true, true, true, true, true, true, true, true, false, false, false] rfl rfl (any_of HT_.out (by kernel_rfl)) (fun _ _ _ h => h) (Or.inr ⟨by rfl, rfl⟩) ?_ ?_
                            rotate_left
                            · simp only [Act.put, List.setIfInBounds_toArray, List.set_cons_zero, List.set_cons_succ, i64_w, i32_w]
                              rfl
                            refine pure_ (i := 23) (N := some 79) (v := undef) (a' := ?_) #[true, true, true, true, true, true, true, true, true, true, true, true, true, true, true, true, true, true, true, true, true, true, true, true, false, false] rfl rfl (any_of HT_.out (by kernel_rfl)) (fun _ _ _ h => h) (Or.inr ⟨by rfl, rfl⟩) ?_ ?_
                            rotate_left
                            · simp only [Act.put, List.setIfInBounds_toArray, List.set_cons_zero, List.set_cons_succ, i64_w, i32_w]
                              rfl
                            refine pure_ (i := 24) (N := some 80) (v := undef) (a' := ?_) #[true, true, true, true, true, true, true, true, true, true, true, true, true, true, true, true, true, true, true, true, true, true, true, true, true, false] rfl rfl (any_of HT_.out (by kernel_rfl)) (fun _ _ _ h => h) (Or.inr ⟨by rfl, rfl⟩) ?_ ?_
                            rotate_left
                            · simp only [Act.put, List.setIfInBounds_toArray, List.set_cons_zero, List.set_cons_succ, i64_w, i32_w]
                              rfl
                            refine pure_ (i := 25) (N := some 81) (v := ?_) (a' := ?_) #[true, true, true, true, true, true, true, true, true, true, true, true, true, true, true, true, true, true, true, true, true, true, true, true, true, true] rfl rfl (any_of HT_.out (by kernel_rfl)) (fun _ _ _ h => h) (Or.inl ⟨by rfl, ?_⟩) ?_ ?_
                            rotate_left
                            · intro w'
                              go_simp
                              with_reducible rfl
                            rotate_left
                            · simp only [Act.put, List.setIfInBounds_toArray, List.set_cons_zero, List.set_cons_succ, i64_w, i32_w]
                              rfl
                            refine done_ (done_of HT_.out (by kernel_rfl)) ?_
                            try go_wp2
                            go_ret
                            exact ⟨by first | rfl | (simp [errW_none, errW_some] <;> rfl) | (simp [*, errW_none, errW_some] <;> rfl), by repeat (first | (with_reducible first | exact HB.out | apply below_alloc | apply pw_below_drewN | apply below_drew1) | exact HB.out)⟩
                        · rw [if_neg c25] at H
                          exact absurd H (by simp)
                      · rw [if_neg c24] at H
                        exact absurd H (by simp)
                    · rw [if_neg c23] at H
                      exact absurd H (by simp)
                  · rw [if_neg c22] at H
                    have c22b0 : decide (x10_3 < a1) = false := decide_eq_false c22
                    clear c22
                    obtain rfl := Option.some.inj H
                    go_wp2
                    go_ret
                    exact ⟨by first | rfl | (simp [errW_none, errW_some] <;> rfl) | (simp [*, errW_none, errW_some] <;> rfl), by repeat (first | (with_reducible first | exact HB.out | apply below_alloc | apply pw_below_drewN | apply below_drew1) | exact HB.out)⟩

/-- THE ONE PURE STATEMENT of lockgatelaw31_LotsMany: yours. -/
def lockgatelaw31_LotsMany.Pure : Prop := ∀ (a0 : Int) (a1 : Int) (a2 : Int), (Lit.int .i64 a0).wf = true → (Lit.int .i64 a1).wf = true → (Lit.int .i64 a2).wf = true → ∃ k, lockgatelaw31_LotsMany.f k a0 a1 a2 = some true
theorem lockgatelaw31_LotsMany.walk (P : lockgatelaw31_LotsMany.Pure) (a0 : Int) (a1 : Int) (a2 : Int) (w : World) (w0 : (Lit.int .i64 a0).wf = true) (w1 : (Lit.int .i64 a1).wf = true) (w2 : (Lit.int .i64 a2).wf = true) :
    Calls Try.prog 5 #[.int .i64 a0, .int .i64 a1, .int .i64 a2] w fun e w' => e = .returned (.bool true) ∧ Below w.heap.size w w' := by
  obtain ⟨k, h⟩ := P a0 a1 a2 w0 w1 w2
  refine (lockgatelaw31_LotsMany.calls k a0 a1 a2 true w h).mono ?_
  rintro e w' ⟨rfl, hd⟩
  exact ⟨rfl, hd⟩

end Go.Proofs.Ytfilblidhcnhcaa.PLotsMany
