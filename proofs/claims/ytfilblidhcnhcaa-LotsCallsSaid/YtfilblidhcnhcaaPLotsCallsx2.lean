-- written by the session's program wip/print/patch.py (a turned copy of the print) over contracts that the session proved by hand
import Derived.Test.YtfilblidhcnhcaaPLotsCallsx0
import Derived.Test.YtfilblidhcnhcaaPLotsCallsx1
namespace Go.Proofs.Ytfilblidhcnhcaa.PLotsCalls
open Go.Proofs.Ytfilblidhcnhcaa.Given Go.Proofs.Ytfilblidhcnhcaa.PLotsFns
open Go.RowKit Go.Proofs.YtfilblidhcnhcaaW.PrintWords Go.Proofs.YtfilblidhcnhcaaW.PrintLast Go.Proofs.YtfilblidhcnhcaaW.PrintMore
attribute [local go_sem] max2_int min2_int max_two min_two max_three min_three max_four min_four   -- for this text's walks alone
set_option linter.unusedVariables false
set_option linter.unusedSimpArgs false

/-! ### lockgatelaw31_LotsCalls: function 4 -/
mutual
def lockgatelaw31_LotsCalls.j0 : Nat → Int → Int → Bool → Bool → Option (Bool)
  | 0, _, _, _, _ => none
  | k + 1, x0, x1, x5, x20 => if x20 = true then (some x5) else ((lots_Calls.f k x0 x1).bind fun t116 => ((lockgateref28_Calls.f k x0 x1).bind fun t119 => (if (t116.length : Int) = (t119.length : Int) then ((lots_New.f x0).bind fun t122 => (lockgatelaw31_LotsCalls.l0 k t116 t119 0 t122)) else (some false))))
def lockgatelaw31_LotsCalls.l0 : Nat → List (S35) → List (S35) → Int → Int → Option (Bool)
  | 0, _, _, _, _ => none
  | k + 1, x6, x7, x9, x124000 => if x9 < (x6.length : Int) then (if 0 ≤ x9 then (if x9 < (x7.length : Int) then ((lockgateref28_SameCall.f ((rd_T35 x6 x9).f0) ((rd_T35 x6 x9).f1) ((rd_T35 x6 x9).f2) ((rd_T35 x6 x9).f3) ((rd_T35 x6 x9).f4) ((rd_T35 x6 x9).f5) ((rd_T35 x7 x9).f0) ((rd_T35 x7 x9).f1) ((rd_T35 x7 x9).f2) ((rd_T35 x7 x9).f3) ((rd_T35 x7 x9).f4) ((rd_T35 x7 x9).f5)).bind fun t126 => (if t126 = true then (if x9 < 50 then ((lots_Lot_Call.f x124000).bind fun bt127 => ((lockgateref28_SameCall.f bt127.1 bt127.2.1 bt127.2.2.1 bt127.2.2.2.1 bt127.2.2.2.2.1 bt127.2.2.2.2.2.1 ((rd_T35 x7 x9).f0) ((rd_T35 x7 x9).f1) ((rd_T35 x7 x9).f2) ((rd_T35 x7 x9).f3) ((rd_T35 x7 x9).f4) ((rd_T35 x7 x9).f5)).bind fun t137 => (if t137 = true then (lockgatelaw31_LotsCalls.l0 k x6 x7 (wrap64 (x9 + 1)) bt127.2.2.2.2.2.2) else (some false)))) else (lockgatelaw31_LotsCalls.l0 k x6 x7 (wrap64 (x9 + 1)) x124000)) else (some false))) else (none)) else (none)) else (some true)
end
def lockgatelaw31_LotsCalls.f (k : Nat) (a0 : Int) (a1 : Int) : Option (Bool) := (lockgatelaw31_alive.f).bind fun t115 => (if t115 = true then (if a1 > 60 then (lockgatelaw31_LotsCalls.j0 k a0 a1 t115 (decide (a1 < 1000))) else (lockgatelaw31_LotsCalls.j0 k a0 a1 t115 false)) else (lockgatelaw31_LotsCalls.j0 k a0 a1 t115 true))
theorem lockgatelaw31_LotsCalls.mono_l : ∀ k, (∀ y0 y1 y2 y3, LeO (lockgatelaw31_LotsCalls.j0 k y0 y1 y2 y3) (lockgatelaw31_LotsCalls.j0 (k + 1) y0 y1 y2 y3)) ∧ (∀ y0 y1 y2 y3, LeO (lockgatelaw31_LotsCalls.l0 k y0 y1 y2 y3) (lockgatelaw31_LotsCalls.l0 (k + 1) y0 y1 y2 y3))
  | 0 => ⟨fun _ _ _ _ r h => by simp [lockgatelaw31_LotsCalls.j0] at h, fun _ _ _ _ r h => by simp [lockgatelaw31_LotsCalls.l0] at h⟩
  | k + 1 => by
    obtain ⟨ih0, ih1⟩ := lockgatelaw31_LotsCalls.mono_l k
    refine ⟨?_, ?_⟩
    · intro y0 y1 y2 y3
      unfold lockgatelaw31_LotsCalls.j0
      repeat' first
      | (with_reducible exact ih0 _ _ _ _)
      | (with_reducible exact ih1 _ _ _ _)
      | (with_reducible exact lockgateref28_Calls.mono _ _ _)
      | (with_reducible exact lots_Calls.mono _ _ _)
      | (with_reducible exact LeO.refl _)
      | (with_reducible exact LeO.none _)
      | (with_reducible refine LeO.ite ?_ ?_)
      | (with_reducible refine LeO.bind ?_ (fun _ => ?_))
      | exact ih0 _ _ _ _
      | exact ih1 _ _ _ _
      | exact lockgateref28_Calls.mono _ _ _
      | exact lots_Calls.mono _ _ _
      | exact LeO.none _
      | refine LeO.ite ?_ ?_
      | refine LeO.bind ?_ (fun _ => ?_)
    · intro y0 y1 y2 y3
      unfold lockgatelaw31_LotsCalls.l0
      repeat' first
      | (with_reducible exact ih0 _ _ _ _)
      | (with_reducible exact ih1 _ _ _ _)
      | (with_reducible exact lockgateref28_Calls.mono _ _ _)
      | (with_reducible exact lots_Calls.mono _ _ _)
      | (with_reducible exact LeO.refl _)
      | (with_reducible exact LeO.none _)
      | (with_reducible refine LeO.ite ?_ ?_)
      | (with_reducible refine LeO.bind ?_ (fun _ => ?_))
      | exact ih0 _ _ _ _
      | exact ih1 _ _ _ _
      | exact lockgateref28_Calls.mono _ _ _
      | exact lots_Calls.mono _ _ _
      | exact LeO.none _
      | refine LeO.ite ?_ ?_
      | refine LeO.bind ?_ (fun _ => ?_)
theorem lockgatelaw31_LotsCalls.mono : ∀ a0 a1 k, LeO (lockgatelaw31_LotsCalls.f k a0 a1) (lockgatelaw31_LotsCalls.f (k + 1) a0 a1) := by
  intro a0 a1 k
  obtain ⟨ih0, ih1⟩ := lockgatelaw31_LotsCalls.mono_l k
  unfold lockgatelaw31_LotsCalls.f
  repeat' first
      | (with_reducible exact ih0 _ _ _ _)
      | (with_reducible exact ih1 _ _ _ _)
      | (with_reducible exact lockgateref28_Calls.mono _ _ _)
      | (with_reducible exact lots_Calls.mono _ _ _)
      | (with_reducible exact LeO.refl _)
      | (with_reducible exact LeO.none _)
      | (with_reducible refine LeO.ite ?_ ?_)
      | (with_reducible refine LeO.bind ?_ (fun _ => ?_))
      | exact ih0 _ _ _ _
      | exact ih1 _ _ _ _
      | exact lockgateref28_Calls.mono _ _ _
      | exact lots_Calls.mono _ _ _
      | exact LeO.none _
      | refine LeO.ite ?_ ?_
      | refine LeO.bind ?_ (fun _ => ?_)
def lockgatelaw31_LotsCalls.T12 : Bool × List (List Nat × List Nat) := (true, [([], []), ([], []), ([0, 1], [0, 1]), ([2], [2]), ([], []), ([], []), ([4, 5], [4, 5]), ([6], [6]), ([3, 7], [3, 7]), ([8], [8]), ([9, 8], [9]), ([10], [10]), ([11, 10], [10, 11]), ([12, 10, 10], [10, 12]), ([13], [13]), ([14, 13, 13], [13, 14]), ([13], [13]), ([13], [13]), ([16, 17, 13], [13, 16, 17]), ([18, 13], [13, 18]), ([15, 19, 15, 13], [13, 15, 19]), ([20, 13], [13, 20]), ([13, 21, 10], [10, 13, 21]), ([10, 22], [10, 22])])
def lockgatelaw31_LotsCalls.B12 : List Nat := [0, 0, 3, 7, 0, 0, 48, 112, 255, 511, 1023, 2047, 4095, 8191, 16383, 32767, 16383, 16383, 212991, 475135, 1048575, 2097151, 4194303, 8388607]
theorem lockgatelaw31_LotsCalls.tab12 : rtab .any (opsOf Try.f4 12) = lockgatelaw31_LotsCalls.T12 := by kernel_rfl
theorem lockgatelaw31_LotsCalls.bits12 : waitsOk lockgatelaw31_LotsCalls.T12.2 lockgatelaw31_LotsCalls.B12 = true := by kernel_rfl
set_option maxHeartbeats 8000000 in
set_option maxRecDepth 100000 in
theorem lockgatelaw31_LotsCalls.calls (k : Nat) (a0 : Int) (a1 : Int) (r : Bool) (w : World) (h : lockgatelaw31_LotsCalls.f k a0 a1 = some r) :
    Calls Try.prog 4 #[.int .i64 a0, .int .i64 a1] w fun e w' => e = .returned (.bool r) ∧ Below w.heap.size w w' := by
  have hu35 := Try.underlying35
  have HB := Aside0.mk (Below.refl w.heap.size w)
  have H : ((lockgatelaw31_alive.f).bind fun t115 => (if t115 = true then (if a1 > 60 then (lockgatelaw31_LotsCalls.j0 k a0 a1 t115 (decide (a1 < 1000))) else (lockgatelaw31_LotsCalls.j0 k a0 a1 t115 false)) else (lockgatelaw31_LotsCalls.j0 k a0 a1 t115 true))) = some r := h
  clear h
  replace H := Option.bind_eq_some_iff.mp H
  obtain ⟨t115, A30, H⟩ := H
  replace H : (if t115 = true then (if a1 > 60 then (lockgatelaw31_LotsCalls.j0 k a0 a1 t115 (decide (a1 < 1000))) else (lockgatelaw31_LotsCalls.j0 k a0 a1 t115 false)) else (lockgatelaw31_LotsCalls.j0 k a0 a1 t115 true)) = some r := H
  have A3 := Aside0.mk A30
  clear A30
  have HC4 := Aside0.mk H
  clear H
  go_enter Try.func4, Try.ntmps4
  go_upto_region 2 with (first | ((with_reducible refine gate_callee (f := 7) rfl ?_); refine goesL_ (some 10) rfl rfl Try.func7 (by kernel_rfl) rfl #[] rfl (by (try simp only [List.map_toArray, List.map_cons, List.map_nil]); first | done | rfl | (simp only [List.length_drop, List.length_take]; rfl)) ?_; (with_reducible refine (lockgatelaw31_alive.calls  t115 _ A3.out).mono ?_); rintro e w5 ⟨rfl, hb⟩; refine ⟨_, rfl, ?_⟩; have n0_ := Aside0.mk (below_step (by repeat (first | (with_reducible first | exact HB.out | apply below_alloc | apply pw_below_drewN | apply below_drew1) | exact HB.out)) hb); clear HB; have HB := n0_; clear n0_; (try clear hb); (try clear hb2); (try clear hk); (try clear hi)))
  (try simp only [Act.put, List.setIfInBounds_toArray, List.set_cons_zero, List.set_cons_succ])
  go_cut [20] (fun v20 wc => ∃ (kq : Nat) (x20_3 : Bool), v20 = .bool x20_3 ∧ Aside0 (lockgatelaw31_LotsCalls.j0 kq a0 a1 t115 x20_3 = some r) ∧ Aside0 (kq ≤ k) ∧ Aside0 (Below w.heap.size w wc))
  case first =>
    have H := HC4.out
    clear HC4
    by_cases c6 : t115 = true
    · subst c6
      have H1 : (if a1 > 60 then (lockgatelaw31_LotsCalls.j0 k a0 a1 true (decide (a1 < 1000))) else (lockgatelaw31_LotsCalls.j0 k a0 a1 true false)) = some r := by rw [if_pos rfl] at H; exact H
      clear H
      have H := H1
      clear H1
      by_cases c7 : a1 > 60
      · rw [if_pos c7] at H
        have c7b0 : decide (60 < a1) = true := decide_eq_true c7
        clear c7
        (first | rw [c7b0] | (simp only [i64_w, i32_w]; rw [c7b0]) | skip)
        have H' := Aside0.mk H
        clear H
        go_wp2
        go_meet
        case rel => exact ⟨_, (decide (a1 < 1000)), (by first | rfl | (simp; done) | (simp [*]; done)), H', ⟨by first | omega | exact Nat.le_refl _⟩, ⟨by repeat (first | (with_reducible first | exact HB.out | apply below_alloc | apply pw_below_drewN | apply below_drew1) | exact HB.out)⟩⟩
      · rw [if_neg c7] at H
        have c7b0 : decide (60 < a1) = false := decide_eq_false c7
        clear c7
        (first | rw [c7b0] | (simp only [i64_w, i32_w]; rw [c7b0]) | skip)
        have H' := Aside0.mk H
        clear H
        go_wp2
        go_meet
        case rel => exact ⟨_, (false), (by first | rfl | (simp; done) | (simp [*]; done)), H', ⟨by first | omega | exact Nat.le_refl _⟩, ⟨by repeat (first | (with_reducible first | exact HB.out | apply below_alloc | apply pw_below_drewN | apply below_drew1) | exact HB.out)⟩⟩
    · replace c6 := Bool.eq_false_iff.mpr c6
      subst c6
      have H1 : (lockgatelaw31_LotsCalls.j0 k a0 a1 false true) = some r := by rw [if_neg (show ¬ (false = true) by decide)] at H; exact H
      clear H
      have H := H1
      clear H1
      have H' := Aside0.mk H
      clear H
      go_wp2
      go_meet
      case rel => exact ⟨_, (true), (by first | rfl | (simp; done) | (simp [*]; done)), H', ⟨by first | omega | exact Nat.le_refl _⟩, ⟨by repeat (first | (with_reducible first | exact HB.out | apply below_alloc | apply pw_below_drewN | apply below_drew1) | exact HB.out)⟩⟩
  case rest =>
    clear HC4
    try clear p2
    try clear c4
    try clear c6
    try clear c7
    try clear c7b0
    obtain ⟨kq, x20_3, rfl, HA, HJ3, HB⟩ := hcut
    cases kq with
    | zero => exact absurd HA.out (by simp [lockgatelaw31_LotsCalls.j0])
    | succ kj3 =>
      have H := HA.out
      clear HA
      simp only [lockgatelaw31_LotsCalls.j0] at H
      by_cases c8 : x20_3 = true
      · subst c8
        have H1 : (some t115) = some r := by rw [if_pos rfl] at H; exact H
        clear H
        have H := H1
        clear H1
        obtain rfl := Option.some.inj H
        go_wp2
        go_ret
        exact ⟨by first | rfl | (simp [errW_none, errW_some] <;> rfl) | (simp [*, errW_none, errW_some] <;> rfl), by repeat (first | (with_reducible first | exact HB.out | apply below_alloc | apply pw_below_drewN | apply below_drew1) | exact HB.out)⟩
      · replace c8 := Bool.eq_false_iff.mpr c8
        subst c8
        have H1 : ((lots_Calls.f kj3 a0 a1).bind fun t116 => ((lockgateref28_Calls.f kj3 a0 a1).bind fun t119 => (if (t116.length : Int) = (t119.length : Int) then ((lots_New.f a0).bind fun t122 => (lockgatelaw31_LotsCalls.l0 kj3 t116 t119 0 t122)) else (some false)))) = some r := by rw [if_neg (show ¬ (false = true) by decide)] at H; exact H
        clear H
        have H := H1
        clear H1
        replace H := Option.bind_eq_some_iff.mp H
        obtain ⟨t116, A90, H⟩ := H
        replace H : ((lockgateref28_Calls.f kj3 a0 a1).bind fun t119 => (if (t116.length : Int) = (t119.length : Int) then ((lots_New.f a0).bind fun t122 => (lockgatelaw31_LotsCalls.l0 kj3 t116 t119 0 t122)) else (some false))) = some r := H
        have A9 := Aside0.mk A90
        clear A90
        replace H := Option.bind_eq_some_iff.mp H
        obtain ⟨t119, A100, H⟩ := H
        replace H : (if (t116.length : Int) = (t119.length : Int) then ((lots_New.f a0).bind fun t122 => (lockgatelaw31_LotsCalls.l0 kj3 t116 t119 0 t122)) else (some false)) = some r := H
        have A10 := Aside0.mk A100
        clear A100
        by_cases c11 : (t116.length : Int) = (t119.length : Int)
        · rw [if_pos c11] at H
          have c11b0 : ((t116.length : Int) == (t119.length : Int)) = true := beq_iff_eq.mpr c11
          have c11b1 : ((t116.length : Int) != (t119.length : Int)) = false := bne_eq_false_iff_eq.mpr c11
          have c11b2 : (t116.length == t119.length) = true := by first | simpa using c11 | (simp at c11 ⊢; omega)
          clear c11
          replace H := Option.bind_eq_some_iff.mp H
          obtain ⟨t122, A120, H⟩ := H
          replace H : (lockgatelaw31_LotsCalls.l0 kj3 t116 t119 0 t122) = some r := H
          have A12 := Aside0.mk A120
          clear A120
          have H' := Aside0.mk H
          clear H
          go_wp2_with (first | ((with_reducible refine gate_callee (f := 12) rfl ?_); refine goesL_ (some 24) rfl rfl Try.func12 (by kernel_rfl) rfl #[.int .i64 a0, .int .i64 a1] rfl (by (try simp only [List.map_toArray, List.map_cons, List.map_nil]); first | done | rfl | (simp only [List.length_drop, List.length_take]; rfl)) ?_; (with_reducible refine (lots_Calls.calls kj3 a0 a1 t116 _ A9.out).mono ?_); rintro e w13 ⟨v117, rfl, ho0, hb⟩; refine ⟨_, rfl, ?_⟩; have n0_ := Aside0.mk (Kd.S_lower ho0 (below_size (by repeat (first | (with_reducible first | exact HB.out | apply below_alloc | apply pw_below_drewN | apply below_drew1) | exact HB.out)))); have n1_ := Aside0.mk (below_step (by repeat (first | (with_reducible first | exact HB.out | apply below_alloc | apply pw_below_drewN | apply below_drew1) | exact HB.out)) hb); clear HB; have HO118 := n0_; have HB := n1_; clear n0_ n1_; (try clear hb); (try clear hb2); (try clear hk); (try clear hi); (try clear ho0)) | ((with_reducible refine gate_callee (f := 13) rfl ?_); refine goesL_ (some 27) rfl rfl Try.func13 (by kernel_rfl) rfl #[.int .i64 a0, .int .i64 a1] rfl (by (try simp only [List.map_toArray, List.map_cons, List.map_nil]); first | done | rfl | (simp only [List.length_drop, List.length_take]; rfl)) ?_; (with_reducible refine (lockgateref28_Calls.calls kj3 a0 a1 t119 _ A10.out).mono ?_); rintro e w14 ⟨v120, rfl, ho0, hb⟩; refine ⟨_, rfl, ?_⟩; have n0_ := Aside0.mk (Kd.S_elder' (by (with_reducible repeat (first | apply Kd.S_alloc | apply Kd.S_drewN | apply Kd.S_drew)); exact HO118.out) (Kd.S_base ho0) hb); have n1_ := Aside0.mk (Kd.S_lower (Kd.S_new' ho0 (Kd.S_lt (by (with_reducible repeat (first | apply Kd.S_alloc | apply Kd.S_drewN | apply Kd.S_drew)); exact HO118.out))) (below_size (by repeat (first | (with_reducible first | exact HB.out | apply below_alloc | apply pw_below_drewN | apply below_drew1) | exact HB.out)))); have n2_ := Aside0.mk (below_step (by repeat (first | (with_reducible first | exact HB.out | apply below_alloc | apply pw_below_drewN | apply below_drew1) | exact HB.out)) hb); clear HO118; clear HB; have HO118 := n0_; have HO121 := n1_; have HB := n2_; clear n0_ n1_ n2_; (try clear hb); (try clear hb2); (try clear hk); (try clear hi); (try clear ho0); obtain ⟨Ao15, co15, eo15⟩ := Kd.S_slice HO118.out; subst eo15; obtain ⟨Ao16, co16, eo16⟩ := Kd.S_slice HO121.out; subst eo16) | ((with_reducible refine gate_callee (f := 8) rfl ?_); refine goesL_ (some 34) rfl rfl Try.func8 (by kernel_rfl) rfl #[.int .i64 a0] rfl (by (try simp only [List.map_toArray, List.map_cons, List.map_nil]); first | done | rfl | (simp only [List.length_drop, List.length_take]; rfl)) ?_; (with_reducible refine (lots_New.calls a0 t122 w _ ?side1 A12.out).mono ?_); (case side1 => repeat (first | (with_reducible first | exact HB.out | apply below_alloc | apply pw_below_drewN | apply below_drew1) | exact HB.out)); rintro e w17 ⟨g123, rfl, hi, hb, hb2⟩; refine ⟨_, rfl, ?_⟩; have n0_ := Aside0.mk (Kd.S_below (by (with_reducible repeat (first | apply Kd.S_alloc | apply Kd.S_drewN | apply Kd.S_drew)); exact HO118.out) hb2); have n1_ := Aside0.mk (Kd.S_below (by (with_reducible repeat (first | apply Kd.S_alloc | apply Kd.S_drewN | apply Kd.S_drew)); exact HO121.out) hb2); have n2_ := Aside0.mk (hb); have n3_ := Aside0.mk (hi); clear HO118; clear HO121; clear HB; have HO118 := n0_; have HO121 := n1_; have HB := n2_; have HI123 := n3_; clear n0_ n1_ n2_ n3_; (try clear hb); (try clear hb2); (try clear hk); (try clear hi)))
          go_loopg [9] kj3 (fun kq v9 w' => ∃ (x9_2 : Int) (x124000_2 : Int), v9 = .int .i64 x9_2 ∧ Aside0 (lockgatelaw31_LotsCalls.l0 kq t116 t119 x9_2 x124000_2 = some r) ∧ Aside0 (kq ≤ kj3) ∧ Aside0 (Kd.S k35 35 w' w.heap.size (fun k_ => some k_ ≠ ((.slice Ao16 t119.length co16) : Value).ownBlock) (.slice Ao15 t116.length co15) t116) ∧ Aside0 (Kd.S k35 35 w' w.heap.size (fun k_ => some k_ ≠ ((.slice Ao15 t116.length co15) : Value).ownBlock) (.slice Ao16 t119.length co16) t119) ∧ Aside0 (IsS44 w w' g123 x124000_2) ∧ Aside0 (Below w.heap.size w w'))
          case atStart => exact ⟨(0), (t122), (by first | rfl | (simp; done) | (simp [*]; done)), H', ⟨Nat.le_refl _⟩, ⟨by (with_reducible repeat (first | apply Kd.S_alloc | apply Kd.S_drewN | apply Kd.S_drew)); exact Kd.S_mono HO118.out (fun _ hk => hk.2)⟩, ⟨by (with_reducible repeat (first | apply Kd.S_alloc | apply Kd.S_drewN | apply Kd.S_drew)); exact Kd.S_mono HO121.out (fun _ hk => hk.2)⟩, ⟨by repeat (first | (with_reducible first | exact HI123.out | apply IsS44.alloc | apply IsS44.drewN | apply IsS44.drew | apply IsS44.set_0) | exact HI123.out)⟩, ⟨by repeat (first | (with_reducible first | exact HB.out | apply below_alloc | apply pw_below_drewN | apply below_drew1 | refine below_set ?_ (IsS44.ge HI123.out)) | exact HB.out)⟩⟩
          case round =>
            clear H'
            try clear c1
            try clear p2
            try clear c4
            try clear c6
            try clear c7
            try clear c7b0
            try clear c8
            try clear c11
            try clear c11b0
            try clear c11b1
            try clear c11b2
            try clear c12
            try clear c13
            try clear p2
            obtain ⟨x9_2, x124000_2, rfl, HA, HK2, HO_6, HO_7, HI123, HB⟩ := hrel
            cases gk with
            | zero => exact absurd HA.out (by simp [lockgatelaw31_LotsCalls.l0])
            | succ k2 =>
              have H := HA.out
              clear HA
              simp only [lockgatelaw31_LotsCalls.l0] at H
              by_cases c18 : x9_2 < (t116.length : Int)
              · rw [if_pos c18] at H
                have c18b0 : decide (x9_2 < (t116.length : Int)) = true := decide_eq_true c18
                clear c18
                by_cases c19 : 0 ≤ x9_2
                · rw [if_pos c19] at H
                  have c19b0 : decide (0 ≤ x9_2) = true := decide_eq_true c19
                  clear c19
                  by_cases c20 : x9_2 < (t119.length : Int)
                  · rw [if_pos c20] at H
                    have c20b0 : decide (x9_2 < (t119.length : Int)) = true := decide_eq_true c20
                    clear c20
                    replace H := Option.bind_eq_some_iff.mp H
                    obtain ⟨t126, A210, H⟩ := H
                    replace H : (if t126 = true then (if x9_2 < 50 then ((lots_Lot_Call.f x124000_2).bind fun bt127 => ((lockgateref28_SameCall.f bt127.1 bt127.2.1 bt127.2.2.1 bt127.2.2.2.1 bt127.2.2.2.2.1 bt127.2.2.2.2.2.1 ((rd_T35 t119 x9_2).f0) ((rd_T35 t119 x9_2).f1) ((rd_T35 t119 x9_2).f2) ((rd_T35 t119 x9_2).f3) ((rd_T35 t119 x9_2).f4) ((rd_T35 t119 x9_2).f5)).bind fun t137 => (if t137 = true then (lockgatelaw31_LotsCalls.l0 k2 t116 t119 (wrap64 (x9_2 + 1)) bt127.2.2.2.2.2.2) else (some false)))) else (lockgatelaw31_LotsCalls.l0 k2 t116 t119 (wrap64 (x9_2 + 1)) x124000_2)) else (some false)) = some r := H
                    have A21 := Aside0.mk A210
                    clear A210
                    by_cases c22 : t126 = true
                    · subst c22
                      have H1 : (if x9_2 < 50 then ((lots_Lot_Call.f x124000_2).bind fun bt127 => ((lockgateref28_SameCall.f bt127.1 bt127.2.1 bt127.2.2.1 bt127.2.2.2.1 bt127.2.2.2.2.1 bt127.2.2.2.2.2.1 ((rd_T35 t119 x9_2).f0) ((rd_T35 t119 x9_2).f1) ((rd_T35 t119 x9_2).f2) ((rd_T35 t119 x9_2).f3) ((rd_T35 t119 x9_2).f4) ((rd_T35 t119 x9_2).f5)).bind fun t137 => (if t137 = true then (lockgatelaw31_LotsCalls.l0 k2 t116 t119 (wrap64 (x9_2 + 1)) bt127.2.2.2.2.2.2) else (some false)))) else (lockgatelaw31_LotsCalls.l0 k2 t116 t119 (wrap64 (x9_2 + 1)) x124000_2)) = some r := by rw [if_pos rfl] at H; exact H
                      clear H
                      have H := H1
                      clear H1
                      by_cases c23 : x9_2 < 50
                      · rw [if_pos c23] at H
                        have c23b0 : decide (x9_2 < 50) = true := decide_eq_true c23
                        clear c23
                        replace H := Option.bind_eq_some_iff.mp H
                        obtain ⟨⟨t127, t128, t129, t130, t131, t132, t135⟩, A240, H⟩ := H
                        replace H : ((lockgateref28_SameCall.f t127 t128 t129 t130 t131 t132 ((rd_T35 t119 x9_2).f0) ((rd_T35 t119 x9_2).f1) ((rd_T35 t119 x9_2).f2) ((rd_T35 t119 x9_2).f3) ((rd_T35 t119 x9_2).f4) ((rd_T35 t119 x9_2).f5)).bind fun t137 => (if t137 = true then (lockgatelaw31_LotsCalls.l0 k2 t116 t119 (wrap64 (x9_2 + 1)) t135) else (some false))) = some r := H
                        have A24 := Aside0.mk A240
                        clear A240
                        replace H := Option.bind_eq_some_iff.mp H
                        obtain ⟨t137, A250, H⟩ := H
                        replace H : (if t137 = true then (lockgatelaw31_LotsCalls.l0 k2 t116 t119 (wrap64 (x9_2 + 1)) t135) else (some false)) = some r := H
                        have A25 := Aside0.mk A250
                        clear A250
                        by_cases c26 : t137 = true
                        · subst c26
                          have H1 : (lockgatelaw31_LotsCalls.l0 k2 t116 t119 (wrap64 (x9_2 + 1)) t135) = some r := by rw [if_pos rfl] at H; exact H
                          clear H
                          have H := H1
                          clear H1
                          have H' := Aside0.mk H
                          clear H
                          try go_wp2
                          have n0_ := Aside0.mk (Kd.S_drew HO_6.out)
                          have n1_ := Aside0.mk (Kd.S_drew HO_7.out)
                          have n2_ := Aside0.mk (IsS44.drew HI123.out)
                          have n3_ := Aside0.mk (below_drew1 HB.out)
                          clear HO_6
                          clear HO_7
                          clear HI123
                          clear HB
                          have HO_6 := n0_
                          have HO_7 := n1_
                          have HI123 := n2_
                          have HB := n3_
                          clear n0_ n1_ n2_ n3_
                          have p124 : 0 ≤ (x9_2 : Int) := of_decide_eq_true (by first | (with_reducible assumption) | assumption)
                          have q124 : x9_2 < (t116.length : Int) := of_decide_eq_true (by first | (with_reducible assumption) | assumption)
                          obtain ⟨ad124, A124_5, c124_5, e124, hx124_0, hx124_1, hx124_2, hx124_3, hx124_4, hx124_5, hl124_5, hi124_5⟩ := at_T35 (Kd.S_reads' HO_6.out).2.2 x9_2 p124 q124
                          cases e124
                          obtain ⟨ce124, hce124, hMe124, hcc124⟩ := Kd.S_get HO_6.out z35 x9_2 p124 (by first | exact q124 | exact of_decide_eq_true (by first | (with_reducible assumption) | assumption) | (have e_ := (Kd.S_reads' HO_6.out).1; omega))
                          obtain ⟨ve124_5, rfl, ge124_5⟩ := k35_openM hMe124
                          have hv124_5 := hcc124 5 _ rfl
                          rw [add_field _ _ 5 (by omega)] at hv124_5
                          replace hv124_5 := Option.some.inj (hv124_5.symm.trans hx124_5)
                          rw [hv124_5] at ge124_5
                          have HL124_5 := Aside0.mk (show Kd.R (Kd.int .u8) 5 _ _ _ _ ((rd_T35 t116 x9_2).f5) from ge124_5)
                          clear hv124_5 ge124_5
                          clear hcc124 hce124
                          have HR124_5 := Aside0.mk hi124_5
                          have HC124_5 := Aside0.mk hl124_5
                          clear hi124_5 hl124_5
                          replace p124 := eq_true p124
                          replace q124 := eq_true q124
                          have p125 : 0 ≤ (x9_2 : Int) := of_decide_eq_true (by first | (with_reducible assumption) | assumption)
                          have q125 : x9_2 < (t119.length : Int) := of_decide_eq_true (by first | (with_reducible assumption) | assumption)
                          obtain ⟨ad125, A125_5, c125_5, e125, hx125_0, hx125_1, hx125_2, hx125_3, hx125_4, hx125_5, hl125_5, hi125_5⟩ := at_T35 (Kd.S_reads' HO_7.out).2.2 x9_2 p125 q125
                          cases e125
                          obtain ⟨ce125, hce125, hMe125, hcc125⟩ := Kd.S_get HO_7.out z35 x9_2 p125 (by first | exact q125 | exact of_decide_eq_true (by first | (with_reducible assumption) | assumption) | (have e_ := (Kd.S_reads' HO_7.out).1; omega))
                          obtain ⟨ve125_5, rfl, ge125_5⟩ := k35_openM hMe125
                          have hv125_5 := hcc125 5 _ rfl
                          rw [add_field _ _ 5 (by omega)] at hv125_5
                          replace hv125_5 := Option.some.inj (hv125_5.symm.trans hx125_5)
                          rw [hv125_5] at ge125_5
                          have HL125_5 := Aside0.mk (show Kd.R (Kd.int .u8) 5 _ _ _ _ ((rd_T35 t119 x9_2).f5) from ge125_5)
                          clear hv125_5 ge125_5
                          clear hcc125 hce125
                          have HR125_5 := Aside0.mk hi125_5
                          have HC125_5 := Aside0.mk hl125_5
                          clear hi125_5 hl125_5
                          replace p125 := eq_true p125
                          replace q125 := eq_true q125
                          have p136 : 0 ≤ (x9_2 : Int) := of_decide_eq_true (by first | (with_reducible assumption) | assumption)
                          have q136 : x9_2 < (t119.length : Int) := of_decide_eq_true (by first | (with_reducible assumption) | assumption)
                          obtain ⟨ad136, A136_5, c136_5, e136, hx136_0, hx136_1, hx136_2, hx136_3, hx136_4, hx136_5, hl136_5, hi136_5⟩ := at_T35 (Kd.S_reads' HO_7.out).2.2 x9_2 p136 q136
                          obtain rfl : ad125 = ad136 := (by injection e136)
                          obtain ⟨rfl, rfl⟩ : A125_5 = A136_5 ∧ c125_5 = c136_5 := by have hq := Option.some.inj (hx125_5.symm.trans hx136_5); injection hq with h1 h2 h3; exact ⟨h1, h3⟩
                          obtain ⟨ce136, hce136, hMe136, hcc136⟩ := Kd.S_get HO_7.out z35 x9_2 p136 (by first | exact q136 | exact of_decide_eq_true (by first | (with_reducible assumption) | assumption) | (have e_ := (Kd.S_reads' HO_7.out).1; omega))
                          obtain ⟨ve136_5, rfl, ge136_5⟩ := k35_openM hMe136
                          have hv136_5 := hcc136 5 _ rfl
                          rw [add_field _ _ 5 (by omega)] at hv136_5
                          replace hv136_5 := Option.some.inj (hv136_5.symm.trans hx136_5)
                          rw [hv136_5] at ge136_5
                          have HL136_5 := Aside0.mk (show Kd.R (Kd.int .u8) 5 _ _ _ _ ((rd_T35 t119 x9_2).f5) from ge136_5)
                          clear hv136_5 ge136_5
                          clear hcc136 hce136
                          have HR136_5 := Aside0.mk hi136_5
                          have HC136_5 := Aside0.mk hl136_5
                          clear hi136_5 hl136_5
                          replace p136 := eq_true p136
                          replace q136 := eq_true q136
                          refine start_ (n := 24) (S := fun w' => w'.cell? (ad124.add ((x9_2).toNat * 6)) = some (.int .i64 ((rd_T35 t116 x9_2).f0)) ∧ w'.cell? ⟨(ad124.add ((x9_2).toNat * 6)).block, (ad124.add ((x9_2).toNat * 6)).off + 1, none⟩ = some (.string ((rd_T35 t116 x9_2).f1)) ∧ w'.cell? ⟨(ad124.add ((x9_2).toNat * 6)).block, (ad124.add ((x9_2).toNat * 6)).off + 2, none⟩ = some (.string ((rd_T35 t116 x9_2).f2)) ∧ w'.cell? ⟨(ad124.add ((x9_2).toNat * 6)).block, (ad124.add ((x9_2).toNat * 6)).off + 3, none⟩ = some (.int .i64 ((rd_T35 t116 x9_2).f3)) ∧ w'.cell? ⟨(ad124.add ((x9_2).toNat * 6)).block, (ad124.add ((x9_2).toNat * 6)).off + 4, none⟩ = some (.int .i64 ((rd_T35 t116 x9_2).f4)) ∧ w'.cell? ⟨(ad124.add ((x9_2).toNat * 6)).block, (ad124.add ((x9_2).toNat * 6)).off + 5, none⟩ = some (.slice A124_5 ((rd_T35 t116 x9_2).f5).length c124_5) ∧ w'.cell? (ad125.add ((x9_2).toNat * 6)) = some (.int .i64 ((rd_T35 t119 x9_2).f0)) ∧ w'.cell? ⟨(ad125.add ((x9_2).toNat * 6)).block, (ad125.add ((x9_2).toNat * 6)).off + 1, none⟩ = some (.string ((rd_T35 t119 x9_2).f1)) ∧ w'.cell? ⟨(ad125.add ((x9_2).toNat * 6)).block, (ad125.add ((x9_2).toNat * 6)).off + 2, none⟩ = some (.string ((rd_T35 t119 x9_2).f2)) ∧ w'.cell? ⟨(ad125.add ((x9_2).toNat * 6)).block, (ad125.add ((x9_2).toNat * 6)).off + 3, none⟩ = some (.int .i64 ((rd_T35 t119 x9_2).f3)) ∧ w'.cell? ⟨(ad125.add ((x9_2).toNat * 6)).block, (ad125.add ((x9_2).toNat * 6)).off + 4, none⟩ = some (.int .i64 ((rd_T35 t119 x9_2).f4)) ∧ w'.cell? ⟨(ad125.add ((x9_2).toNat * 6)).block, (ad125.add ((x9_2).toNat * 6)).off + 5, none⟩ = some (.slice A125_5 ((rd_T35 t119 x9_2).f5).length c125_5) ∧ w'.cell? (ad125.add ((x9_2).toNat * 6)) = some (.int .i64 ((rd_T35 t119 x9_2).f0)) ∧ w'.cell? ⟨(ad125.add ((x9_2).toNat * 6)).block, (ad125.add ((x9_2).toNat * 6)).off + 1, none⟩ = some (.string ((rd_T35 t119 x9_2).f1)) ∧ w'.cell? ⟨(ad125.add ((x9_2).toNat * 6)).block, (ad125.add ((x9_2).toNat * 6)).off + 2, none⟩ = some (.string ((rd_T35 t119 x9_2).f2)) ∧ w'.cell? ⟨(ad125.add ((x9_2).toNat * 6)).block, (ad125.add ((x9_2).toNat * 6)).off + 3, none⟩ = some (.int .i64 ((rd_T35 t119 x9_2).f3)) ∧ w'.cell? ⟨(ad125.add ((x9_2).toNat * 6)).block, (ad125.add ((x9_2).toNat * 6)).off + 4, none⟩ = some (.int .i64 ((rd_T35 t119 x9_2).f4)) ∧ w'.cell? ⟨(ad125.add ((x9_2).toNat * 6)).block, (ad125.add ((x9_2).toNat * 6)).off + 5, none⟩ = some (.slice A125_5 ((rd_T35 t119 x9_2).f5).length c125_5)) (ds := []) #[false, false, false, false, false, false, false, false, false, false, false, false, false, false, false, false, false, false, false, false, false, false, false, false] (by kernel_rfl) rfl rfl ⟨hx124_0, hx124_1, hx124_2, hx124_3, hx124_4, hx124_5, hx125_0, hx125_1, hx125_2, hx125_3, hx125_4, hx125_5, hx136_0, hx136_1, hx136_2, hx136_3, hx136_4, hx136_5⟩ (fun hHeld => ?_); refine with_tabW lockgatelaw31_LotsCalls.tab12 lockgatelaw31_LotsCalls.bits12 (fun HT_ HW_ => ?_)
                          generalize wr.drew = w27 at HO_6 HO_7 HI123 HB HL124_5 HL125_5 HL136_5 HR124_5 HR125_5 HR136_5 hx124_0 hx124_1 hx124_2 hx124_3 hx124_4 hx124_5 hx125_0 hx125_1 hx125_2 hx125_3 hx125_4 hx125_5 hx136_0 hx136_1 hx136_2 hx136_3 hx136_4 hx136_5 hHeld ⊢
                          refine pure_ (i := 0) (N := some 41) (v := ?_) (a' := ?_) #[true, false, false, false, false, false, false, false, false, false, false, false, false, false, false, false, false, false, false, false, false, false, false, false] rfl rfl (any_of HT_.out (by kernel_rfl)) (fun _ _ _ h => h) (Or.inl ⟨by rfl, ?_⟩) ?_ ?_
                          rotate_left
                          · intro w'
                            go_simp
                            with_reducible rfl
                          rotate_left
                          · simp only [Act.put, List.setIfInBounds_toArray, List.set_cons_zero, List.set_cons_succ, i64_w, i32_w]
                            rfl
                          refine pure_ (i := 1) (N := some 42) (v := ?_) (a' := ?_) #[true, true, false, false, false, false, false, false, false, false, false, false, false, false, false, false, false, false, false, false, false, false, false, false] rfl rfl (any_of HT_.out (by kernel_rfl)) (fun _ _ _ h => h) (Or.inl ⟨by rfl, ?_⟩) ?_ ?_
                          rotate_left
                          · intro w'
                            go_simp
                            with_reducible rfl
                          rotate_left
                          · simp only [Act.put, List.setIfInBounds_toArray, List.set_cons_zero, List.set_cons_succ, i64_w, i32_w]
                            rfl
                          refine pure_ (i := 2) (N := some 43) (v := ?_) (a' := ?_) #[true, true, true, false, false, false, false, false, false, false, false, false, false, false, false, false, false, false, false, false, false, false, false, false] rfl rfl (any_of HT_.out (by kernel_rfl)) (fun _ _ _ h => h) (Or.inl ⟨by rfl, ?_⟩) ?_ ?_
                          rotate_left
                          · intro w'
                            go_simp
                            with_reducible rfl
                          rotate_left
                          · simp only [Act.put, List.setIfInBounds_toArray, List.set_cons_zero, List.set_cons_succ, i64_w, i32_w]
                            rfl
                          refine pure_ (i := 4) (N := some 45) (v := ?_) (a' := ?_) #[true, true, true, false, true, false, false, false, false, false, false, false, false, false, false, false, false, false, false, false, false, false, false, false] rfl rfl (any_of HT_.out (by kernel_rfl)) (fun _ _ _ h => h) (Or.inl ⟨by rfl, ?_⟩) ?_ ?_
                          rotate_left
                          · intro w'
                            go_simp
                            with_reducible rfl
                          rotate_left
                          · simp only [Act.put, List.setIfInBounds_toArray, List.set_cons_zero, List.set_cons_succ, i64_w, i32_w]
                            rfl
                          refine pure_ (i := 5) (N := some 46) (v := ?_) (a' := ?_) #[true, true, true, false, true, true, false, false, false, false, false, false, false, false, false, false, false, false, false, false, false, false, false, false] rfl rfl (any_of HT_.out (by kernel_rfl)) (fun _ _ _ h => h) (Or.inl ⟨by rfl, ?_⟩) ?_ ?_
                          rotate_left
                          · intro w'
                            go_simp
                            with_reducible rfl
                          rotate_left
                          · simp only [Act.put, List.setIfInBounds_toArray, List.set_cons_zero, List.set_cons_succ, i64_w, i32_w]
                            rfl
                          refine pure_ (i := 6) (N := some 47) (v := ?_) (a' := ?_) #[true, true, true, false, true, true, true, false, false, false, false, false, false, false, false, false, false, false, false, false, false, false, false, false] rfl rfl (any_of HT_.out (by kernel_rfl)) (fun _ _ _ h => h) (Or.inl ⟨by rfl, ?_⟩) ?_ ?_
                          rotate_left
                          · intro w'
                            go_simp
                            with_reducible rfl
                          rotate_left
                          · simp only [Act.put, List.setIfInBounds_toArray, List.set_cons_zero, List.set_cons_succ, i64_w, i32_w]
                            rfl
                          refine take_ (i := 3) (N := some 44) (v := ?_) (a' := ?_) #[true, true, true, true, true, true, true, false, false, false, false, false, false, false, false, false, false, false, false, false, false, false, false, false] rfl rfl (take_ofW HT_.out HW_.out (by kernel_rfl)) (fun _ _ _ h => h) (Or.inl ⟨by rfl, ?_⟩) hHeld ?_ ?_
                          rotate_left
                          · rintro w' ⟨s0, s1, s2, s3, s4, s5, s6, s7, s8, s9, s10, s11, s12, s13, s14, s15, s16, s17⟩
                            go_simp
                            with_reducible rfl
                          rotate_left
                          · simp only [Act.put, List.setIfInBounds_toArray, List.set_cons_zero, List.set_cons_succ, i64_w, i32_w]
                            rfl
                          refine take_ (i := 7) (N := some 48) (v := ?_) (a' := ?_) #[true, true, true, true, true, true, true, true, false, false, false, false, false, false, false, false, false, false, false, false, false, false, false, false] rfl rfl (take_ofW HT_.out HW_.out (by kernel_rfl)) (fun _ _ _ h => h) (Or.inl ⟨by rfl, ?_⟩) hHeld ?_ ?_
                          rotate_left
                          · rintro w' ⟨s0, s1, s2, s3, s4, s5, s6, s7, s8, s9, s10, s11, s12, s13, s14, s15, s16, s17⟩
                            go_simp
                            with_reducible rfl
                          rotate_left
                          · simp only [Act.put, List.setIfInBounds_toArray, List.set_cons_zero, List.set_cons_succ, i64_w, i32_w]
                            rfl
                          refine one_ (i := 8) (N := some 49) #[true, true, true, true, true, true, true, true, true, false, false, false, false, false, false, false, false, false, false, false, false, false, false, false] rfl rfl (one_of HT_.out (by kernel_rfl)) (by decide) (fun K hK => ?_)
                          refine goes_ Try.func14 (by kernel_rfl) rfl #[.agg #[.int .i64 ((rd_T35 t116 x9_2).f0), .string ((rd_T35 t116 x9_2).f1), .string ((rd_T35 t116 x9_2).f2), .int .i64 ((rd_T35 t116 x9_2).f3), .int .i64 ((rd_T35 t116 x9_2).f4), .slice A124_5 ((rd_T35 t116 x9_2).f5).length c124_5], .agg #[.int .i64 ((rd_T35 t119 x9_2).f0), .string ((rd_T35 t119 x9_2).f1), .string ((rd_T35 t119 x9_2).f2), .int .i64 ((rd_T35 t119 x9_2).f3), .int .i64 ((rd_T35 t119 x9_2).f4), .slice A125_5 ((rd_T35 t119 x9_2).f5).length c125_5]] (by rfl) rfl rfl (by (try simp only [List.map_toArray, List.map_cons, List.map_nil]); first | done | rfl | (simp only [List.length_drop, List.length_take]; rfl)) ?_
                          with_reducible refine (lockgateref28_SameCall.calls ((rd_T35 t116 x9_2).f0) ((rd_T35 t116 x9_2).f1) ((rd_T35 t116 x9_2).f2) ((rd_T35 t116 x9_2).f3) ((rd_T35 t116 x9_2).f4) _ _ ((rd_T35 t116 x9_2).f5) ((rd_T35 t119 x9_2).f0) ((rd_T35 t119 x9_2).f1) ((rd_T35 t119 x9_2).f2) ((rd_T35 t119 x9_2).f3) ((rd_T35 t119 x9_2).f4) _ _ ((rd_T35 t119 x9_2).f5) true _ ?side1 ?side2 ?side3 ?side4 A21.out).mono ?_
                          (case side1 => repeat (first | exact (by repeat (first | (with_reducible exact HR124_5.out) | (with_reducible refine Kd.C_alloc ?_ _) | (with_reducible refine Kd.C_drewN ?_ _) | (with_reducible refine Kd.C_drew ?_) | exact HR124_5.out)) | (with_reducible refine Kd.C_alloc ?_ _) | (with_reducible refine Kd.C_drewN ?_ _) | (with_reducible refine Kd.C_drew ?_)))
                          (case side2 => exact HC124_5.out)
                          (case side3 => repeat (first | exact (by repeat (first | (with_reducible exact HR125_5.out) | (with_reducible refine Kd.C_alloc ?_ _) | (with_reducible refine Kd.C_drewN ?_ _) | (with_reducible refine Kd.C_drew ?_) | exact HR125_5.out)) | (with_reducible refine Kd.C_alloc ?_ _) | (with_reducible refine Kd.C_drewN ?_ _) | (with_reducible refine Kd.C_drew ?_)))
                          (case side4 => exact HC125_5.out)
                          rintro e w28 ⟨rfl, hb⟩
                          have HS0_ := (hb.cell (World.block_lt_of_cell? _ _ (hHeld.1))).trans (hHeld.1)
                          have HS1_ := (hb.cell (World.block_lt_of_cell? _ _ (hHeld.2.1))).trans (hHeld.2.1)
                          have HS2_ := (hb.cell (World.block_lt_of_cell? _ _ (hHeld.2.2.1))).trans (hHeld.2.2.1)
                          have HS3_ := (hb.cell (World.block_lt_of_cell? _ _ (hHeld.2.2.2.1))).trans (hHeld.2.2.2.1)
                          have HS4_ := (hb.cell (World.block_lt_of_cell? _ _ (hHeld.2.2.2.2.1))).trans (hHeld.2.2.2.2.1)
                          have HS5_ := (hb.cell (World.block_lt_of_cell? _ _ (hHeld.2.2.2.2.2.1))).trans (hHeld.2.2.2.2.2.1)
                          have HS6_ := (hb.cell (World.block_lt_of_cell? _ _ (hHeld.2.2.2.2.2.2.1))).trans (hHeld.2.2.2.2.2.2.1)
                          have HS7_ := (hb.cell (World.block_lt_of_cell? _ _ (hHeld.2.2.2.2.2.2.2.1))).trans (hHeld.2.2.2.2.2.2.2.1)
                          have HS8_ := (hb.cell (World.block_lt_of_cell? _ _ (hHeld.2.2.2.2.2.2.2.2.1))).trans (hHeld.2.2.2.2.2.2.2.2.1)
                          have HS9_ := (hb.cell (World.block_lt_of_cell? _ _ (hHeld.2.2.2.2.2.2.2.2.2.1))).trans (hHeld.2.2.2.2.2.2.2.2.2.1)
                          have HS10_ := (hb.cell (World.block_lt_of_cell? _ _ (hHeld.2.2.2.2.2.2.2.2.2.2.1))).trans (hHeld.2.2.2.2.2.2.2.2.2.2.1)
                          have HS11_ := (hb.cell (World.block_lt_of_cell? _ _ (hHeld.2.2.2.2.2.2.2.2.2.2.2.1))).trans (hHeld.2.2.2.2.2.2.2.2.2.2.2.1)
                          have HS12_ := (hb.cell (World.block_lt_of_cell? _ _ (hHeld.2.2.2.2.2.2.2.2.2.2.2.2.1))).trans (hHeld.2.2.2.2.2.2.2.2.2.2.2.2.1)
                          have HS13_ := (hb.cell (World.block_lt_of_cell? _ _ (hHeld.2.2.2.2.2.2.2.2.2.2.2.2.2.1))).trans (hHeld.2.2.2.2.2.2.2.2.2.2.2.2.2.1)
                          have HS14_ := (hb.cell (World.block_lt_of_cell? _ _ (hHeld.2.2.2.2.2.2.2.2.2.2.2.2.2.2.1))).trans (hHeld.2.2.2.2.2.2.2.2.2.2.2.2.2.2.1)
                          have HS15_ := (hb.cell (World.block_lt_of_cell? _ _ (hHeld.2.2.2.2.2.2.2.2.2.2.2.2.2.2.2.1))).trans (hHeld.2.2.2.2.2.2.2.2.2.2.2.2.2.2.2.1)
                          have HS16_ := (hb.cell (World.block_lt_of_cell? _ _ (hHeld.2.2.2.2.2.2.2.2.2.2.2.2.2.2.2.2.1))).trans (hHeld.2.2.2.2.2.2.2.2.2.2.2.2.2.2.2.2.1)
                          have HS17_ := (hb.cell (World.block_lt_of_cell? _ _ (hHeld.2.2.2.2.2.2.2.2.2.2.2.2.2.2.2.2.2))).trans (hHeld.2.2.2.2.2.2.2.2.2.2.2.2.2.2.2.2.2)
                          refine ⟨_, rfl, ?_⟩
                          have n0_ := Aside0.mk (Kd.S_below (by (with_reducible repeat (first | apply Kd.S_alloc | apply Kd.S_drewN | apply Kd.S_drew)); exact HO_6.out) hb)
                          have n1_ := Aside0.mk (Kd.S_below (by (with_reducible repeat (first | apply Kd.S_alloc | apply Kd.S_drewN | apply Kd.S_drew)); exact HO_7.out) hb)
                          have n2_ := Aside0.mk (Kd.R_below (by (with_reducible repeat (first | apply Kd.R_alloc | apply Kd.R_drewN | apply Kd.R_drew)); exact HL124_5.out) hb)
                          have n3_ := Aside0.mk (Kd.R_below (by (with_reducible repeat (first | apply Kd.R_alloc | apply Kd.R_drewN | apply Kd.R_drew)); exact HL125_5.out) hb)
                          have n4_ := Aside0.mk (IsS44.below (by repeat (first | (with_reducible first | exact HI123.out | apply IsS44.alloc | apply IsS44.drewN | apply IsS44.drew | apply IsS44.set_0) | exact HI123.out)) hb)
                          have n5_ := Aside0.mk (Kd.C_below (by repeat (first | (with_reducible exact HR124_5.out) | (with_reducible refine Kd.C_alloc ?_ _) | (with_reducible refine Kd.C_drewN ?_ _) | (with_reducible refine Kd.C_drew ?_) | exact HR124_5.out)) hb)
                          have n6_ := Aside0.mk (Kd.C_below (by repeat (first | (with_reducible exact HR125_5.out) | (with_reducible refine Kd.C_alloc ?_ _) | (with_reducible refine Kd.C_drewN ?_ _) | (with_reducible refine Kd.C_drew ?_) | exact HR125_5.out)) hb)
                          have n7_ := Aside0.mk (below_step (by repeat (first | (with_reducible first | exact HB.out | apply below_alloc | apply pw_below_drewN | apply below_drew1 | refine below_set ?_ (IsS44.ge HI123.out)) | exact HB.out)) hb)
                          clear HO_6
                          clear HO_7
                          clear HL124_5
                          clear HL125_5
                          clear HI123
                          clear HR124_5
                          clear HR125_5
                          clear HB
                          have HO_6 := n0_
                          have HO_7 := n1_
                          have HL124_5 := n2_
                          have HL125_5 := n3_
                          have HL136_5 := HL125_5
                          have HR136_5 := Aside0.mk (Kd.R_reads' HL136_5.out).2.2
                          have HI123 := n4_
                          have HR124_5 := n5_
                          have HR125_5 := n6_
                          have HB := n7_
                          clear n0_ n1_ n2_ n3_ n4_ n5_ n6_ n7_
                          (try clear hb)
                          (try clear hb2)
                          (try clear hk)
                          (try clear hi)
                          refine hK.out _ _ ⟨HS0_, HS1_, HS2_, HS3_, HS4_, HS5_, HS6_, HS7_, HS8_, HS9_, HS10_, HS11_, HS12_, HS13_, HS14_, HS15_, HS16_, HS17_⟩ (fun hHeld => ?_)
                          clear hK K
                          refine norm_ (a' := ?_) ?_ ?_
                          rotate_left
                          · show Act.put _ (some 49) _ = _
                            simp only [Act.put, List.setIfInBounds_toArray, List.set_cons_zero, List.set_cons_succ, i64_w, i32_w]
                            rfl
                          refine pure_ (i := 9) (N := some 50) (v := ?_) (a' := ?_) #[true, true, true, true, true, true, true, true, true, true, false, false, false, false, false, false, false, false, false, false, false, false, false, false] rfl rfl (any_of HT_.out (by kernel_rfl)) (fun _ _ _ h => h) (Or.inl ⟨by rfl, ?_⟩) ?_ ?_
                          rotate_left
                          · intro w'
                            go_simp
                            with_reducible rfl
                          rotate_left
                          · simp only [Act.put, List.setIfInBounds_toArray, List.set_cons_zero, List.set_cons_succ, i64_w, i32_w]
                            rfl
                          refine pure_ (i := 10) (N := some 51) (v := ?_) (a' := ?_) #[true, true, true, true, true, true, true, true, true, true, true, false, false, false, false, false, false, false, false, false, false, false, false, false] rfl rfl (any_of HT_.out (by kernel_rfl)) (fun _ _ _ h => h) (Or.inl ⟨by rfl, ?_⟩) ?_ ?_
                          rotate_left
                          · intro w'
                            go_simp
                            with_reducible rfl
                          rotate_left
                          · simp only [Act.put, List.setIfInBounds_toArray, List.set_cons_zero, List.set_cons_succ, i64_w, i32_w]
                            rfl
                          refine pure_ (i := 11) (N := some 52) (v := ?_) (a' := ?_) #[true, true, true, true, true, true, true, true, true, true, true, true, false, false, false, false, false, false, false, false, false, false, false, false] rfl rfl (any_of HT_.out (by kernel_rfl)) (fun _ _ _ h => h) (Or.inl ⟨by rfl, ?_⟩) ?_ ?_
                          rotate_left
                          · intro w'
                            go_simp
                            with_reducible rfl
                          rotate_left
                          · simp only [Act.put, List.setIfInBounds_toArray, List.set_cons_zero, List.set_cons_succ, i64_w, i32_w]
                            rfl
                          refine pure_ (i := 12) (N := some 53) (v := ?_) (a' := ?_) #[true, true, true, true, true, true, true, true, true, true, true, true, true, false, false, false, false, false, false, false, false, false, false, false] rfl rfl (any_of HT_.out (by kernel_rfl)) (fun _ _ _ h => h) (Or.inl ⟨by rfl, ?_⟩) ?_ ?_
                          rotate_left
                          · intro w'
                            go_simp
                            with_reducible rfl
                          rotate_left
                          · simp only [Act.put, List.setIfInBounds_toArray, List.set_cons_zero, List.set_cons_succ, i64_w, i32_w]
                            rfl
                          refine pure_ (i := 13) (N := some 54) (v := ?_) (a' := ?_) #[true, true, true, true, true, true, true, true, true, true, true, true, true, true, false, false, false, false, false, false, false, false, false, false] rfl rfl (any_of HT_.out (by kernel_rfl)) (fun _ _ _ h => h) (Or.inl ⟨by rfl, ?_⟩) ?_ ?_
                          rotate_left
                          · intro w'
                            go_simp
                            with_reducible rfl
                          rotate_left
                          · simp only [Act.put, List.setIfInBounds_toArray, List.set_cons_zero, List.set_cons_succ, i64_w, i32_w]
                            rfl
                          refine pure_ (i := 14) (N := some 55) (v := ?_) (a' := ?_) #[true, true, true, true, true, true, true, true, true, true, true, true, true, true, true, false, false, false, false, false, false, false, false, false] rfl rfl (any_of HT_.out (by kernel_rfl)) (fun _ _ _ h => h) (Or.inl ⟨by rfl, ?_⟩) ?_ ?_
                          rotate_left
                          · intro w'
                            go_simp
                            with_reducible rfl
                          rotate_left
                          · simp only [Act.put, List.setIfInBounds_toArray, List.set_cons_zero, List.set_cons_succ, i64_w, i32_w]
                            rfl
                          refine pure_ (i := 16) (N := some 57) (v := ?_) (a' := ?_) #[true, true, true, true, true, true, true, true, true, true, true, true, true, true, true, false, true, false, false, false, false, false, false, false] rfl rfl (any_of HT_.out (by kernel_rfl)) (fun _ _ _ h => h) (Or.inl ⟨by rfl, ?_⟩) ?_ ?_
                          rotate_left
                          · intro w'
                            go_simp
                            with_reducible rfl
                          rotate_left
                          · simp only [Act.put, List.setIfInBounds_toArray, List.set_cons_zero, List.set_cons_succ, i64_w, i32_w]
                            rfl
                          refine pure_ (i := 17) (N := some 58) (v := ?_) (a' := ?_) #[true, true, true, true, true, true, true, true, true, true, true, true, true, true, true, false, true, true, false, false, false, false, false, false] rfl rfl (any_of HT_.out (by kernel_rfl)) (fun _ _ _ h => h) (Or.inl ⟨by rfl, ?_⟩) ?_ ?_
                          rotate_left
                          · intro w'
                            go_simp
                            with_reducible rfl
                          rotate_left
                          · simp only [Act.put, List.setIfInBounds_toArray, List.set_cons_zero, List.set_cons_succ, i64_w, i32_w]
                            rfl
                          refine pure_ (i := 18) (N := some 59) (v := ?_) (a' := ?_) #[true, true, true, true, true, true, true, true, true, true, true, true, true, true, true, false, true, true, true, false, false, false, false, false] rfl rfl (any_of HT_.out (by kernel_rfl)) (fun _ _ _ h => h) (Or.inl ⟨by rfl, ?_⟩) ?_ ?_
                          rotate_left
                          · intro w'
                            go_simp
                            with_reducible rfl
                          rotate_left
                          · simp only [Act.put, List.setIfInBounds_toArray, List.set_cons_zero, List.set_cons_succ, i64_w, i32_w]
                            rfl
                          refine take_ (i := 19) (N := some 60) (v := ?_) (a' := ?_) #[true, true, true, true, true, true, true, true, true, true, true, true, true, true, true, false, true, true, true, true, false, false, false, false] rfl rfl (take_ofW HT_.out HW_.out (by kernel_rfl)) (fun _ _ _ h => h) (Or.inl ⟨by rfl, ?_⟩) hHeld ?_ ?_
                          rotate_left
                          · rintro w' ⟨s0, s1, s2, s3, s4, s5, s6, s7, s8, s9, s10, s11, s12, s13, s14, s15, s16, s17⟩
                            go_simp
                            with_reducible rfl
                          rotate_left
                          · simp only [Act.put, List.setIfInBounds_toArray, List.set_cons_zero, List.set_cons_succ, i64_w, i32_w]
                            rfl
                          refine one_ (i := 15) (N := some 56) #[true, true, true, true, true, true, true, true, true, true, true, true, true, true, true, true, true, true, true, true, false, false, false, false] rfl rfl (one_of HT_.out (by kernel_rfl)) (by decide) (fun K hK => ?_)
                          refine goes_ Try.func15 (by kernel_rfl) rfl #[.pointer (some ⟨g123, 0, none⟩)] (by rfl) rfl rfl (by (try simp only [List.map_toArray, List.map_cons, List.map_nil]); first | done | rfl | (simp only [List.length_drop, List.length_take]; rfl)) ?_
                          with_reducible refine (lots_Lot_Call.calls g123 x124000_2 t127 t128 t129 t130 t131 t132 t135 w _ ?side1 ?side2 A24.out).mono ?_
                          (case side1 => repeat (first | (with_reducible first | exact HI123.out | apply IsS44.alloc | apply IsS44.drewN | apply IsS44.drew | apply IsS44.set_0) | exact HI123.out))
                          (case side2 => repeat (first | (with_reducible first | exact HB.out | apply below_alloc | apply pw_below_drewN | apply below_drew1 | refine below_set ?_ (IsS44.ge HI123.out)) | exact HB.out))
                          rintro e w29 ⟨v133, rfl, ho0, hi, hb, hk⟩
                          have HS0_ := keep_cell hk (hHeld.1) (by first | (rw [add_block]; exact Kd.own_blk (IsS44.own_neS HI123.out HO_6.out (by decide))) | (show (Addr.add _ _).block ≠ _; rw [add_block]; exact Kd.own_blk (IsS44.own_neS HI123.out HO_6.out (by decide))) | exact Kd.own_blk (IsS44.own_neS HI123.out HO_6.out (by decide)))
                          have HS1_ := keep_cell hk (hHeld.2.1) (by first | (rw [add_block]; exact Kd.own_blk (IsS44.own_neS HI123.out HO_6.out (by decide))) | (show (Addr.add _ _).block ≠ _; rw [add_block]; exact Kd.own_blk (IsS44.own_neS HI123.out HO_6.out (by decide))) | exact Kd.own_blk (IsS44.own_neS HI123.out HO_6.out (by decide)))
                          have HS2_ := keep_cell hk (hHeld.2.2.1) (by first | (rw [add_block]; exact Kd.own_blk (IsS44.own_neS HI123.out HO_6.out (by decide))) | (show (Addr.add _ _).block ≠ _; rw [add_block]; exact Kd.own_blk (IsS44.own_neS HI123.out HO_6.out (by decide))) | exact Kd.own_blk (IsS44.own_neS HI123.out HO_6.out (by decide)))
                          have HS3_ := keep_cell hk (hHeld.2.2.2.1) (by first | (rw [add_block]; exact Kd.own_blk (IsS44.own_neS HI123.out HO_6.out (by decide))) | (show (Addr.add _ _).block ≠ _; rw [add_block]; exact Kd.own_blk (IsS44.own_neS HI123.out HO_6.out (by decide))) | exact Kd.own_blk (IsS44.own_neS HI123.out HO_6.out (by decide)))
                          have HS4_ := keep_cell hk (hHeld.2.2.2.2.1) (by first | (rw [add_block]; exact Kd.own_blk (IsS44.own_neS HI123.out HO_6.out (by decide))) | (show (Addr.add _ _).block ≠ _; rw [add_block]; exact Kd.own_blk (IsS44.own_neS HI123.out HO_6.out (by decide))) | exact Kd.own_blk (IsS44.own_neS HI123.out HO_6.out (by decide)))
                          have HS5_ := keep_cell hk (hHeld.2.2.2.2.2.1) (by first | (rw [add_block]; exact Kd.own_blk (IsS44.own_neS HI123.out HO_6.out (by decide))) | (show (Addr.add _ _).block ≠ _; rw [add_block]; exact Kd.own_blk (IsS44.own_neS HI123.out HO_6.out (by decide))) | exact Kd.own_blk (IsS44.own_neS HI123.out HO_6.out (by decide)))
                          have HS6_ := keep_cell hk (hHeld.2.2.2.2.2.2.1) (by first | (rw [add_block]; exact Kd.own_blk (IsS44.own_neS HI123.out HO_7.out (by decide))) | (show (Addr.add _ _).block ≠ _; rw [add_block]; exact Kd.own_blk (IsS44.own_neS HI123.out HO_7.out (by decide))) | exact Kd.own_blk (IsS44.own_neS HI123.out HO_7.out (by decide)))
                          have HS7_ := keep_cell hk (hHeld.2.2.2.2.2.2.2.1) (by first | (rw [add_block]; exact Kd.own_blk (IsS44.own_neS HI123.out HO_7.out (by decide))) | (show (Addr.add _ _).block ≠ _; rw [add_block]; exact Kd.own_blk (IsS44.own_neS HI123.out HO_7.out (by decide))) | exact Kd.own_blk (IsS44.own_neS HI123.out HO_7.out (by decide)))
                          have HS8_ := keep_cell hk (hHeld.2.2.2.2.2.2.2.2.1) (by first | (rw [add_block]; exact Kd.own_blk (IsS44.own_neS HI123.out HO_7.out (by decide))) | (show (Addr.add _ _).block ≠ _; rw [add_block]; exact Kd.own_blk (IsS44.own_neS HI123.out HO_7.out (by decide))) | exact Kd.own_blk (IsS44.own_neS HI123.out HO_7.out (by decide)))
                          have HS9_ := keep_cell hk (hHeld.2.2.2.2.2.2.2.2.2.1) (by first | (rw [add_block]; exact Kd.own_blk (IsS44.own_neS HI123.out HO_7.out (by decide))) | (show (Addr.add _ _).block ≠ _; rw [add_block]; exact Kd.own_blk (IsS44.own_neS HI123.out HO_7.out (by decide))) | exact Kd.own_blk (IsS44.own_neS HI123.out HO_7.out (by decide)))
                          have HS10_ := keep_cell hk (hHeld.2.2.2.2.2.2.2.2.2.2.1) (by first | (rw [add_block]; exact Kd.own_blk (IsS44.own_neS HI123.out HO_7.out (by decide))) | (show (Addr.add _ _).block ≠ _; rw [add_block]; exact Kd.own_blk (IsS44.own_neS HI123.out HO_7.out (by decide))) | exact Kd.own_blk (IsS44.own_neS HI123.out HO_7.out (by decide)))
                          have HS11_ := keep_cell hk (hHeld.2.2.2.2.2.2.2.2.2.2.2.1) (by first | (rw [add_block]; exact Kd.own_blk (IsS44.own_neS HI123.out HO_7.out (by decide))) | (show (Addr.add _ _).block ≠ _; rw [add_block]; exact Kd.own_blk (IsS44.own_neS HI123.out HO_7.out (by decide))) | exact Kd.own_blk (IsS44.own_neS HI123.out HO_7.out (by decide)))
                          have HS12_ := keep_cell hk (hHeld.2.2.2.2.2.2.2.2.2.2.2.2.1) (by first | (rw [add_block]; exact Kd.own_blk (IsS44.own_neS HI123.out HO_7.out (by decide))) | (show (Addr.add _ _).block ≠ _; rw [add_block]; exact Kd.own_blk (IsS44.own_neS HI123.out HO_7.out (by decide))) | exact Kd.own_blk (IsS44.own_neS HI123.out HO_7.out (by decide)))
                          have HS13_ := keep_cell hk (hHeld.2.2.2.2.2.2.2.2.2.2.2.2.2.1) (by first | (rw [add_block]; exact Kd.own_blk (IsS44.own_neS HI123.out HO_7.out (by decide))) | (show (Addr.add _ _).block ≠ _; rw [add_block]; exact Kd.own_blk (IsS44.own_neS HI123.out HO_7.out (by decide))) | exact Kd.own_blk (IsS44.own_neS HI123.out HO_7.out (by decide)))
                          have HS14_ := keep_cell hk (hHeld.2.2.2.2.2.2.2.2.2.2.2.2.2.2.1) (by first | (rw [add_block]; exact Kd.own_blk (IsS44.own_neS HI123.out HO_7.out (by decide))) | (show (Addr.add _ _).block ≠ _; rw [add_block]; exact Kd.own_blk (IsS44.own_neS HI123.out HO_7.out (by decide))) | exact Kd.own_blk (IsS44.own_neS HI123.out HO_7.out (by decide)))
                          have HS15_ := keep_cell hk (hHeld.2.2.2.2.2.2.2.2.2.2.2.2.2.2.2.1) (by first | (rw [add_block]; exact Kd.own_blk (IsS44.own_neS HI123.out HO_7.out (by decide))) | (show (Addr.add _ _).block ≠ _; rw [add_block]; exact Kd.own_blk (IsS44.own_neS HI123.out HO_7.out (by decide))) | exact Kd.own_blk (IsS44.own_neS HI123.out HO_7.out (by decide)))
                          have HS16_ := keep_cell hk (hHeld.2.2.2.2.2.2.2.2.2.2.2.2.2.2.2.2.1) (by first | (rw [add_block]; exact Kd.own_blk (IsS44.own_neS HI123.out HO_7.out (by decide))) | (show (Addr.add _ _).block ≠ _; rw [add_block]; exact Kd.own_blk (IsS44.own_neS HI123.out HO_7.out (by decide))) | exact Kd.own_blk (IsS44.own_neS HI123.out HO_7.out (by decide)))
                          have HS17_ := keep_cell hk (hHeld.2.2.2.2.2.2.2.2.2.2.2.2.2.2.2.2.2) (by first | (rw [add_block]; exact Kd.own_blk (IsS44.own_neS HI123.out HO_7.out (by decide))) | (show (Addr.add _ _).block ≠ _; rw [add_block]; exact Kd.own_blk (IsS44.own_neS HI123.out HO_7.out (by decide))) | exact Kd.own_blk (IsS44.own_neS HI123.out HO_7.out (by decide)))
                          refine ⟨_, rfl, ?_⟩
                          have n0_ := Aside0.mk (Kd.S_mono (Kd.S_told (Kd.S_oldK (IsS44.apartS (show IsS44 w _ g123 x124000_2 from by repeat (first | (with_reducible first | exact HI123.out | apply IsS44.alloc | apply IsS44.drewN | apply IsS44.drew | apply IsS44.set_0) | exact HI123.out)) (by (with_reducible repeat (first | apply Kd.S_alloc | apply Kd.S_drewN | apply Kd.S_drew)); exact HO_6.out) (by decide)) hk) (Kd.R_base ho0)) (fun _ h_ => h_.1))
                          have n1_ := Aside0.mk (Kd.S_mono (Kd.S_told (Kd.S_oldK (IsS44.apartS (show IsS44 w _ g123 x124000_2 from by repeat (first | (with_reducible first | exact HI123.out | apply IsS44.alloc | apply IsS44.drewN | apply IsS44.drew | apply IsS44.set_0) | exact HI123.out)) (by (with_reducible repeat (first | apply Kd.S_alloc | apply Kd.S_drewN | apply Kd.S_drew)); exact HO_7.out) (by decide)) hk) (Kd.R_base ho0)) (fun _ h_ => h_.1))
                          have n2_ := Aside0.mk (Kd.R_mono (Kd.R_told (Kd.R_oldK (IsS44.apart (show IsS44 w _ g123 x124000_2 from by repeat (first | (with_reducible first | exact HI123.out | apply IsS44.alloc | apply IsS44.drewN | apply IsS44.drew | apply IsS44.set_0) | exact HI123.out)) (by (with_reducible repeat (first | apply Kd.R_alloc | apply Kd.R_drewN | apply Kd.R_drew)); exact HL124_5.out) (by decide)) hk) (Kd.R_base ho0)) (fun _ h_ => h_.1))
                          have n3_ := Aside0.mk (Kd.R_mono (Kd.R_told (Kd.R_oldK (IsS44.apart (show IsS44 w _ g123 x124000_2 from by repeat (first | (with_reducible first | exact HI123.out | apply IsS44.alloc | apply IsS44.drewN | apply IsS44.drew | apply IsS44.set_0) | exact HI123.out)) (by (with_reducible repeat (first | apply Kd.R_alloc | apply Kd.R_drewN | apply Kd.R_drew)); exact HL125_5.out) (by decide)) hk) (Kd.R_base ho0)) (fun _ h_ => h_.1))
                          have n4_ := Aside0.mk (Kd.R_lower (Kd.R_new' (Kd.R_new' ho0 (Kd.R_lt (by (with_reducible repeat (first | apply Kd.R_alloc | apply Kd.R_drewN | apply Kd.R_drew)); exact HL124_5.out))) (Kd.R_lt (by (with_reducible repeat (first | apply Kd.R_alloc | apply Kd.R_drewN | apply Kd.R_drew)); exact HL125_5.out))) (below_size (by repeat (first | (with_reducible first | exact HB.out | apply below_alloc | apply pw_below_drewN | apply below_drew1 | refine below_set ?_ (IsS44.ge HI123.out)) | exact HB.out))))
                          have n5_ := Aside0.mk (hb)
                          have n6_ := Aside0.mk (hi)
                          clear HO_6
                          clear HO_7
                          clear HL124_5
                          clear HL125_5
                          clear HB
                          clear HI123
                          have HO_6 := n0_
                          have HO_7 := n1_
                          have HL124_5 := n2_
                          have HL125_5 := n3_
                          have HL136_5 := HL125_5
                          have HR136_5 := Aside0.mk (Kd.R_reads' HL136_5.out).2.2
                          have HO134 := n4_
                          have HB := n5_
                          have HI123 := n6_
                          clear n0_ n1_ n2_ n3_ n4_ n5_ n6_
                          (try clear hb)
                          (try clear hb2)
                          (try clear hk)
                          (try clear hi)
                          (try clear ho0)
                          obtain ⟨Ao30, co30, eo30⟩ := Kd.R_slice HO134.out
                          (first | subst eo30 | (injection eo30 with f1_ f2_ f3_; have f4_ := f1_.symm; have f5_ := f3_.symm; clear f1_ f2_ f3_; subst f4_; subst f5_))
                          refine hK.out _ _ ⟨HS0_, HS1_, HS2_, HS3_, HS4_, HS5_, HS6_, HS7_, HS8_, HS9_, HS10_, HS11_, HS12_, HS13_, HS14_, HS15_, HS16_, HS17_⟩ (fun hHeld => ?_)
                          clear hK K
                          refine norm_ (a' := ?_) ?_ ?_
                          rotate_left
                          · show Act.put _ (some 56) _ = _
                            simp only [Act.put, List.setIfInBounds_toArray, List.set_cons_zero, List.set_cons_succ, i64_w, i32_w]
                            rfl
                          refine one_ (i := 20) (N := some 61) #[true, true, true, true, true, true, true, true, true, true, true, true, true, true, true, true, true, true, true, true, true, false, false, false] rfl rfl (one_of HT_.out (by kernel_rfl)) (by decide) (fun K hK => ?_)
                          refine goes_ Try.func14 (by kernel_rfl) rfl #[.agg #[.int .i64 t127, .string t128, .string t129, .int .i64 t130, .int .i64 t131, .slice Ao30 t132.length co30], .agg #[.int .i64 ((rd_T35 t119 x9_2).f0), .string ((rd_T35 t119 x9_2).f1), .string ((rd_T35 t119 x9_2).f2), .int .i64 ((rd_T35 t119 x9_2).f3), .int .i64 ((rd_T35 t119 x9_2).f4), .slice A125_5 ((rd_T35 t119 x9_2).f5).length c125_5]] (by rfl) rfl rfl (by (try simp only [List.map_toArray, List.map_cons, List.map_nil]); first | done | rfl | (simp only [List.length_drop, List.length_take]; rfl)) ?_
                          with_reducible refine (lockgateref28_SameCall.calls t127 t128 t129 t130 t131 _ _ t132 ((rd_T35 t119 x9_2).f0) ((rd_T35 t119 x9_2).f1) ((rd_T35 t119 x9_2).f2) ((rd_T35 t119 x9_2).f3) ((rd_T35 t119 x9_2).f4) _ _ ((rd_T35 t119 x9_2).f5) true _ ?side1 ?side2 ?side3 ?side4 A25.out).mono ?_
                          (case side1 => repeat (first | exact (Kd.R_reads' HO134.out).2.2 | (with_reducible refine Kd.C_alloc ?_ _) | (with_reducible refine Kd.C_drewN ?_ _) | (with_reducible refine Kd.C_drew ?_)))
                          (case side2 => exact (Kd.R_reads' HO134.out).2.1)
                          (case side3 => repeat (first | exact (by repeat (first | (with_reducible exact HR136_5.out) | (with_reducible refine Kd.C_alloc ?_ _) | (with_reducible refine Kd.C_drewN ?_ _) | (with_reducible refine Kd.C_drew ?_) | exact HR136_5.out)) | (with_reducible refine Kd.C_alloc ?_ _) | (with_reducible refine Kd.C_drewN ?_ _) | (with_reducible refine Kd.C_drew ?_)))
                          (case side4 => exact HC136_5.out)
                          rintro e w31 ⟨rfl, hb⟩
                          have HS0_ := (hb.cell (World.block_lt_of_cell? _ _ (hHeld.1))).trans (hHeld.1)
                          have HS1_ := (hb.cell (World.block_lt_of_cell? _ _ (hHeld.2.1))).trans (hHeld.2.1)
                          have HS2_ := (hb.cell (World.block_lt_of_cell? _ _ (hHeld.2.2.1))).trans (hHeld.2.2.1)
                          have HS3_ := (hb.cell (World.block_lt_of_cell? _ _ (hHeld.2.2.2.1))).trans (hHeld.2.2.2.1)
                          have HS4_ := (hb.cell (World.block_lt_of_cell? _ _ (hHeld.2.2.2.2.1))).trans (hHeld.2.2.2.2.1)
                          have HS5_ := (hb.cell (World.block_lt_of_cell? _ _ (hHeld.2.2.2.2.2.1))).trans (hHeld.2.2.2.2.2.1)
                          have HS6_ := (hb.cell (World.block_lt_of_cell? _ _ (hHeld.2.2.2.2.2.2.1))).trans (hHeld.2.2.2.2.2.2.1)
                          have HS7_ := (hb.cell (World.block_lt_of_cell? _ _ (hHeld.2.2.2.2.2.2.2.1))).trans (hHeld.2.2.2.2.2.2.2.1)
                          have HS8_ := (hb.cell (World.block_lt_of_cell? _ _ (hHeld.2.2.2.2.2.2.2.2.1))).trans (hHeld.2.2.2.2.2.2.2.2.1)
                          have HS9_ := (hb.cell (World.block_lt_of_cell? _ _ (hHeld.2.2.2.2.2.2.2.2.2.1))).trans (hHeld.2.2.2.2.2.2.2.2.2.1)
                          have HS10_ := (hb.cell (World.block_lt_of_cell? _ _ (hHeld.2.2.2.2.2.2.2.2.2.2.1))).trans (hHeld.2.2.2.2.2.2.2.2.2.2.1)
                          have HS11_ := (hb.cell (World.block_lt_of_cell? _ _ (hHeld.2.2.2.2.2.2.2.2.2.2.2.1))).trans (hHeld.2.2.2.2.2.2.2.2.2.2.2.1)
                          have HS12_ := (hb.cell (World.block_lt_of_cell? _ _ (hHeld.2.2.2.2.2.2.2.2.2.2.2.2.1))).trans (hHeld.2.2.2.2.2.2.2.2.2.2.2.2.1)
                          have HS13_ := (hb.cell (World.block_lt_of_cell? _ _ (hHeld.2.2.2.2.2.2.2.2.2.2.2.2.2.1))).trans (hHeld.2.2.2.2.2.2.2.2.2.2.2.2.2.1)
                          have HS14_ := (hb.cell (World.block_lt_of_cell? _ _ (hHeld.2.2.2.2.2.2.2.2.2.2.2.2.2.2.1))).trans (hHeld.2.2.2.2.2.2.2.2.2.2.2.2.2.2.1)
                          have HS15_ := (hb.cell (World.block_lt_of_cell? _ _ (hHeld.2.2.2.2.2.2.2.2.2.2.2.2.2.2.2.1))).trans (hHeld.2.2.2.2.2.2.2.2.2.2.2.2.2.2.2.1)
                          have HS16_ := (hb.cell (World.block_lt_of_cell? _ _ (hHeld.2.2.2.2.2.2.2.2.2.2.2.2.2.2.2.2.1))).trans (hHeld.2.2.2.2.2.2.2.2.2.2.2.2.2.2.2.2.1)
                          have HS17_ := (hb.cell (World.block_lt_of_cell? _ _ (hHeld.2.2.2.2.2.2.2.2.2.2.2.2.2.2.2.2.2))).trans (hHeld.2.2.2.2.2.2.2.2.2.2.2.2.2.2.2.2.2)
                          refine ⟨_, rfl, ?_⟩
                          have n0_ := Aside0.mk (Kd.S_below (by (with_reducible repeat (first | apply Kd.S_alloc | apply Kd.S_drewN | apply Kd.S_drew)); exact HO_6.out) hb)
                          have n1_ := Aside0.mk (Kd.S_below (by (with_reducible repeat (first | apply Kd.S_alloc | apply Kd.S_drewN | apply Kd.S_drew)); exact HO_7.out) hb)
                          have n2_ := Aside0.mk (Kd.R_below (by (with_reducible repeat (first | apply Kd.R_alloc | apply Kd.R_drewN | apply Kd.R_drew)); exact HL124_5.out) hb)
                          have n3_ := Aside0.mk (Kd.R_below (by (with_reducible repeat (first | apply Kd.R_alloc | apply Kd.R_drewN | apply Kd.R_drew)); exact HL125_5.out) hb)
                          have n4_ := Aside0.mk (Kd.R_below (by (with_reducible repeat (first | apply Kd.R_alloc | apply Kd.R_drewN | apply Kd.R_drew)); exact HO134.out) hb)
                          have n5_ := Aside0.mk (Kd.R_below (by (with_reducible repeat (first | apply Kd.R_alloc | apply Kd.R_drewN | apply Kd.R_drew)); exact HL136_5.out) hb)
                          have n6_ := Aside0.mk (IsS44.below (by repeat (first | (with_reducible first | exact HI123.out | apply IsS44.alloc | apply IsS44.drewN | apply IsS44.drew | apply IsS44.set_0) | exact HI123.out)) hb)
                          have n7_ := Aside0.mk (Kd.C_below (by repeat (first | (with_reducible exact HR136_5.out) | (with_reducible refine Kd.C_alloc ?_ _) | (with_reducible refine Kd.C_drewN ?_ _) | (with_reducible refine Kd.C_drew ?_) | exact HR136_5.out)) hb)
                          have n8_ := Aside0.mk (below_step (by repeat (first | (with_reducible first | exact HB.out | apply below_alloc | apply pw_below_drewN | apply below_drew1 | refine below_set ?_ (IsS44.ge HI123.out)) | exact HB.out)) hb)
                          clear HO_6
                          clear HO_7
                          clear HL124_5
                          clear HL125_5
                          clear HO134
                          clear HL136_5
                          clear HI123
                          clear HR136_5
                          clear HB
                          have HO_6 := n0_
                          have HO_7 := n1_
                          have HL124_5 := n2_
                          have HL125_5 := n3_
                          have HL136_5 := HL125_5
                          have HR136_5 := Aside0.mk (Kd.R_reads' HL136_5.out).2.2
                          have HO134 := n4_
                          have HL136_5 := n5_
                          have HI123 := n6_
                          have HR136_5 := n7_
                          have HB := n8_
                          clear n0_ n1_ n2_ n3_ n4_ n5_ n6_ n7_ n8_
                          (try clear hb)
                          (try clear hb2)
                          (try clear hk)
                          (try clear hi)
                          refine hK.out _ _ ⟨HS0_, HS1_, HS2_, HS3_, HS4_, HS5_, HS6_, HS7_, HS8_, HS9_, HS10_, HS11_, HS12_, HS13_, HS14_, HS15_, HS16_, HS17_⟩ (fun hHeld => ?_)
                          clear hK K
                          refine norm_ (a' := ?_) ?_ ?_
                          rotate_left
                          · show Act.put _ (some 61) _ = _
                            simp only [Act.put, List.setIfInBounds_toArray, List.set_cons_zero, List.set_cons_succ, i64_w, i32_w]
                            rfl
                          refine pure_ (i := 21) (N := some 62) (v := ?_) (a' := ?_) #[true, true, true, true, true, true, true, true, true, true, true, true, true, true, true, true, true, true, true, true, true, true, false, false] rfl rfl (any_of HT_.out (by kernel_rfl)) (fun _ _ _ h => h) (Or.inl ⟨by rfl, ?_⟩) ?_ ?_
                          rotate_left
                          · intro w'
                            go_simp
                            with_reducible rfl
                          rotate_left
                          · simp only [Act.put, List.setIfInBounds_toArray, List.set_cons_zero, List.set_cons_succ, i64_w, i32_w]
                            rfl
                          refine pure_ (i := 22) (N := some 63) (v := ?_) (a' := ?_) #[true, true, true, true, true, true, true, true, true, true, true, true, true, true, true, true, true, true, true, true, true, true, true, false] rfl rfl (any_of HT_.out (by kernel_rfl)) (fun _ _ _ h => h) (Or.inl ⟨by rfl, ?_⟩) ?_ ?_
                          rotate_left
                          · intro w'
                            go_simp
                            with_reducible rfl
                          rotate_left
                          · simp only [Act.put, List.setIfInBounds_toArray, List.set_cons_zero, List.set_cons_succ, i64_w, i32_w]
                            rfl
                          refine pure_ (i := 23) (N := some 64) (v := ?_) (a' := ?_) #[true, true, true, true, true, true, true, true, true, true, true, true, true, true, true, true, true, true, true, true, true, true, true, true] rfl rfl (any_of HT_.out (by kernel_rfl)) (fun _ _ _ h => h) (Or.inl ⟨by rfl, ?_⟩) ?_ ?_
                          rotate_left
                          · intro w'
                            go_simp
                            with_reducible rfl
                          rotate_left
                          · simp only [Act.put, List.setIfInBounds_toArray, List.set_cons_zero, List.set_cons_succ, i64_w, i32_w]
                            rfl
                          refine done_ (done_of HT_.out (by kernel_rfl)) ?_
                          try go_wp2
                          go_roundg k2
                          case measure => have := HJ3.out; have := HK2.out; omega
                          case rel => exact ⟨(wrap64 (x9_2 + 1)), (t135), (by first | rfl | (simp; done) | (simp [*]; done)), H', ⟨by have := HJ3.out; have := HK2.out; omega⟩, ⟨by (with_reducible repeat (first | apply Kd.S_alloc | apply Kd.S_drewN | apply Kd.S_drew)); exact Kd.S_mono HO_6.out (fun _ hk => hk.1)⟩, ⟨by (with_reducible repeat (first | apply Kd.S_alloc | apply Kd.S_drewN | apply Kd.S_drew)); exact Kd.S_mono HO_7.out (fun _ hk => hk.1)⟩, ⟨by repeat (first | (with_reducible first | exact HI123.out | apply IsS44.alloc | apply IsS44.drewN | apply IsS44.drew | apply IsS44.set_0) | exact HI123.out)⟩, ⟨by repeat (first | (with_reducible first | exact HB.out | apply below_alloc | apply pw_below_drewN | apply below_drew1 | refine below_set ?_ (IsS44.ge HI123.out)) | exact HB.out)⟩⟩
                        · replace c26 := Bool.eq_false_iff.mpr c26
                          subst c26
                          have H1 : (some false) = some r := by rw [if_neg (show ¬ (false = true) by decide)] at H; exact H
                          clear H
                          have H := H1
                          clear H1
                          obtain rfl := Option.some.inj H
                          try go_wp2
                          have n0_ := Aside0.mk (Kd.S_drew HO_6.out)
                          have n1_ := Aside0.mk (Kd.S_drew HO_7.out)
                          have n2_ := Aside0.mk (IsS44.drew HI123.out)
                          have n3_ := Aside0.mk (below_drew1 HB.out)
                          clear HO_6
                          clear HO_7
                          clear HI123
                          clear HB
                          have HO_6 := n0_
                          have HO_7 := n1_
                          have HI123 := n2_
                          have HB := n3_
                          clear n0_ n1_ n2_ n3_
                          have p124 : 0 ≤ (x9_2 : Int) := of_decide_eq_true (by first | (with_reducible assumption) | assumption)
                          have q124 : x9_2 < (t116.length : Int) := of_decide_eq_true (by first | (with_reducible assumption) | assumption)
                          obtain ⟨ad124, A124_5, c124_5, e124, hx124_0, hx124_1, hx124_2, hx124_3, hx124_4, hx124_5, hl124_5, hi124_5⟩ := at_T35 (Kd.S_reads' HO_6.out).2.2 x9_2 p124 q124
                          cases e124
                          obtain ⟨ce124, hce124, hMe124, hcc124⟩ := Kd.S_get HO_6.out z35 x9_2 p124 (by first | exact q124 | exact of_decide_eq_true (by first | (with_reducible assumption) | assumption) | (have e_ := (Kd.S_reads' HO_6.out).1; omega))
                          obtain ⟨ve124_5, rfl, ge124_5⟩ := k35_openM hMe124
                          have hv124_5 := hcc124 5 _ rfl
                          rw [add_field _ _ 5 (by omega)] at hv124_5
                          replace hv124_5 := Option.some.inj (hv124_5.symm.trans hx124_5)
                          rw [hv124_5] at ge124_5
                          have HL124_5 := Aside0.mk (show Kd.R (Kd.int .u8) 5 _ _ _ _ ((rd_T35 t116 x9_2).f5) from ge124_5)
                          clear hv124_5 ge124_5
                          clear hcc124 hce124
                          have HR124_5 := Aside0.mk hi124_5
                          have HC124_5 := Aside0.mk hl124_5
                          clear hi124_5 hl124_5
                          replace p124 := eq_true p124
                          replace q124 := eq_true q124
                          have p125 : 0 ≤ (x9_2 : Int) := of_decide_eq_true (by first | (with_reducible assumption) | assumption)
                          have q125 : x9_2 < (t119.length : Int) := of_decide_eq_true (by first | (with_reducible assumption) | assumption)
                          obtain ⟨ad125, A125_5, c125_5, e125, hx125_0, hx125_1, hx125_2, hx125_3, hx125_4, hx125_5, hl125_5, hi125_5⟩ := at_T35 (Kd.S_reads' HO_7.out).2.2 x9_2 p125 q125
                          cases e125
                          obtain ⟨ce125, hce125, hMe125, hcc125⟩ := Kd.S_get HO_7.out z35 x9_2 p125 (by first | exact q125 | exact of_decide_eq_true (by first | (with_reducible assumption) | assumption) | (have e_ := (Kd.S_reads' HO_7.out).1; omega))
                          obtain ⟨ve125_5, rfl, ge125_5⟩ := k35_openM hMe125
                          have hv125_5 := hcc125 5 _ rfl
                          rw [add_field _ _ 5 (by omega)] at hv125_5
                          replace hv125_5 := Option.some.inj (hv125_5.symm.trans hx125_5)
                          rw [hv125_5] at ge125_5
                          have HL125_5 := Aside0.mk (show Kd.R (Kd.int .u8) 5 _ _ _ _ ((rd_T35 t119 x9_2).f5) from ge125_5)
                          clear hv125_5 ge125_5
                          clear hcc125 hce125
                          have HR125_5 := Aside0.mk hi125_5
                          have HC125_5 := Aside0.mk hl125_5
                          clear hi125_5 hl125_5
                          replace p125 := eq_true p125
                          replace q125 := eq_true q125
                          have p136 : 0 ≤ (x9_2 : Int) := of_decide_eq_true (by first | (with_reducible assumption) | assumption)
                          have q136 : x9_2 < (t119.length : Int) := of_decide_eq_true (by first | (with_reducible assumption) | assumption)
                          obtain ⟨ad136, A136_5, c136_5, e136, hx136_0, hx136_1, hx136_2, hx136_3, hx136_4, hx136_5, hl136_5, hi136_5⟩ := at_T35 (Kd.S_reads' HO_7.out).2.2 x9_2 p136 q136
                          obtain rfl : ad125 = ad136 := (by injection e136)
                          obtain ⟨rfl, rfl⟩ : A125_5 = A136_5 ∧ c125_5 = c136_5 := by have hq := Option.some.inj (hx125_5.symm.trans hx136_5); injection hq with h1 h2 h3; exact ⟨h1, h3⟩
                          obtain ⟨ce136, hce136, hMe136, hcc136⟩ := Kd.S_get HO_7.out z35 x9_2 p136 (by first | exact q136 | exact of_decide_eq_true (by first | (with_reducible assumption) | assumption) | (have e_ := (Kd.S_reads' HO_7.out).1; omega))
                          obtain ⟨ve136_5, rfl, ge136_5⟩ := k35_openM hMe136
                          have hv136_5 := hcc136 5 _ rfl
                          rw [add_field _ _ 5 (by omega)] at hv136_5
                          replace hv136_5 := Option.some.inj (hv136_5.symm.trans hx136_5)
                          rw [hv136_5] at ge136_5
                          have HL136_5 := Aside0.mk (show Kd.R (Kd.int .u8) 5 _ _ _ _ ((rd_T35 t119 x9_2).f5) from ge136_5)
                          clear hv136_5 ge136_5
                          clear hcc136 hce136
                          have HR136_5 := Aside0.mk hi136_5
                          have HC136_5 := Aside0.mk hl136_5
                          clear hi136_5 hl136_5
                          replace p136 := eq_true p136
                          replace q136 := eq_true q136
                          refine start_ (n := 24) (S := fun w' => w'.cell? (ad124.add ((x9_2).toNat * 6)) = some (.int .i64 ((rd_T35 t116 x9_2).f0)) ∧ w'.cell? ⟨(ad124.add ((x9_2).toNat * 6)).block, (ad124.add ((x9_2).toNat * 6)).off + 1, none⟩ = some (.string ((rd_T35 t116 x9_2).f1)) ∧ w'.cell? ⟨(ad124.add ((x9_2).toNat * 6)).block, (ad124.add ((x9_2).toNat * 6)).off + 2, none⟩ = some (.string ((rd_T35 t116 x9_2).f2)) ∧ w'.cell? ⟨(ad124.add ((x9_2).toNat * 6)).block, (ad124.add ((x9_2).toNat * 6)).off + 3, none⟩ = some (.int .i64 ((rd_T35 t116 x9_2).f3)) ∧ w'.cell? ⟨(ad124.add ((x9_2).toNat * 6)).block, (ad124.add ((x9_2).toNat * 6)).off + 4, none⟩ = some (.int .i64 ((rd_T35 t116 x9_2).f4)) ∧ w'.cell? ⟨(ad124.add ((x9_2).toNat * 6)).block, (ad124.add ((x9_2).toNat * 6)).off + 5, none⟩ = some (.slice A124_5 ((rd_T35 t116 x9_2).f5).length c124_5) ∧ w'.cell? (ad125.add ((x9_2).toNat * 6)) = some (.int .i64 ((rd_T35 t119 x9_2).f0)) ∧ w'.cell? ⟨(ad125.add ((x9_2).toNat * 6)).block, (ad125.add ((x9_2).toNat * 6)).off + 1, none⟩ = some (.string ((rd_T35 t119 x9_2).f1)) ∧ w'.cell? ⟨(ad125.add ((x9_2).toNat * 6)).block, (ad125.add ((x9_2).toNat * 6)).off + 2, none⟩ = some (.string ((rd_T35 t119 x9_2).f2)) ∧ w'.cell? ⟨(ad125.add ((x9_2).toNat * 6)).block, (ad125.add ((x9_2).toNat * 6)).off + 3, none⟩ = some (.int .i64 ((rd_T35 t119 x9_2).f3)) ∧ w'.cell? ⟨(ad125.add ((x9_2).toNat * 6)).block, (ad125.add ((x9_2).toNat * 6)).off + 4, none⟩ = some (.int .i64 ((rd_T35 t119 x9_2).f4)) ∧ w'.cell? ⟨(ad125.add ((x9_2).toNat * 6)).block, (ad125.add ((x9_2).toNat * 6)).off + 5, none⟩ = some (.slice A125_5 ((rd_T35 t119 x9_2).f5).length c125_5) ∧ w'.cell? (ad125.add ((x9_2).toNat * 6)) = some (.int .i64 ((rd_T35 t119 x9_2).f0)) ∧ w'.cell? ⟨(ad125.add ((x9_2).toNat * 6)).block, (ad125.add ((x9_2).toNat * 6)).off + 1, none⟩ = some (.string ((rd_T35 t119 x9_2).f1)) ∧ w'.cell? ⟨(ad125.add ((x9_2).toNat * 6)).block, (ad125.add ((x9_2).toNat * 6)).off + 2, none⟩ = some (.string ((rd_T35 t119 x9_2).f2)) ∧ w'.cell? ⟨(ad125.add ((x9_2).toNat * 6)).block, (ad125.add ((x9_2).toNat * 6)).off + 3, none⟩ = some (.int .i64 ((rd_T35 t119 x9_2).f3)) ∧ w'.cell? ⟨(ad125.add ((x9_2).toNat * 6)).block, (ad125.add ((x9_2).toNat * 6)).off + 4, none⟩ = some (.int .i64 ((rd_T35 t119 x9_2).f4)) ∧ w'.cell? ⟨(ad125.add ((x9_2).toNat * 6)).block, (ad125.add ((x9_2).toNat * 6)).off + 5, none⟩ = some (.slice A125_5 ((rd_T35 t119 x9_2).f5).length c125_5)) (ds := []) #[false, false, false, false, false, false, false, false, false, false, false, false, false, false, false, false, false, false, false, false, false, false, false, false] (by kernel_rfl) rfl rfl ⟨hx124_0, hx124_1, hx124_2, hx124_3, hx124_4, hx124_5, hx125_0, hx125_1, hx125_2, hx125_3, hx125_4, hx125_5, hx136_0, hx136_1, hx136_2, hx136_3, hx136_4, hx136_5⟩ (fun hHeld => ?_); refine with_tabW lockgatelaw31_LotsCalls.tab12 lockgatelaw31_LotsCalls.bits12 (fun HT_ HW_ => ?_)
                          generalize wr.drew = w32 at HO_6 HO_7 HI123 HB HL124_5 HL125_5 HL136_5 HR124_5 HR125_5 HR136_5 hx124_0 hx124_1 hx124_2 hx124_3 hx124_4 hx124_5 hx125_0 hx125_1 hx125_2 hx125_3 hx125_4 hx125_5 hx136_0 hx136_1 hx136_2 hx136_3 hx136_4 hx136_5 hHeld ⊢
                          refine pure_ (i := 0) (N := some 41) (v := ?_) (a' := ?_) #[true, false, false, false, false, false, false, false, false, false, false, false, false, false, false, false, false, false, false, false, false, false, false, false] rfl rfl (any_of HT_.out (by kernel_rfl)) (fun _ _ _ h => h) (Or.inl ⟨by rfl, ?_⟩) ?_ ?_
                          rotate_left
                          · intro w'
                            go_simp
                            with_reducible rfl
                          rotate_left
                          · simp only [Act.put, List.setIfInBounds_toArray, List.set_cons_zero, List.set_cons_succ, i64_w, i32_w]
                            rfl
                          refine pure_ (i := 1) (N := some 42) (v := ?_) (a' := ?_) #[true, true, false, false, false, false, false, false, false, false, false, false, false, false, false, false, false, false, false, false, false, false, false, false] rfl rfl (any_of HT_.out (by kernel_rfl)) (fun _ _ _ h => h) (Or.inl ⟨by rfl, ?_⟩) ?_ ?_
                          rotate_left
                          · intro w'
                            go_simp
                            with_reducible rfl
                          rotate_left
                          · simp only [Act.put, List.setIfInBounds_toArray, List.set_cons_zero, List.set_cons_succ, i64_w, i32_w]
                            rfl
                          refine pure_ (i := 2) (N := some 43) (v := ?_) (a' := ?_) #[true, true, true, false, false, false, false, false, false, false, false, false, false, false, false, false, false, false, false, false, false, false, false, false] rfl rfl (any_of HT_.out (by kernel_rfl)) (fun _ _ _ h => h) (Or.inl ⟨by rfl, ?_⟩) ?_ ?_
                          rotate_left
                          · intro w'
                            go_simp
                            with_reducible rfl
                          rotate_left
                          · simp only [Act.put, List.setIfInBounds_toArray, List.set_cons_zero, List.set_cons_succ, i64_w, i32_w]
                            rfl
                          refine pure_ (i := 4) (N := some 45) (v := ?_) (a' := ?_) #[true, true, true, false, true, false, false, false, false, false, false, false, false, false, false, false, false, false, false, false, false, false, false, false] rfl rfl (any_of HT_.out (by kernel_rfl)) (fun _ _ _ h => h) (Or.inl ⟨by rfl, ?_⟩) ?_ ?_
                          rotate_left
                          · intro w'
                            go_simp
                            with_reducible rfl
                          rotate_left
                          · simp only [Act.put, List.setIfInBounds_toArray, List.set_cons_zero, List.set_cons_succ, i64_w, i32_w]
                            rfl
                          refine pure_ (i := 5) (N := some 46) (v := ?_) (a' := ?_) #[true, true, true, false, true, true, false, false, false, false, false, false, false, false, false, false, false, false, false, false, false, false, false, false] rfl rfl (any_of HT_.out (by kernel_rfl)) (fun _ _ _ h => h) (Or.inl ⟨by rfl, ?_⟩) ?_ ?_
                          rotate_left
                          · intro w'
                            go_simp
                            with_reducible rfl
                          rotate_left
                          · simp only [Act.put, List.setIfInBounds_toArray, List.set_cons_zero, List.set_cons_succ, i64_w, i32_w]
                            rfl
                          refine pure_ (i := 6) (N := some 47) (v := ?_) (a' := ?_) #[true, true, true, false, true, true, true, false, false, false, false, false, false, false, false, false, false, false, false, false, false, false, false, false] rfl rfl (any_of HT_.out (by kernel_rfl)) (fun _ _ _ h => h) (Or.inl ⟨by rfl, ?_⟩) ?_ ?_
                          rotate_left
                          · intro w'
                            go_simp
                            with_reducible rfl
                          rotate_left
                          · simp only [Act.put, List.setIfInBounds_toArray, List.set_cons_zero, List.set_cons_succ, i64_w, i32_w]
                            rfl
                          refine take_ (i := 3) (N := some 44) (v := ?_) (a' := ?_) #[true, true, true, true, true, true, true, false, false, false, false, false, false, false, false, false, false, false, false, false, false, false, false, false] rfl rfl (take_ofW HT_.out HW_.out (by kernel_rfl)) (fun _ _ _ h => h) (Or.inl ⟨by rfl, ?_⟩) hHeld ?_ ?_
                          rotate_left
                          · rintro w' ⟨s0, s1, s2, s3, s4, s5, s6, s7, s8, s9, s10, s11, s12, s13, s14, s15, s16, s17⟩
                            go_simp
                            with_reducible rfl
                          rotate_left
                          · simp only [Act.put, List.setIfInBounds_toArray, List.set_cons_zero, List.set_cons_succ, i64_w, i32_w]
                            rfl
                          refine take_ (i := 7) (N := some 48) (v := ?_) (a' := ?_) #[true, true, true, true, true, true, true, true, false, false, false, false, false, false, false, false, false, false, false, false, false, false, false, false] rfl rfl (take_ofW HT_.out HW_.out (by kernel_rfl)) (fun _ _ _ h => h) (Or.inl ⟨by rfl, ?_⟩) hHeld ?_ ?_
                          rotate_left
                          · rintro w' ⟨s0, s1, s2, s3, s4, s5, s6, s7, s8, s9, s10, s11, s12, s13, s14, s15, s16, s17⟩
                            go_simp
                            with_reducible rfl
                          rotate_left
                          · simp only [Act.put, List.setIfInBounds_toArray, List.set_cons_zero, List.set_cons_succ, i64_w, i32_w]
                            rfl
                          refine one_ (i := 8) (N := some 49) #[true, true, true, true, true, true, true, true, true, false, false, false, false, false, false, false, false, false, false, false, false, false, false, false] rfl rfl (one_of HT_.out (by kernel_rfl)) (by decide) (fun K hK => ?_)
                          refine goes_ Try.func14 (by kernel_rfl) rfl #[.agg #[.int .i64 ((rd_T35 t116 x9_2).f0), .string ((rd_T35 t116 x9_2).f1), .string ((rd_T35 t116 x9_2).f2), .int .i64 ((rd_T35 t116 x9_2).f3), .int .i64 ((rd_T35 t116 x9_2).f4), .slice A124_5 ((rd_T35 t116 x9_2).f5).length c124_5], .agg #[.int .i64 ((rd_T35 t119 x9_2).f0), .string ((rd_T35 t119 x9_2).f1), .string ((rd_T35 t119 x9_2).f2), .int .i64 ((rd_T35 t119 x9_2).f3), .int .i64 ((rd_T35 t119 x9_2).f4), .slice A125_5 ((rd_T35 t119 x9_2).f5).length c125_5]] (by rfl) rfl rfl (by (try simp only [List.map_toArray, List.map_cons, List.map_nil]); first | done | rfl | (simp only [List.length_drop, List.length_take]; rfl)) ?_
                          with_reducible refine (lockgateref28_SameCall.calls ((rd_T35 t116 x9_2).f0) ((rd_T35 t116 x9_2).f1) ((rd_T35 t116 x9_2).f2) ((rd_T35 t116 x9_2).f3) ((rd_T35 t116 x9_2).f4) _ _ ((rd_T35 t116 x9_2).f5) ((rd_T35 t119 x9_2).f0) ((rd_T35 t119 x9_2).f1) ((rd_T35 t119 x9_2).f2) ((rd_T35 t119 x9_2).f3) ((rd_T35 t119 x9_2).f4) _ _ ((rd_T35 t119 x9_2).f5) true _ ?side1 ?side2 ?side3 ?side4 A21.out).mono ?_
                          (case side1 => repeat (first | exact (by repeat (first | (with_reducible exact HR124_5.out) | (with_reducible refine Kd.C_alloc ?_ _) | (with_reducible refine Kd.C_drewN ?_ _) | (with_reducible refine Kd.C_drew ?_) | exact HR124_5.out)) | (with_reducible refine Kd.C_alloc ?_ _) | (with_reducible refine Kd.C_drewN ?_ _) | (with_reducible refine Kd.C_drew ?_)))
                          (case side2 => exact HC124_5.out)
                          (case side3 => repeat (first | exact (by repeat (first | (with_reducible exact HR125_5.out) | (with_reducible refine Kd.C_alloc ?_ _) | (with_reducible refine Kd.C_drewN ?_ _) | (with_reducible refine Kd.C_drew ?_) | exact HR125_5.out)) | (with_reducible refine Kd.C_alloc ?_ _) | (with_reducible refine Kd.C_drewN ?_ _) | (with_reducible refine Kd.C_drew ?_)))
                          (case side4 => exact HC125_5.out)
                          rintro e w33 ⟨rfl, hb⟩
                          have HS0_ := (hb.cell (World.block_lt_of_cell? _ _ (hHeld.1))).trans (hHeld.1)
                          have HS1_ := (hb.cell (World.block_lt_of_cell? _ _ (hHeld.2.1))).trans (hHeld.2.1)
                          have HS2_ := (hb.cell (World.block_lt_of_cell? _ _ (hHeld.2.2.1))).trans (hHeld.2.2.1)
                          have HS3_ := (hb.cell (World.block_lt_of_cell? _ _ (hHeld.2.2.2.1))).trans (hHeld.2.2.2.1)
                          have HS4_ := (hb.cell (World.block_lt_of_cell? _ _ (hHeld.2.2.2.2.1))).trans (hHeld.2.2.2.2.1)
                          have HS5_ := (hb.cell (World.block_lt_of_cell? _ _ (hHeld.2.2.2.2.2.1))).trans (hHeld.2.2.2.2.2.1)
                          have HS6_ := (hb.cell (World.block_lt_of_cell? _ _ (hHeld.2.2.2.2.2.2.1))).trans (hHeld.2.2.2.2.2.2.1)
                          have HS7_ := (hb.cell (World.block_lt_of_cell? _ _ (hHeld.2.2.2.2.2.2.2.1))).trans (hHeld.2.2.2.2.2.2.2.1)
                          have HS8_ := (hb.cell (World.block_lt_of_cell? _ _ (hHeld.2.2.2.2.2.2.2.2.1))).trans (hHeld.2.2.2.2.2.2.2.2.1)
                          have HS9_ := (hb.cell (World.block_lt_of_cell? _ _ (hHeld.2.2.2.2.2.2.2.2.2.1))).trans (hHeld.2.2.2.2.2.2.2.2.2.1)
                          have HS10_ := (hb.cell (World.block_lt_of_cell? _ _ (hHeld.2.2.2.2.2.2.2.2.2.2.1))).trans (hHeld.2.2.2.2.2.2.2.2.2.2.1)
                          have HS11_ := (hb.cell (World.block_lt_of_cell? _ _ (hHeld.2.2.2.2.2.2.2.2.2.2.2.1))).trans (hHeld.2.2.2.2.2.2.2.2.2.2.2.1)
                          have HS12_ := (hb.cell (World.block_lt_of_cell? _ _ (hHeld.2.2.2.2.2.2.2.2.2.2.2.2.1))).trans (hHeld.2.2.2.2.2.2.2.2.2.2.2.2.1)
                          have HS13_ := (hb.cell (World.block_lt_of_cell? _ _ (hHeld.2.2.2.2.2.2.2.2.2.2.2.2.2.1))).trans (hHeld.2.2.2.2.2.2.2.2.2.2.2.2.2.1)
                          have HS14_ := (hb.cell (World.block_lt_of_cell? _ _ (hHeld.2.2.2.2.2.2.2.2.2.2.2.2.2.2.1))).trans (hHeld.2.2.2.2.2.2.2.2.2.2.2.2.2.2.1)
                          have HS15_ := (hb.cell (World.block_lt_of_cell? _ _ (hHeld.2.2.2.2.2.2.2.2.2.2.2.2.2.2.2.1))).trans (hHeld.2.2.2.2.2.2.2.2.2.2.2.2.2.2.2.1)
                          have HS16_ := (hb.cell (World.block_lt_of_cell? _ _ (hHeld.2.2.2.2.2.2.2.2.2.2.2.2.2.2.2.2.1))).trans (hHeld.2.2.2.2.2.2.2.2.2.2.2.2.2.2.2.2.1)
                          have HS17_ := (hb.cell (World.block_lt_of_cell? _ _ (hHeld.2.2.2.2.2.2.2.2.2.2.2.2.2.2.2.2.2))).trans (hHeld.2.2.2.2.2.2.2.2.2.2.2.2.2.2.2.2.2)
                          refine ⟨_, rfl, ?_⟩
                          have n0_ := Aside0.mk (Kd.S_below (by (with_reducible repeat (first | apply Kd.S_alloc | apply Kd.S_drewN | apply Kd.S_drew)); exact HO_6.out) hb)
                          have n1_ := Aside0.mk (Kd.S_below (by (with_reducible repeat (first | apply Kd.S_alloc | apply Kd.S_drewN | apply Kd.S_drew)); exact HO_7.out) hb)
                          have n2_ := Aside0.mk (Kd.R_below (by (with_reducible repeat (first | apply Kd.R_alloc | apply Kd.R_drewN | apply Kd.R_drew)); exact HL124_5.out) hb)
                          have n3_ := Aside0.mk (Kd.R_below (by (with_reducible repeat (first | apply Kd.R_alloc | apply Kd.R_drewN | apply Kd.R_drew)); exact HL125_5.out) hb)
                          have n4_ := Aside0.mk (IsS44.below (by repeat (first | (with_reducible first | exact HI123.out | apply IsS44.alloc | apply IsS44.drewN | apply IsS44.drew | apply IsS44.set_0) | exact HI123.out)) hb)
                          have n5_ := Aside0.mk (Kd.C_below (by repeat (first | (with_reducible exact HR124_5.out) | (with_reducible refine Kd.C_alloc ?_ _) | (with_reducible refine Kd.C_drewN ?_ _) | (with_reducible refine Kd.C_drew ?_) | exact HR124_5.out)) hb)
                          have n6_ := Aside0.mk (Kd.C_below (by repeat (first | (with_reducible exact HR125_5.out) | (with_reducible refine Kd.C_alloc ?_ _) | (with_reducible refine Kd.C_drewN ?_ _) | (with_reducible refine Kd.C_drew ?_) | exact HR125_5.out)) hb)
                          have n7_ := Aside0.mk (below_step (by repeat (first | (with_reducible first | exact HB.out | apply below_alloc | apply pw_below_drewN | apply below_drew1 | refine below_set ?_ (IsS44.ge HI123.out)) | exact HB.out)) hb)
                          clear HO_6
                          clear HO_7
                          clear HL124_5
                          clear HL125_5
                          clear HI123
                          clear HR124_5
                          clear HR125_5
                          clear HB
                          have HO_6 := n0_
                          have HO_7 := n1_
                          have HL124_5 := n2_
                          have HL125_5 := n3_
                          have HL136_5 := HL125_5
                          have HR136_5 := Aside0.mk (Kd.R_reads' HL136_5.out).2.2
                          have HI123 := n4_
                          have HR124_5 := n5_
                          have HR125_5 := n6_
                          have HB := n7_
                          clear n0_ n1_ n2_ n3_ n4_ n5_ n6_ n7_
                          (try clear hb)
                          (try clear hb2)
                          (try clear hk)
                          (try clear hi)
                          refine hK.out _ _ ⟨HS0_, HS1_, HS2_, HS3_, HS4_, HS5_, HS6_, HS7_, HS8_, HS9_, HS10_, HS11_, HS12_, HS13_, HS14_, HS15_, HS16_, HS17_⟩ (fun hHeld => ?_)
                          clear hK K
                          refine norm_ (a' := ?_) ?_ ?_
                          rotate_left
                          · show Act.put _ (some 49) _ = _
                            simp only [Act.put, List.setIfInBounds_toArray, List.set_cons_zero, List.set_cons_succ, i64_w, i32_w]
                            rfl
                          refine pure_ (i := 9) (N := some 50) (v := ?_) (a' := ?_) #[true, true, true, true, true, true, true, true, true, true, false, false, false, false, false, false, false, false, false, false, false, false, false, false] rfl rfl (any_of HT_.out (by kernel_rfl)) (fun _ _ _ h => h) (Or.inl ⟨by rfl, ?_⟩) ?_ ?_
                          rotate_left
                          · intro w'
                            go_simp
                            with_reducible rfl
                          rotate_left
                          · simp only [Act.put, List.setIfInBounds_toArray, List.set_cons_zero, List.set_cons_succ, i64_w, i32_w]
                            rfl
                          refine pure_ (i := 10) (N := some 51) (v := ?_) (a' := ?_) #[true, true, true, true, true, true, true, true, true, true, true, false, false, false, false, false, false, false, false, false, false, false, false, false] rfl rfl (any_of HT_.out (by kernel_rfl)) (fun _ _ _ h => h) (Or.inl ⟨by rfl, ?_⟩) ?_ ?_
                          rotate_left
                          · intro w'
                            go_simp
                            with_reducible rfl
                          rotate_left
                          · simp only [Act.put, List.setIfInBounds_toArray, List.set_cons_zero, List.set_cons_succ, i64_w, i32_w]
                            rfl
                          refine pure_ (i := 11) (N := some 52) (v := ?_) (a' := ?_) #[true, true, true, true, true, true, true, true, true, true, true, true, false, false, false, false, false, false, false, false, false, false, false, false] rfl rfl (any_of HT_.out (by kernel_rfl)) (fun _ _ _ h => h) (Or.inl ⟨by rfl, ?_⟩) ?_ ?_
                          rotate_left
                          · intro w'
                            go_simp
                            with_reducible rfl
                          rotate_left
                          · simp only [Act.put, List.setIfInBounds_toArray, List.set_cons_zero, List.set_cons_succ, i64_w, i32_w]
                            rfl
                          refine pure_ (i := 12) (N := some 53) (v := ?_) (a' := ?_) #[true, true, true, true, true, true, true, true, true, true, true, true, true, false, false, false, false, false, false, false, false, false, false, false] rfl rfl (any_of HT_.out (by kernel_rfl)) (fun _ _ _ h => h) (Or.inl ⟨by rfl, ?_⟩) ?_ ?_
                          rotate_left
                          · intro w'
                            go_simp
                            with_reducible rfl
                          rotate_left
                          · simp only [Act.put, List.setIfInBounds_toArray, List.set_cons_zero, List.set_cons_succ, i64_w, i32_w]
                            rfl
                          refine pure_ (i := 13) (N := some 54) (v := ?_) (a' := ?_) #[true, true, true, true, true, true, true, true, true, true, true, true, true, true, false, false, false, false, false, false, false, false, false, false] rfl rfl (any_of HT_.out (by kernel_rfl)) (fun _ _ _ h => h) (Or.inl ⟨by rfl, ?_⟩) ?_ ?_
                          rotate_left
                          · intro w'
                            go_simp
                            with_reducible rfl
                          rotate_left
                          · simp only [Act.put, List.setIfInBounds_toArray, List.set_cons_zero, List.set_cons_succ, i64_w, i32_w]
                            rfl
                          refine pure_ (i := 14) (N := some 55) (v := ?_) (a' := ?_) #[true, true, true, true, true, true, true, true, true, true, true, true, true, true, true, false, false, false, false, false, false, false, false, false] rfl rfl (any_of HT_.out (by kernel_rfl)) (fun _ _ _ h => h) (Or.inl ⟨by rfl, ?_⟩) ?_ ?_
                          rotate_left
                          · intro w'
                            go_simp
                            with_reducible rfl
                          rotate_left
                          · simp only [Act.put, List.setIfInBounds_toArray, List.set_cons_zero, List.set_cons_succ, i64_w, i32_w]
                            rfl
                          refine pure_ (i := 16) (N := some 57) (v := ?_) (a' := ?_) #[true, true, true, true, true, true, true, true, true, true, true, true, true, true, true, false, true, false, false, false, false, false, false, false] rfl rfl (any_of HT_.out (by kernel_rfl)) (fun _ _ _ h => h) (Or.inl ⟨by rfl, ?_⟩) ?_ ?_
                          rotate_left
                          · intro w'
                            go_simp
                            with_reducible rfl
                          rotate_left
                          · simp only [Act.put, List.setIfInBounds_toArray, List.set_cons_zero, List.set_cons_succ, i64_w, i32_w]
                            rfl
                          refine pure_ (i := 17) (N := some 58) (v := ?_) (a' := ?_) #[true, true, true, true, true, true, true, true, true, true, true, true, true, true, true, false, true, true, false, false, false, false, false, false] rfl rfl (any_of HT_.out (by kernel_rfl)) (fun _ _ _ h => h) (Or.inl ⟨by rfl, ?_⟩) ?_ ?_
                          rotate_left
                          · intro w'
                            go_simp
                            with_reducible rfl
                          rotate_left
                          · simp only [Act.put, List.setIfInBounds_toArray, List.set_cons_zero, List.set_cons_succ, i64_w, i32_w]
                            rfl
                          refine pure_ (i := 18) (N := some 59) (v := ?_) (a' := ?_) #[true, true, true, true, true, true, true, true, true, true, true, true, true, true, true, false, true, true, true, false, false, false, false, false] rfl rfl (any_of HT_.out (by kernel_rfl)) (fun _ _ _ h => h) (Or.inl ⟨by rfl, ?_⟩) ?_ ?_
                          rotate_left
                          · intro w'
                            go_simp
                            with_reducible rfl
                          rotate_left
                          · simp only [Act.put, List.setIfInBounds_toArray, List.set_cons_zero, List.set_cons_succ, i64_w, i32_w]
                            rfl
                          refine take_ (i := 19) (N := some 60) (v := ?_) (a' := ?_) #[true, true, true, true, true, true, true, true, true, true, true, true, true, true, true, false, true, true, true, true, false, false, false, false] rfl rfl (take_ofW HT_.out HW_.out (by kernel_rfl)) (fun _ _ _ h => h) (Or.inl ⟨by rfl, ?_⟩) hHeld ?_ ?_
                          rotate_left
                          · rintro w' ⟨s0, s1, s2, s3, s4, s5, s6, s7, s8, s9, s10, s11, s12, s13, s14, s15, s16, s17⟩
                            go_simp
                            with_reducible rfl
                          rotate_left
                          · simp only [Act.put, List.setIfInBounds_toArray, List.set_cons_zero, List.set_cons_succ, i64_w, i32_w]
                            rfl
                          refine one_ (i := 15) (N := some 56) #[true, true, true, true, true, true, true, true, true, true, true, true, true, true, true, true, true, true, true, true, false, false, false, false] rfl rfl (one_of HT_.out (by kernel_rfl)) (by decide) (fun K hK => ?_)
                          refine goes_ Try.func15 (by kernel_rfl) rfl #[.pointer (some ⟨g123, 0, none⟩)] (by rfl) rfl rfl (by (try simp only [List.map_toArray, List.map_cons, List.map_nil]); first | done | rfl | (simp only [List.length_drop, List.length_take]; rfl)) ?_
                          with_reducible refine (lots_Lot_Call.calls g123 x124000_2 t127 t128 t129 t130 t131 t132 t135 w _ ?side1 ?side2 A24.out).mono ?_
                          (case side1 => repeat (first | (with_reducible first | exact HI123.out | apply IsS44.alloc | apply IsS44.drewN | apply IsS44.drew | apply IsS44.set_0) | exact HI123.out))
                          (case side2 => repeat (first | (with_reducible first | exact HB.out | apply below_alloc | apply pw_below_drewN | apply below_drew1 | refine below_set ?_ (IsS44.ge HI123.out)) | exact HB.out))
                          rintro e w34 ⟨v133, rfl, ho0, hi, hb, hk⟩
                          have HS0_ := keep_cell hk (hHeld.1) (by first | (rw [add_block]; exact Kd.own_blk (IsS44.own_neS HI123.out HO_6.out (by decide))) | (show (Addr.add _ _).block ≠ _; rw [add_block]; exact Kd.own_blk (IsS44.own_neS HI123.out HO_6.out (by decide))) | exact Kd.own_blk (IsS44.own_neS HI123.out HO_6.out (by decide)))
                          have HS1_ := keep_cell hk (hHeld.2.1) (by first | (rw [add_block]; exact Kd.own_blk (IsS44.own_neS HI123.out HO_6.out (by decide))) | (show (Addr.add _ _).block ≠ _; rw [add_block]; exact Kd.own_blk (IsS44.own_neS HI123.out HO_6.out (by decide))) | exact Kd.own_blk (IsS44.own_neS HI123.out HO_6.out (by decide)))
                          have HS2_ := keep_cell hk (hHeld.2.2.1) (by first | (rw [add_block]; exact Kd.own_blk (IsS44.own_neS HI123.out HO_6.out (by decide))) | (show (Addr.add _ _).block ≠ _; rw [add_block]; exact Kd.own_blk (IsS44.own_neS HI123.out HO_6.out (by decide))) | exact Kd.own_blk (IsS44.own_neS HI123.out HO_6.out (by decide)))
                          have HS3_ := keep_cell hk (hHeld.2.2.2.1) (by first | (rw [add_block]; exact Kd.own_blk (IsS44.own_neS HI123.out HO_6.out (by decide))) | (show (Addr.add _ _).block ≠ _; rw [add_block]; exact Kd.own_blk (IsS44.own_neS HI123.out HO_6.out (by decide))) | exact Kd.own_blk (IsS44.own_neS HI123.out HO_6.out (by decide)))
                          have HS4_ := keep_cell hk (hHeld.2.2.2.2.1) (by first | (rw [add_block]; exact Kd.own_blk (IsS44.own_neS HI123.out HO_6.out (by decide))) | (show (Addr.add _ _).block ≠ _; rw [add_block]; exact Kd.own_blk (IsS44.own_neS HI123.out HO_6.out (by decide))) | exact Kd.own_blk (IsS44.own_neS HI123.out HO_6.out (by decide)))
                          have HS5_ := keep_cell hk (hHeld.2.2.2.2.2.1) (by first | (rw [add_block]; exact Kd.own_blk (IsS44.own_neS HI123.out HO_6.out (by decide))) | (show (Addr.add _ _).block ≠ _; rw [add_block]; exact Kd.own_blk (IsS44.own_neS HI123.out HO_6.out (by decide))) | exact Kd.own_blk (IsS44.own_neS HI123.out HO_6.out (by decide)))
                          have HS6_ := keep_cell hk (hHeld.2.2.2.2.2.2.1) (by first | (rw [add_block]; exact Kd.own_blk (IsS44.own_neS HI123.out HO_7.out (by decide))) | (show (Addr.add _ _).block ≠ _; rw [add_block]; exact Kd.own_blk (IsS44.own_neS HI123.out HO_7.out (by decide))) | exact Kd.own_blk (IsS44.own_neS HI123.out HO_7.out (by decide)))
                          have HS7_ := keep_cell hk (hHeld.2.2.2.2.2.2.2.1) (by first | (rw [add_block]; exact Kd.own_blk (IsS44.own_neS HI123.out HO_7.out (by decide))) | (show (Addr.add _ _).block ≠ _; rw [add_block]; exact Kd.own_blk (IsS44.own_neS HI123.out HO_7.out (by decide))) | exact Kd.own_blk (IsS44.own_neS HI123.out HO_7.out (by decide)))
                          have HS8_ := keep_cell hk (hHeld.2.2.2.2.2.2.2.2.1) (by first | (rw [add_block]; exact Kd.own_blk (IsS44.own_neS HI123.out HO_7.out (by decide))) | (show (Addr.add _ _).block ≠ _; rw [add_block]; exact Kd.own_blk (IsS44.own_neS HI123.out HO_7.out (by decide))) | exact Kd.own_blk (IsS44.own_neS HI123.out HO_7.out (by decide)))
                          have HS9_ := keep_cell hk (hHeld.2.2.2.2.2.2.2.2.2.1) (by first | (rw [add_block]; exact Kd.own_blk (IsS44.own_neS HI123.out HO_7.out (by decide))) | (show (Addr.add _ _).block ≠ _; rw [add_block]; exact Kd.own_blk (IsS44.own_neS HI123.out HO_7.out (by decide))) | exact Kd.own_blk (IsS44.own_neS HI123.out HO_7.out (by decide)))
                          have HS10_ := keep_cell hk (hHeld.2.2.2.2.2.2.2.2.2.2.1) (by first | (rw [add_block]; exact Kd.own_blk (IsS44.own_neS HI123.out HO_7.out (by decide))) | (show (Addr.add _ _).block ≠ _; rw [add_block]; exact Kd.own_blk (IsS44.own_neS HI123.out HO_7.out (by decide))) | exact Kd.own_blk (IsS44.own_neS HI123.out HO_7.out (by decide)))
                          have HS11_ := keep_cell hk (hHeld.2.2.2.2.2.2.2.2.2.2.2.1) (by first | (rw [add_block]; exact Kd.own_blk (IsS44.own_neS HI123.out HO_7.out (by decide))) | (show (Addr.add _ _).block ≠ _; rw [add_block]; exact Kd.own_blk (IsS44.own_neS HI123.out HO_7.out (by decide))) | exact Kd.own_blk (IsS44.own_neS HI123.out HO_7.out (by decide)))
                          have HS12_ := keep_cell hk (hHeld.2.2.2.2.2.2.2.2.2.2.2.2.1) (by first | (rw [add_block]; exact Kd.own_blk (IsS44.own_neS HI123.out HO_7.out (by decide))) | (show (Addr.add _ _).block ≠ _; rw [add_block]; exact Kd.own_blk (IsS44.own_neS HI123.out HO_7.out (by decide))) | exact Kd.own_blk (IsS44.own_neS HI123.out HO_7.out (by decide)))
                          have HS13_ := keep_cell hk (hHeld.2.2.2.2.2.2.2.2.2.2.2.2.2.1) (by first | (rw [add_block]; exact Kd.own_blk (IsS44.own_neS HI123.out HO_7.out (by decide))) | (show (Addr.add _ _).block ≠ _; rw [add_block]; exact Kd.own_blk (IsS44.own_neS HI123.out HO_7.out (by decide))) | exact Kd.own_blk (IsS44.own_neS HI123.out HO_7.out (by decide)))
                          have HS14_ := keep_cell hk (hHeld.2.2.2.2.2.2.2.2.2.2.2.2.2.2.1) (by first | (rw [add_block]; exact Kd.own_blk (IsS44.own_neS HI123.out HO_7.out (by decide))) | (show (Addr.add _ _).block ≠ _; rw [add_block]; exact Kd.own_blk (IsS44.own_neS HI123.out HO_7.out (by decide))) | exact Kd.own_blk (IsS44.own_neS HI123.out HO_7.out (by decide)))
                          have HS15_ := keep_cell hk (hHeld.2.2.2.2.2.2.2.2.2.2.2.2.2.2.2.1) (by first | (rw [add_block]; exact Kd.own_blk (IsS44.own_neS HI123.out HO_7.out (by decide))) | (show (Addr.add _ _).block ≠ _; rw [add_block]; exact Kd.own_blk (IsS44.own_neS HI123.out HO_7.out (by decide))) | exact Kd.own_blk (IsS44.own_neS HI123.out HO_7.out (by decide)))
                          have HS16_ := keep_cell hk (hHeld.2.2.2.2.2.2.2.2.2.2.2.2.2.2.2.2.1) (by first | (rw [add_block]; exact Kd.own_blk (IsS44.own_neS HI123.out HO_7.out (by decide))) | (show (Addr.add _ _).block ≠ _; rw [add_block]; exact Kd.own_blk (IsS44.own_neS HI123.out HO_7.out (by decide))) | exact Kd.own_blk (IsS44.own_neS HI123.out HO_7.out (by decide)))
                          have HS17_ := keep_cell hk (hHeld.2.2.2.2.2.2.2.2.2.2.2.2.2.2.2.2.2) (by first | (rw [add_block]; exact Kd.own_blk (IsS44.own_neS HI123.out HO_7.out (by decide))) | (show (Addr.add _ _).block ≠ _; rw [add_block]; exact Kd.own_blk (IsS44.own_neS HI123.out HO_7.out (by decide))) | exact Kd.own_blk (IsS44.own_neS HI123.out HO_7.out (by decide)))
                          refine ⟨_, rfl, ?_⟩
                          have n0_ := Aside0.mk (Kd.S_mono (Kd.S_told (Kd.S_oldK (IsS44.apartS (show IsS44 w _ g123 x124000_2 from by repeat (first | (with_reducible first | exact HI123.out | apply IsS44.alloc | apply IsS44.drewN | apply IsS44.drew | apply IsS44.set_0) | exact HI123.out)) (by (with_reducible repeat (first | apply Kd.S_alloc | apply Kd.S_drewN | apply Kd.S_drew)); exact HO_6.out) (by decide)) hk) (Kd.R_base ho0)) (fun _ h_ => h_.1))
                          have n1_ := Aside0.mk (Kd.S_mono (Kd.S_told (Kd.S_oldK (IsS44.apartS (show IsS44 w _ g123 x124000_2 from by repeat (first | (with_reducible first | exact HI123.out | apply IsS44.alloc | apply IsS44.drewN | apply IsS44.drew | apply IsS44.set_0) | exact HI123.out)) (by (with_reducible repeat (first | apply Kd.S_alloc | apply Kd.S_drewN | apply Kd.S_drew)); exact HO_7.out) (by decide)) hk) (Kd.R_base ho0)) (fun _ h_ => h_.1))
                          have n2_ := Aside0.mk (Kd.R_mono (Kd.R_told (Kd.R_oldK (IsS44.apart (show IsS44 w _ g123 x124000_2 from by repeat (first | (with_reducible first | exact HI123.out | apply IsS44.alloc | apply IsS44.drewN | apply IsS44.drew | apply IsS44.set_0) | exact HI123.out)) (by (with_reducible repeat (first | apply Kd.R_alloc | apply Kd.R_drewN | apply Kd.R_drew)); exact HL124_5.out) (by decide)) hk) (Kd.R_base ho0)) (fun _ h_ => h_.1))
                          have n3_ := Aside0.mk (Kd.R_mono (Kd.R_told (Kd.R_oldK (IsS44.apart (show IsS44 w _ g123 x124000_2 from by repeat (first | (with_reducible first | exact HI123.out | apply IsS44.alloc | apply IsS44.drewN | apply IsS44.drew | apply IsS44.set_0) | exact HI123.out)) (by (with_reducible repeat (first | apply Kd.R_alloc | apply Kd.R_drewN | apply Kd.R_drew)); exact HL125_5.out) (by decide)) hk) (Kd.R_base ho0)) (fun _ h_ => h_.1))
                          have n4_ := Aside0.mk (Kd.R_lower (Kd.R_new' (Kd.R_new' ho0 (Kd.R_lt (by (with_reducible repeat (first | apply Kd.R_alloc | apply Kd.R_drewN | apply Kd.R_drew)); exact HL124_5.out))) (Kd.R_lt (by (with_reducible repeat (first | apply Kd.R_alloc | apply Kd.R_drewN | apply Kd.R_drew)); exact HL125_5.out))) (below_size (by repeat (first | (with_reducible first | exact HB.out | apply below_alloc | apply pw_below_drewN | apply below_drew1 | refine below_set ?_ (IsS44.ge HI123.out)) | exact HB.out))))
                          have n5_ := Aside0.mk (hb)
                          have n6_ := Aside0.mk (hi)
                          clear HO_6
                          clear HO_7
                          clear HL124_5
                          clear HL125_5
                          clear HB
                          clear HI123
                          have HO_6 := n0_
                          have HO_7 := n1_
                          have HL124_5 := n2_
                          have HL125_5 := n3_
                          have HL136_5 := HL125_5
                          have HR136_5 := Aside0.mk (Kd.R_reads' HL136_5.out).2.2
                          have HO134 := n4_
                          have HB := n5_
                          have HI123 := n6_
                          clear n0_ n1_ n2_ n3_ n4_ n5_ n6_
                          (try clear hb)
                          (try clear hb2)
                          (try clear hk)
                          (try clear hi)
                          (try clear ho0)
                          obtain ⟨Ao35, co35, eo35⟩ := Kd.R_slice HO134.out
                          (first | subst eo35 | (injection eo35 with f1_ f2_ f3_; have f4_ := f1_.symm; have f5_ := f3_.symm; clear f1_ f2_ f3_; subst f4_; subst f5_))
                          refine hK.out _ _ ⟨HS0_, HS1_, HS2_, HS3_, HS4_, HS5_, HS6_, HS7_, HS8_, HS9_, HS10_, HS11_, HS12_, HS13_, HS14_, HS15_, HS16_, HS17_⟩ (fun hHeld => ?_)
                          clear hK K
                          refine norm_ (a' := ?_) ?_ ?_
                          rotate_left
                          · show Act.put _ (some 56) _ = _
                            simp only [Act.put, List.setIfInBounds_toArray, List.set_cons_zero, List.set_cons_succ, i64_w, i32_w]
                            rfl
                          refine one_ (i := 20) (N := some 61) #[true, true, true, true, true, true, true, true, true, true, true, true, true, true, true, true, true, true, true, true, true, false, false, false] rfl rfl (one_of HT_.out (by kernel_rfl)) (by decide) (fun K hK => ?_)
                          refine goes_ Try.func14 (by kernel_rfl) rfl #[.agg #[.int .i64 t127, .string t128, .string t129, .int .i64 t130, .int .i64 t131, .slice Ao35 t132.length co35], .agg #[.int .i64 ((rd_T35 t119 x9_2).f0), .string ((rd_T35 t119 x9_2).f1), .string ((rd_T35 t119 x9_2).f2), .int .i64 ((rd_T35 t119 x9_2).f3), .int .i64 ((rd_T35 t119 x9_2).f4), .slice A125_5 ((rd_T35 t119 x9_2).f5).length c125_5]] (by rfl) rfl rfl (by (try simp only [List.map_toArray, List.map_cons, List.map_nil]); first | done | rfl | (simp only [List.length_drop, List.length_take]; rfl)) ?_
                          with_reducible refine (lockgateref28_SameCall.calls t127 t128 t129 t130 t131 _ _ t132 ((rd_T35 t119 x9_2).f0) ((rd_T35 t119 x9_2).f1) ((rd_T35 t119 x9_2).f2) ((rd_T35 t119 x9_2).f3) ((rd_T35 t119 x9_2).f4) _ _ ((rd_T35 t119 x9_2).f5) false _ ?side1 ?side2 ?side3 ?side4 A25.out).mono ?_
                          (case side1 => repeat (first | exact (Kd.R_reads' HO134.out).2.2 | (with_reducible refine Kd.C_alloc ?_ _) | (with_reducible refine Kd.C_drewN ?_ _) | (with_reducible refine Kd.C_drew ?_)))
                          (case side2 => exact (Kd.R_reads' HO134.out).2.1)
                          (case side3 => repeat (first | exact (by repeat (first | (with_reducible exact HR136_5.out) | (with_reducible refine Kd.C_alloc ?_ _) | (with_reducible refine Kd.C_drewN ?_ _) | (with_reducible refine Kd.C_drew ?_) | exact HR136_5.out)) | (with_reducible refine Kd.C_alloc ?_ _) | (with_reducible refine Kd.C_drewN ?_ _) | (with_reducible refine Kd.C_drew ?_)))
                          (case side4 => exact HC136_5.out)
                          rintro e w36 ⟨rfl, hb⟩
                          have HS0_ := (hb.cell (World.block_lt_of_cell? _ _ (hHeld.1))).trans (hHeld.1)
                          have HS1_ := (hb.cell (World.block_lt_of_cell? _ _ (hHeld.2.1))).trans (hHeld.2.1)
                          have HS2_ := (hb.cell (World.block_lt_of_cell? _ _ (hHeld.2.2.1))).trans (hHeld.2.2.1)
                          have HS3_ := (hb.cell (World.block_lt_of_cell? _ _ (hHeld.2.2.2.1))).trans (hHeld.2.2.2.1)
                          have HS4_ := (hb.cell (World.block_lt_of_cell? _ _ (hHeld.2.2.2.2.1))).trans (hHeld.2.2.2.2.1)
                          have HS5_ := (hb.cell (World.block_lt_of_cell? _ _ (hHeld.2.2.2.2.2.1))).trans (hHeld.2.2.2.2.2.1)
                          have HS6_ := (hb.cell (World.block_lt_of_cell? _ _ (hHeld.2.2.2.2.2.2.1))).trans (hHeld.2.2.2.2.2.2.1)
                          have HS7_ := (hb.cell (World.block_lt_of_cell? _ _ (hHeld.2.2.2.2.2.2.2.1))).trans (hHeld.2.2.2.2.2.2.2.1)
                          have HS8_ := (hb.cell (World.block_lt_of_cell? _ _ (hHeld.2.2.2.2.2.2.2.2.1))).trans (hHeld.2.2.2.2.2.2.2.2.1)
                          have HS9_ := (hb.cell (World.block_lt_of_cell? _ _ (hHeld.2.2.2.2.2.2.2.2.2.1))).trans (hHeld.2.2.2.2.2.2.2.2.2.1)
                          have HS10_ := (hb.cell (World.block_lt_of_cell? _ _ (hHeld.2.2.2.2.2.2.2.2.2.2.1))).trans (hHeld.2.2.2.2.2.2.2.2.2.2.1)
                          have HS11_ := (hb.cell (World.block_lt_of_cell? _ _ (hHeld.2.2.2.2.2.2.2.2.2.2.2.1))).trans (hHeld.2.2.2.2.2.2.2.2.2.2.2.1)
                          have HS12_ := (hb.cell (World.block_lt_of_cell? _ _ (hHeld.2.2.2.2.2.2.2.2.2.2.2.2.1))).trans (hHeld.2.2.2.2.2.2.2.2.2.2.2.2.1)
                          have HS13_ := (hb.cell (World.block_lt_of_cell? _ _ (hHeld.2.2.2.2.2.2.2.2.2.2.2.2.2.1))).trans (hHeld.2.2.2.2.2.2.2.2.2.2.2.2.2.1)
                          have HS14_ := (hb.cell (World.block_lt_of_cell? _ _ (hHeld.2.2.2.2.2.2.2.2.2.2.2.2.2.2.1))).trans (hHeld.2.2.2.2.2.2.2.2.2.2.2.2.2.2.1)
                          have HS15_ := (hb.cell (World.block_lt_of_cell? _ _ (hHeld.2.2.2.2.2.2.2.2.2.2.2.2.2.2.2.1))).trans (hHeld.2.2.2.2.2.2.2.2.2.2.2.2.2.2.2.1)
                          have HS16_ := (hb.cell (World.block_lt_of_cell? _ _ (hHeld.2.2.2.2.2.2.2.2.2.2.2.2.2.2.2.2.1))).trans (hHeld.2.2.2.2.2.2.2.2.2.2.2.2.2.2.2.2.1)
                          have HS17_ := (hb.cell (World.block_lt_of_cell? _ _ (hHeld.2.2.2.2.2.2.2.2.2.2.2.2.2.2.2.2.2))).trans (hHeld.2.2.2.2.2.2.2.2.2.2.2.2.2.2.2.2.2)
                          refine ⟨_, rfl, ?_⟩
                          have n0_ := Aside0.mk (Kd.S_below (by (with_reducible repeat (first | apply Kd.S_alloc | apply Kd.S_drewN | apply Kd.S_drew)); exact HO_6.out) hb)
                          have n1_ := Aside0.mk (Kd.S_below (by (with_reducible repeat (first | apply Kd.S_alloc | apply Kd.S_drewN | apply Kd.S_drew)); exact HO_7.out) hb)
                          have n2_ := Aside0.mk (Kd.R_below (by (with_reducible repeat (first | apply Kd.R_alloc | apply Kd.R_drewN | apply Kd.R_drew)); exact HL124_5.out) hb)
                          have n3_ := Aside0.mk (Kd.R_below (by (with_reducible repeat (first | apply Kd.R_alloc | apply Kd.R_drewN | apply Kd.R_drew)); exact HL125_5.out) hb)
                          have n4_ := Aside0.mk (Kd.R_below (by (with_reducible repeat (first | apply Kd.R_alloc | apply Kd.R_drewN | apply Kd.R_drew)); exact HO134.out) hb)
                          have n5_ := Aside0.mk (Kd.R_below (by (with_reducible repeat (first | apply Kd.R_alloc | apply Kd.R_drewN | apply Kd.R_drew)); exact HL136_5.out) hb)
                          have n6_ := Aside0.mk (IsS44.below (by repeat (first | (with_reducible first | exact HI123.out | apply IsS44.alloc | apply IsS44.drewN | apply IsS44.drew | apply IsS44.set_0) | exact HI123.out)) hb)
                          have n7_ := Aside0.mk (Kd.C_below (by repeat (first | (with_reducible exact HR136_5.out) | (with_reducible refine Kd.C_alloc ?_ _) | (with_reducible refine Kd.C_drewN ?_ _) | (with_reducible refine Kd.C_drew ?_) | exact HR136_5.out)) hb)
                          have n8_ := Aside0.mk (below_step (by repeat (first | (with_reducible first | exact HB.out | apply below_alloc | apply pw_below_drewN | apply below_drew1 | refine below_set ?_ (IsS44.ge HI123.out)) | exact HB.out)) hb)
                          clear HO_6
                          clear HO_7
                          clear HL124_5
                          clear HL125_5
                          clear HO134
                          clear HL136_5
                          clear HI123
                          clear HR136_5
                          clear HB
                          have HO_6 := n0_
                          have HO_7 := n1_
                          have HL124_5 := n2_
                          have HL125_5 := n3_
                          have HL136_5 := HL125_5
                          have HR136_5 := Aside0.mk (Kd.R_reads' HL136_5.out).2.2
                          have HO134 := n4_
                          have HL136_5 := n5_
                          have HI123 := n6_
                          have HR136_5 := n7_
                          have HB := n8_
                          clear n0_ n1_ n2_ n3_ n4_ n5_ n6_ n7_ n8_
                          (try clear hb)
                          (try clear hb2)
                          (try clear hk)
                          (try clear hi)
                          refine hK.out _ _ ⟨HS0_, HS1_, HS2_, HS3_, HS4_, HS5_, HS6_, HS7_, HS8_, HS9_, HS10_, HS11_, HS12_, HS13_, HS14_, HS15_, HS16_, HS17_⟩ (fun hHeld => ?_)
                          clear hK K
                          refine norm_ (a' := ?_) ?_ ?_
                          rotate_left
                          · show Act.put _ (some 61) _ = _
                            simp only [Act.put, List.setIfInBounds_toArray, List.set_cons_zero, List.set_cons_succ, i64_w, i32_w]
                            rfl
                          refine pure_ (i := 21) (N := some 62) (v := ?_) (a' := ?_) #[true, true, true, true, true, true, true, true, true, true, true, true, true, true, true, true, true, true, true, true, true, true, false, false] rfl rfl (any_of HT_.out (by kernel_rfl)) (fun _ _ _ h => h) (Or.inl ⟨by rfl, ?_⟩) ?_ ?_
                          rotate_left
                          · intro w'
                            go_simp
                            with_reducible rfl
                          rotate_left
                          · simp only [Act.put, List.setIfInBounds_toArray, List.set_cons_zero, List.set_cons_succ, i64_w, i32_w]
                            rfl
                          refine pure_ (i := 22) (N := some 63) (v := ?_) (a' := ?_) #[true, true, true, true, true, true, true, true, true, true, true, true, true, true, true, true, true, true, true, true, true, true, true, false] rfl rfl (any_of HT_.out (by kernel_rfl)) (fun _ _ _ h => h) (Or.inl ⟨by rfl, ?_⟩) ?_ ?_
                          rotate_left
                          · intro w'
                            go_simp
                            with_reducible rfl
                          rotate_left
                          · simp only [Act.put, List.setIfInBounds_toArray, List.set_cons_zero, List.set_cons_succ, i64_w, i32_w]
                            rfl
                          refine pure_ (i := 23) (N := some 64) (v := ?_) (a' := ?_) #[true, true, true, true, true, true, true, true, true, true, true, true, true, true, true, true, true, true, true, true, true, true, true, true] rfl rfl (any_of HT_.out (by kernel_rfl)) (fun _ _ _ h => h) (Or.inl ⟨by rfl, ?_⟩) ?_ ?_
                          rotate_left
                          · intro w'
                            go_simp
                            with_reducible rfl
                          rotate_left
                          · simp only [Act.put, List.setIfInBounds_toArray, List.set_cons_zero, List.set_cons_succ, i64_w, i32_w]
                            rfl
                          refine done_ (done_of HT_.out (by kernel_rfl)) ?_
                          try go_wp2
                          go_ret
                          exact ⟨by first | rfl | (simp [errW_none, errW_some] <;> rfl) | (simp [*, errW_none, errW_some] <;> rfl), by repeat (first | (with_reducible first | exact HB.out | apply below_alloc | apply pw_below_drewN | apply below_drew1 | refine below_set ?_ (IsS44.ge HI123.out)) | exact HB.out)⟩
                      · rw [if_neg c23] at H
                        have c23b0 : decide (x9_2 < 50) = false := decide_eq_false c23
                        clear c23
                        have H' := Aside0.mk H
                        clear H
                        try go_wp2
                        have n0_ := Aside0.mk (Kd.S_drew HO_6.out)
                        have n1_ := Aside0.mk (Kd.S_drew HO_7.out)
                        have n2_ := Aside0.mk (IsS44.drew HI123.out)
                        have n3_ := Aside0.mk (below_drew1 HB.out)
                        clear HO_6
                        clear HO_7
                        clear HI123
                        clear HB
                        have HO_6 := n0_
                        have HO_7 := n1_
                        have HI123 := n2_
                        have HB := n3_
                        clear n0_ n1_ n2_ n3_
                        have p124 : 0 ≤ (x9_2 : Int) := of_decide_eq_true (by first | (with_reducible assumption) | assumption)
                        have q124 : x9_2 < (t116.length : Int) := of_decide_eq_true (by first | (with_reducible assumption) | assumption)
                        obtain ⟨ad124, A124_5, c124_5, e124, hx124_0, hx124_1, hx124_2, hx124_3, hx124_4, hx124_5, hl124_5, hi124_5⟩ := at_T35 (Kd.S_reads' HO_6.out).2.2 x9_2 p124 q124
                        cases e124
                        obtain ⟨ce124, hce124, hMe124, hcc124⟩ := Kd.S_get HO_6.out z35 x9_2 p124 (by first | exact q124 | exact of_decide_eq_true (by first | (with_reducible assumption) | assumption) | (have e_ := (Kd.S_reads' HO_6.out).1; omega))
                        obtain ⟨ve124_5, rfl, ge124_5⟩ := k35_openM hMe124
                        have hv124_5 := hcc124 5 _ rfl
                        rw [add_field _ _ 5 (by omega)] at hv124_5
                        replace hv124_5 := Option.some.inj (hv124_5.symm.trans hx124_5)
                        rw [hv124_5] at ge124_5
                        have HL124_5 := Aside0.mk (show Kd.R (Kd.int .u8) 5 _ _ _ _ ((rd_T35 t116 x9_2).f5) from ge124_5)
                        clear hv124_5 ge124_5
                        clear hcc124 hce124
                        have HR124_5 := Aside0.mk hi124_5
                        have HC124_5 := Aside0.mk hl124_5
                        clear hi124_5 hl124_5
                        replace p124 := eq_true p124
                        replace q124 := eq_true q124
                        have p125 : 0 ≤ (x9_2 : Int) := of_decide_eq_true (by first | (with_reducible assumption) | assumption)
                        have q125 : x9_2 < (t119.length : Int) := of_decide_eq_true (by first | (with_reducible assumption) | assumption)
                        obtain ⟨ad125, A125_5, c125_5, e125, hx125_0, hx125_1, hx125_2, hx125_3, hx125_4, hx125_5, hl125_5, hi125_5⟩ := at_T35 (Kd.S_reads' HO_7.out).2.2 x9_2 p125 q125
                        cases e125
                        obtain ⟨ce125, hce125, hMe125, hcc125⟩ := Kd.S_get HO_7.out z35 x9_2 p125 (by first | exact q125 | exact of_decide_eq_true (by first | (with_reducible assumption) | assumption) | (have e_ := (Kd.S_reads' HO_7.out).1; omega))
                        obtain ⟨ve125_5, rfl, ge125_5⟩ := k35_openM hMe125
                        have hv125_5 := hcc125 5 _ rfl
                        rw [add_field _ _ 5 (by omega)] at hv125_5
                        replace hv125_5 := Option.some.inj (hv125_5.symm.trans hx125_5)
                        rw [hv125_5] at ge125_5
                        have HL125_5 := Aside0.mk (show Kd.R (Kd.int .u8) 5 _ _ _ _ ((rd_T35 t119 x9_2).f5) from ge125_5)
                        clear hv125_5 ge125_5
                        clear hcc125 hce125
                        have HR125_5 := Aside0.mk hi125_5
                        have HC125_5 := Aside0.mk hl125_5
                        clear hi125_5 hl125_5
                        replace p125 := eq_true p125
                        replace q125 := eq_true q125
                        refine start_ (n := 24) (S := fun w' => w'.cell? (ad124.add ((x9_2).toNat * 6)) = some (.int .i64 ((rd_T35 t116 x9_2).f0)) ∧ w'.cell? ⟨(ad124.add ((x9_2).toNat * 6)).block, (ad124.add ((x9_2).toNat * 6)).off + 1, none⟩ = some (.string ((rd_T35 t116 x9_2).f1)) ∧ w'.cell? ⟨(ad124.add ((x9_2).toNat * 6)).block, (ad124.add ((x9_2).toNat * 6)).off + 2, none⟩ = some (.string ((rd_T35 t116 x9_2).f2)) ∧ w'.cell? ⟨(ad124.add ((x9_2).toNat * 6)).block, (ad124.add ((x9_2).toNat * 6)).off + 3, none⟩ = some (.int .i64 ((rd_T35 t116 x9_2).f3)) ∧ w'.cell? ⟨(ad124.add ((x9_2).toNat * 6)).block, (ad124.add ((x9_2).toNat * 6)).off + 4, none⟩ = some (.int .i64 ((rd_T35 t116 x9_2).f4)) ∧ w'.cell? ⟨(ad124.add ((x9_2).toNat * 6)).block, (ad124.add ((x9_2).toNat * 6)).off + 5, none⟩ = some (.slice A124_5 ((rd_T35 t116 x9_2).f5).length c124_5) ∧ w'.cell? (ad125.add ((x9_2).toNat * 6)) = some (.int .i64 ((rd_T35 t119 x9_2).f0)) ∧ w'.cell? ⟨(ad125.add ((x9_2).toNat * 6)).block, (ad125.add ((x9_2).toNat * 6)).off + 1, none⟩ = some (.string ((rd_T35 t119 x9_2).f1)) ∧ w'.cell? ⟨(ad125.add ((x9_2).toNat * 6)).block, (ad125.add ((x9_2).toNat * 6)).off + 2, none⟩ = some (.string ((rd_T35 t119 x9_2).f2)) ∧ w'.cell? ⟨(ad125.add ((x9_2).toNat * 6)).block, (ad125.add ((x9_2).toNat * 6)).off + 3, none⟩ = some (.int .i64 ((rd_T35 t119 x9_2).f3)) ∧ w'.cell? ⟨(ad125.add ((x9_2).toNat * 6)).block, (ad125.add ((x9_2).toNat * 6)).off + 4, none⟩ = some (.int .i64 ((rd_T35 t119 x9_2).f4)) ∧ w'.cell? ⟨(ad125.add ((x9_2).toNat * 6)).block, (ad125.add ((x9_2).toNat * 6)).off + 5, none⟩ = some (.slice A125_5 ((rd_T35 t119 x9_2).f5).length c125_5)) (ds := []) #[false, false, false, false, false, false, false, false, false, false, false, false, false, false, false, false, false, false, false, false, false, false, false, false] (by kernel_rfl) rfl rfl ⟨hx124_0, hx124_1, hx124_2, hx124_3, hx124_4, hx124_5, hx125_0, hx125_1, hx125_2, hx125_3, hx125_4, hx125_5⟩ (fun hHeld => ?_); refine with_tabW lockgatelaw31_LotsCalls.tab12 lockgatelaw31_LotsCalls.bits12 (fun HT_ HW_ => ?_)
                        generalize wr.drew = w37 at HO_6 HO_7 HI123 HB HL124_5 HL125_5 HR124_5 HR125_5 hx124_0 hx124_1 hx124_2 hx124_3 hx124_4 hx124_5 hx125_0 hx125_1 hx125_2 hx125_3 hx125_4 hx125_5 hHeld ⊢
                        refine pure_ (i := 0) (N := some 41) (v := ?_) (a' := ?_) #[true, false, false, false, false, false, false, false, false, false, false, false, false, false, false, false, false, false, false, false, false, false, false, false] rfl rfl (any_of HT_.out (by kernel_rfl)) (fun _ _ _ h => h) (Or.inl ⟨by rfl, ?_⟩) ?_ ?_
                        rotate_left
                        · intro w'
                          go_simp
                          with_reducible rfl
                        rotate_left
                        · simp only [Act.put, List.setIfInBounds_toArray, List.set_cons_zero, List.set_cons_succ, i64_w, i32_w]
                          rfl
                        refine pure_ (i := 1) (N := some 42) (v := ?_) (a' := ?_) #[true, true, false, false, false, false, false, false, false, false, false, false, false, false, false, false, false, false, false, false, false, false, false, false] rfl rfl (any_of HT_.out (by kernel_rfl)) (fun _ _ _ h => h) (Or.inl ⟨by rfl, ?_⟩) ?_ ?_
                        rotate_left
                        · intro w'
                          go_simp
                          with_reducible rfl
                        rotate_left
                        · simp only [Act.put, List.setIfInBounds_toArray, List.set_cons_zero, List.set_cons_succ, i64_w, i32_w]
                          rfl
                        refine pure_ (i := 2) (N := some 43) (v := ?_) (a' := ?_) #[true, true, true, false, false, false, false, false, false, false, false, false, false, false, false, false, false, false, false, false, false, false, false, false] rfl rfl (any_of HT_.out (by kernel_rfl)) (fun _ _ _ h => h) (Or.inl ⟨by rfl, ?_⟩) ?_ ?_
                        rotate_left
                        · intro w'
                          go_simp
                          with_reducible rfl
                        rotate_left
                        · simp only [Act.put, List.setIfInBounds_toArray, List.set_cons_zero, List.set_cons_succ, i64_w, i32_w]
                          rfl
                        refine pure_ (i := 4) (N := some 45) (v := ?_) (a' := ?_) #[true, true, true, false, true, false, false, false, false, false, false, false, false, false, false, false, false, false, false, false, false, false, false, false] rfl rfl (any_of HT_.out (by kernel_rfl)) (fun _ _ _ h => h) (Or.inl ⟨by rfl, ?_⟩) ?_ ?_
                        rotate_left
                        · intro w'
                          go_simp
                          with_reducible rfl
                        rotate_left
                        · simp only [Act.put, List.setIfInBounds_toArray, List.set_cons_zero, List.set_cons_succ, i64_w, i32_w]
                          rfl
                        refine pure_ (i := 5) (N := some 46) (v := ?_) (a' := ?_) #[true, true, true, false, true, true, false, false, false, false, false, false, false, false, false, false, false, false, false, false, false, false, false, false] rfl rfl (any_of HT_.out (by kernel_rfl)) (fun _ _ _ h => h) (Or.inl ⟨by rfl, ?_⟩) ?_ ?_
                        rotate_left
                        · intro w'
                          go_simp
                          with_reducible rfl
                        rotate_left
                        · simp only [Act.put, List.setIfInBounds_toArray, List.set_cons_zero, List.set_cons_succ, i64_w, i32_w]
                          rfl
                        refine pure_ (i := 6) (N := some 47) (v := ?_) (a' := ?_) #[true, true, true, false, true, true, true, false, false, false, false, false, false, false, false, false, false, false, false, false, false, false, false, false] rfl rfl (any_of HT_.out (by kernel_rfl)) (fun _ _ _ h => h) (Or.inl ⟨by rfl, ?_⟩) ?_ ?_
                        rotate_left
                        · intro w'
                          go_simp
                          with_reducible rfl
                        rotate_left
                        · simp only [Act.put, List.setIfInBounds_toArray, List.set_cons_zero, List.set_cons_succ, i64_w, i32_w]
                          rfl
                        refine take_ (i := 3) (N := some 44) (v := ?_) (a' := ?_) #[true, true, true, true, true, true, true, false, false, false, false, false, false, false, false, false, false, false, false, false, false, false, false, false] rfl rfl (take_ofW HT_.out HW_.out (by kernel_rfl)) (fun _ _ _ h => h) (Or.inl ⟨by rfl, ?_⟩) hHeld ?_ ?_
                        rotate_left
                        · rintro w' ⟨s0, s1, s2, s3, s4, s5, s6, s7, s8, s9, s10, s11⟩
                          go_simp
                          with_reducible rfl
                        rotate_left
                        · simp only [Act.put, List.setIfInBounds_toArray, List.set_cons_zero, List.set_cons_succ, i64_w, i32_w]
                          rfl
                        refine take_ (i := 7) (N := some 48) (v := ?_) (a' := ?_) #[true, true, true, true, true, true, true, true, false, false, false, false, false, false, false, false, false, false, false, false, false, false, false, false] rfl rfl (take_ofW HT_.out HW_.out (by kernel_rfl)) (fun _ _ _ h => h) (Or.inl ⟨by rfl, ?_⟩) hHeld ?_ ?_
                        rotate_left
                        · rintro w' ⟨s0, s1, s2, s3, s4, s5, s6, s7, s8, s9, s10, s11⟩
                          go_simp
                          with_reducible rfl
                        rotate_left
                        · simp only [Act.put, List.setIfInBounds_toArray, List.set_cons_zero, List.set_cons_succ, i64_w, i32_w]
                          rfl
                        refine one_ (i := 8) (N := some 49) #[true, true, true, true, true, true, true, true, true, false, false, false, false, false, false, false, false, false, false, false, false, false, false, false] rfl rfl (one_of HT_.out (by kernel_rfl)) (by decide) (fun K hK => ?_)
                        refine goes_ Try.func14 (by kernel_rfl) rfl #[.agg #[.int .i64 ((rd_T35 t116 x9_2).f0), .string ((rd_T35 t116 x9_2).f1), .string ((rd_T35 t116 x9_2).f2), .int .i64 ((rd_T35 t116 x9_2).f3), .int .i64 ((rd_T35 t116 x9_2).f4), .slice A124_5 ((rd_T35 t116 x9_2).f5).length c124_5], .agg #[.int .i64 ((rd_T35 t119 x9_2).f0), .string ((rd_T35 t119 x9_2).f1), .string ((rd_T35 t119 x9_2).f2), .int .i64 ((rd_T35 t119 x9_2).f3), .int .i64 ((rd_T35 t119 x9_2).f4), .slice A125_5 ((rd_T35 t119 x9_2).f5).length c125_5]] (by rfl) rfl rfl (by (try simp only [List.map_toArray, List.map_cons, List.map_nil]); first | done | rfl | (simp only [List.length_drop, List.length_take]; rfl)) ?_
                        with_reducible refine (lockgateref28_SameCall.calls ((rd_T35 t116 x9_2).f0) ((rd_T35 t116 x9_2).f1) ((rd_T35 t116 x9_2).f2) ((rd_T35 t116 x9_2).f3) ((rd_T35 t116 x9_2).f4) _ _ ((rd_T35 t116 x9_2).f5) ((rd_T35 t119 x9_2).f0) ((rd_T35 t119 x9_2).f1) ((rd_T35 t119 x9_2).f2) ((rd_T35 t119 x9_2).f3) ((rd_T35 t119 x9_2).f4) _ _ ((rd_T35 t119 x9_2).f5) true _ ?side1 ?side2 ?side3 ?side4 A21.out).mono ?_
                        (case side1 => repeat (first | exact (by repeat (first | (with_reducible exact HR124_5.out) | (with_reducible refine Kd.C_alloc ?_ _) | (with_reducible refine Kd.C_drewN ?_ _) | (with_reducible refine Kd.C_drew ?_) | exact HR124_5.out)) | (with_reducible refine Kd.C_alloc ?_ _) | (with_reducible refine Kd.C_drewN ?_ _) | (with_reducible refine Kd.C_drew ?_)))
                        (case side2 => exact HC124_5.out)
                        (case side3 => repeat (first | exact (by repeat (first | (with_reducible exact HR125_5.out) | (with_reducible refine Kd.C_alloc ?_ _) | (with_reducible refine Kd.C_drewN ?_ _) | (with_reducible refine Kd.C_drew ?_) | exact HR125_5.out)) | (with_reducible refine Kd.C_alloc ?_ _) | (with_reducible refine Kd.C_drewN ?_ _) | (with_reducible refine Kd.C_drew ?_)))
                        (case side4 => exact HC125_5.out)
                        rintro e w38 ⟨rfl, hb⟩
                        have HS0_ := (hb.cell (World.block_lt_of_cell? _ _ (hHeld.1))).trans (hHeld.1)
                        have HS1_ := (hb.cell (World.block_lt_of_cell? _ _ (hHeld.2.1))).trans (hHeld.2.1)
                        have HS2_ := (hb.cell (World.block_lt_of_cell? _ _ (hHeld.2.2.1))).trans (hHeld.2.2.1)
                        have HS3_ := (hb.cell (World.block_lt_of_cell? _ _ (hHeld.2.2.2.1))).trans (hHeld.2.2.2.1)
                        have HS4_ := (hb.cell (World.block_lt_of_cell? _ _ (hHeld.2.2.2.2.1))).trans (hHeld.2.2.2.2.1)
                        have HS5_ := (hb.cell (World.block_lt_of_cell? _ _ (hHeld.2.2.2.2.2.1))).trans (hHeld.2.2.2.2.2.1)
                        have HS6_ := (hb.cell (World.block_lt_of_cell? _ _ (hHeld.2.2.2.2.2.2.1))).trans (hHeld.2.2.2.2.2.2.1)
                        have HS7_ := (hb.cell (World.block_lt_of_cell? _ _ (hHeld.2.2.2.2.2.2.2.1))).trans (hHeld.2.2.2.2.2.2.2.1)
                        have HS8_ := (hb.cell (World.block_lt_of_cell? _ _ (hHeld.2.2.2.2.2.2.2.2.1))).trans (hHeld.2.2.2.2.2.2.2.2.1)
                        have HS9_ := (hb.cell (World.block_lt_of_cell? _ _ (hHeld.2.2.2.2.2.2.2.2.2.1))).trans (hHeld.2.2.2.2.2.2.2.2.2.1)
                        have HS10_ := (hb.cell (World.block_lt_of_cell? _ _ (hHeld.2.2.2.2.2.2.2.2.2.2.1))).trans (hHeld.2.2.2.2.2.2.2.2.2.2.1)
                        have HS11_ := (hb.cell (World.block_lt_of_cell? _ _ (hHeld.2.2.2.2.2.2.2.2.2.2.2))).trans (hHeld.2.2.2.2.2.2.2.2.2.2.2)
                        refine ⟨_, rfl, ?_⟩
                        have n0_ := Aside0.mk (Kd.S_below (by (with_reducible repeat (first | apply Kd.S_alloc | apply Kd.S_drewN | apply Kd.S_drew)); exact HO_6.out) hb)
                        have n1_ := Aside0.mk (Kd.S_below (by (with_reducible repeat (first | apply Kd.S_alloc | apply Kd.S_drewN | apply Kd.S_drew)); exact HO_7.out) hb)
                        have n2_ := Aside0.mk (Kd.R_below (by (with_reducible repeat (first | apply Kd.R_alloc | apply Kd.R_drewN | apply Kd.R_drew)); exact HL124_5.out) hb)
                        have n3_ := Aside0.mk (Kd.R_below (by (with_reducible repeat (first | apply Kd.R_alloc | apply Kd.R_drewN | apply Kd.R_drew)); exact HL125_5.out) hb)
                        have n4_ := Aside0.mk (IsS44.below (by repeat (first | (with_reducible first | exact HI123.out | apply IsS44.alloc | apply IsS44.drewN | apply IsS44.drew | apply IsS44.set_0) | exact HI123.out)) hb)
                        have n5_ := Aside0.mk (Kd.C_below (by repeat (first | (with_reducible exact HR124_5.out) | (with_reducible refine Kd.C_alloc ?_ _) | (with_reducible refine Kd.C_drewN ?_ _) | (with_reducible refine Kd.C_drew ?_) | exact HR124_5.out)) hb)
                        have n6_ := Aside0.mk (Kd.C_below (by repeat (first | (with_reducible exact HR125_5.out) | (with_reducible refine Kd.C_alloc ?_ _) | (with_reducible refine Kd.C_drewN ?_ _) | (with_reducible refine Kd.C_drew ?_) | exact HR125_5.out)) hb)
                        have n7_ := Aside0.mk (below_step (by repeat (first | (with_reducible first | exact HB.out | apply below_alloc | apply pw_below_drewN | apply below_drew1 | refine below_set ?_ (IsS44.ge HI123.out)) | exact HB.out)) hb)
                        clear HO_6
                        clear HO_7
                        clear HL124_5
                        clear HL125_5
                        clear HI123
                        clear HR124_5
                        clear HR125_5
                        clear HB
                        have HO_6 := n0_
                        have HO_7 := n1_
                        have HL124_5 := n2_
                        have HL125_5 := n3_
                        have HL136_5 := HL125_5
                        have HR136_5 := Aside0.mk (Kd.R_reads' HL136_5.out).2.2
                        have HI123 := n4_
                        have HR124_5 := n5_
                        have HR125_5 := n6_
                        have HB := n7_
                        clear n0_ n1_ n2_ n3_ n4_ n5_ n6_ n7_
                        (try clear hb)
                        (try clear hb2)
                        (try clear hk)
                        (try clear hi)
                        refine hK.out _ _ ⟨HS0_, HS1_, HS2_, HS3_, HS4_, HS5_, HS6_, HS7_, HS8_, HS9_, HS10_, HS11_⟩ (fun hHeld => ?_)
                        clear hK K
                        refine norm_ (a' := ?_) ?_ ?_
                        rotate_left
                        · show Act.put _ (some 49) _ = _
                          simp only [Act.put, List.setIfInBounds_toArray, List.set_cons_zero, List.set_cons_succ, i64_w, i32_w]
                          rfl
                        refine pure_ (i := 9) (N := some 50) (v := ?_) (a' := ?_) #[true, true, true, true, true, true, true, true, true, true, false, false, false, false, false, false, false, false, false, false, false, false, false, false] rfl rfl (any_of HT_.out (by kernel_rfl)) (fun _ _ _ h => h) (Or.inl ⟨by rfl, ?_⟩) ?_ ?_
                        rotate_left
                        · intro w'
                          go_simp
                          with_reducible rfl
                        rotate_left
                        · simp only [Act.put, List.setIfInBounds_toArray, List.set_cons_zero, List.set_cons_succ, i64_w, i32_w]
                          rfl
                        refine pure_ (i := 10) (N := some 51) (v := ?_) (a' := ?_) #[true, true, true, true, true, true, true, true, true, true, true, false, false, false, false, false, false, false, false, false, false, false, false, false] rfl rfl (any_of HT_.out (by kernel_rfl)) (fun _ _ _ h => h) (Or.inl ⟨by rfl, ?_⟩) ?_ ?_
                        rotate_left
                        · intro w'
                          go_simp
                          with_reducible rfl
                        rotate_left
                        · simp only [Act.put, List.setIfInBounds_toArray, List.set_cons_zero, List.set_cons_succ, i64_w, i32_w]
                          rfl
                        refine pure_ (i := 11) (N := some 52) (v := ?_) (a' := ?_) #[true, true, true, true, true, true, true, true, true, true, true, true, false, false, false, false, false, false, false, false, false, false, false, false] rfl rfl (any_of HT_.out (by kernel_rfl)) (fun _ _ _ h => h) (Or.inl ⟨by rfl, ?_⟩) ?_ ?_
                        rotate_left
                        · intro w'
                          go_simp
                          with_reducible rfl
                        rotate_left
                        · simp only [Act.put, List.setIfInBounds_toArray, List.set_cons_zero, List.set_cons_succ, i64_w, i32_w]
                          rfl
                        refine pure_ (i := 12) (N := some 53) (v := ?_) (a' := ?_) #[true, true, true, true, true, true, true, true, true, true, true, true, true, false, false, false, false, false, false, false, false, false, false, false] rfl rfl (any_of HT_.out (by kernel_rfl)) (fun _ _ _ h => h) (Or.inl ⟨by rfl, ?_⟩) ?_ ?_
                        rotate_left
                        · intro w'
                          go_simp
                          with_reducible rfl
                        rotate_left
                        · simp only [Act.put, List.setIfInBounds_toArray, List.set_cons_zero, List.set_cons_succ, i64_w, i32_w]
                          rfl
                        refine pure_ (i := 13) (N := some 54) (v := ?_) (a' := ?_) #[true, true, true, true, true, true, true, true, true, true, true, true, true, true, false, false, false, false, false, false, false, false, false, false] rfl rfl (any_of HT_.out (by kernel_rfl)) (fun _ _ _ h => h) (Or.inl ⟨by rfl, ?_⟩) ?_ ?_
                        rotate_left
                        · intro w'
                          go_simp
                          with_reducible rfl
                        rotate_left
                        · simp only [Act.put, List.setIfInBounds_toArray, List.set_cons_zero, List.set_cons_succ, i64_w, i32_w]
                          rfl
                        refine pure_ (i := 14) (N := some 55) (v := undef) (a' := ?_) #[true, true, true, true, true, true, true, true, true, true, true, true, true, true, true, false, false, false, false, false, false, false, false, false] rfl rfl (any_of HT_.out (by kernel_rfl)) (fun _ _ _ h => h) (Or.inr ⟨by rfl, rfl⟩) ?_ ?_
                        rotate_left
                        · simp only [Act.put, List.setIfInBounds_toArray, List.set_cons_zero, List.set_cons_succ, i64_w, i32_w]
                          rfl
                        refine pure_ (i := 15) (N := some 56) (v := undef) (a' := ?_) #[true, true, true, true, true, true, true, true, true, true, true, true, true, true, true, true, false, false, false, false, false, false, false, false] rfl rfl (any_of HT_.out (by kernel_rfl)) (fun _ _ _ h => h) (Or.inr ⟨by rfl, rfl⟩) ?_ ?_
                        rotate_left
                        · simp only [Act.put, List.setIfInBounds_toArray, List.set_cons_zero, List.set_cons_succ, i64_w, i32_w]
                          rfl
                        refine pure_ (i := 16) (N := some 57) (v := undef) (a' := ?_) #[true, true, true, true, true, true, true, true, true, true, true, true, true, true, true, true, true, false, false, false, false, false, false, false] rfl rfl (any_of HT_.out (by kernel_rfl)) (fun _ _ _ h => h) (Or.inr ⟨by rfl, rfl⟩) ?_ ?_
                        rotate_left
                        · simp only [Act.put, List.setIfInBounds_toArray, List.set_cons_zero, List.set_cons_succ, i64_w, i32_w]
                          rfl
                        refine pure_ (i := 17) (N := some 58) (v := undef) (a' := ?_) #[true, true, true, true, true, true, true, true, true, true, true, true, true, true, true, true, true, true, false, false, false, false, false, false] rfl rfl (any_of HT_.out (by kernel_rfl)) (fun _ _ _ h => h) (Or.inr ⟨by rfl, rfl⟩) ?_ ?_
                        rotate_left
                        · simp only [Act.put, List.setIfInBounds_toArray, List.set_cons_zero, List.set_cons_succ, i64_w, i32_w]
                          rfl
                        refine pure_ (i := 18) (N := some 59) (v := undef) (a' := ?_) #[true, true, true, true, true, true, true, true, true, true, true, true, true, true, true, true, true, true, true, false, false, false, false, false] rfl rfl (any_of HT_.out (by kernel_rfl)) (fun _ _ _ h => h) (Or.inr ⟨by rfl, rfl⟩) ?_ ?_
                        rotate_left
                        · simp only [Act.put, List.setIfInBounds_toArray, List.set_cons_zero, List.set_cons_succ, i64_w, i32_w]
                          rfl
                        refine pure_ (i := 19) (N := some 60) (v := undef) (a' := ?_) #[true, true, true, true, true, true, true, true, true, true, true, true, true, true, true, true, true, true, true, true, false, false, false, false] rfl rfl (any_of HT_.out (by kernel_rfl)) (fun _ _ _ h => h) (Or.inr ⟨by rfl, rfl⟩) ?_ ?_
                        rotate_left
                        · simp only [Act.put, List.setIfInBounds_toArray, List.set_cons_zero, List.set_cons_succ, i64_w, i32_w]
                          rfl
                        refine pure_ (i := 20) (N := some 61) (v := undef) (a' := ?_) #[true, true, true, true, true, true, true, true, true, true, true, true, true, true, true, true, true, true, true, true, true, false, false, false] rfl rfl (any_of HT_.out (by kernel_rfl)) (fun _ _ _ h => h) (Or.inr ⟨by rfl, rfl⟩) ?_ ?_
                        rotate_left
                        · simp only [Act.put, List.setIfInBounds_toArray, List.set_cons_zero, List.set_cons_succ, i64_w, i32_w]
                          rfl
                        refine pure_ (i := 21) (N := some 62) (v := undef) (a' := ?_) #[true, true, true, true, true, true, true, true, true, true, true, true, true, true, true, true, true, true, true, true, true, true, false, false] rfl rfl (any_of HT_.out (by kernel_rfl)) (fun _ _ _ h => h) (Or.inr ⟨by rfl, rfl⟩) ?_ ?_
                        rotate_left
                        · simp only [Act.put, List.setIfInBounds_toArray, List.set_cons_zero, List.set_cons_succ, i64_w, i32_w]
                          rfl
                        refine pure_ (i := 22) (N := some 63) (v := ?_) (a' := ?_) #[true, true, true, true, true, true, true, true, true, true, true, true, true, true, true, true, true, true, true, true, true, true, true, false] rfl rfl (any_of HT_.out (by kernel_rfl)) (fun _ _ _ h => h) (Or.inl ⟨by rfl, ?_⟩) ?_ ?_
                        rotate_left
                        · intro w'
                          go_simp
                          with_reducible rfl
                        rotate_left
                        · simp only [Act.put, List.setIfInBounds_toArray, List.set_cons_zero, List.set_cons_succ, i64_w, i32_w]
                          rfl
                        refine pure_ (i := 23) (N := some 64) (v := ?_) (a' := ?_) #[true, true, true, true, true, true, true, true, true, true, true, true, true, true, true, true, true, true, true, true, true, true, true, true] rfl rfl (any_of HT_.out (by kernel_rfl)) (fun _ _ _ h => h) (Or.inl ⟨by rfl, ?_⟩) ?_ ?_
                        rotate_left
                        · intro w'
                          go_simp
                          with_reducible rfl
                        rotate_left
                        · simp only [Act.put, List.setIfInBounds_toArray, List.set_cons_zero, List.set_cons_succ, i64_w, i32_w]
                          rfl
                        refine done_ (done_of HT_.out (by kernel_rfl)) ?_
                        try go_wp2
                        go_roundg k2
                        case measure => have := HJ3.out; have := HK2.out; omega
                        case rel => exact ⟨(wrap64 (x9_2 + 1)), (x124000_2), (by first | rfl | (simp; done) | (simp [*]; done)), H', ⟨by have := HJ3.out; have := HK2.out; omega⟩, ⟨by (with_reducible repeat (first | apply Kd.S_alloc | apply Kd.S_drewN | apply Kd.S_drew)); exact HO_6.out⟩, ⟨by (with_reducible repeat (first | apply Kd.S_alloc | apply Kd.S_drewN | apply Kd.S_drew)); exact HO_7.out⟩, ⟨by repeat (first | (with_reducible first | exact HI123.out | apply IsS44.alloc | apply IsS44.drewN | apply IsS44.drew | apply IsS44.set_0) | exact HI123.out)⟩, ⟨by repeat (first | (with_reducible first | exact HB.out | apply below_alloc | apply pw_below_drewN | apply below_drew1 | refine below_set ?_ (IsS44.ge HI123.out)) | exact HB.out)⟩⟩
                    · replace c22 := Bool.eq_false_iff.mpr c22
                      subst c22
                      have H1 : (some false) = some r := by rw [if_neg (show ¬ (false = true) by decide)] at H; exact H
                      clear H
                      have H := H1
                      clear H1
                      obtain rfl := Option.some.inj H
                      try go_wp2
                      have n0_ := Aside0.mk (Kd.S_drew HO_6.out)
                      have n1_ := Aside0.mk (Kd.S_drew HO_7.out)
                      have n2_ := Aside0.mk (IsS44.drew HI123.out)
                      have n3_ := Aside0.mk (below_drew1 HB.out)
                      clear HO_6
                      clear HO_7
                      clear HI123
                      clear HB
                      have HO_6 := n0_
                      have HO_7 := n1_
                      have HI123 := n2_
                      have HB := n3_
                      clear n0_ n1_ n2_ n3_
                      have p124 : 0 ≤ (x9_2 : Int) := of_decide_eq_true (by first | (with_reducible assumption) | assumption)
                      have q124 : x9_2 < (t116.length : Int) := of_decide_eq_true (by first | (with_reducible assumption) | assumption)
                      obtain ⟨ad124, A124_5, c124_5, e124, hx124_0, hx124_1, hx124_2, hx124_3, hx124_4, hx124_5, hl124_5, hi124_5⟩ := at_T35 (Kd.S_reads' HO_6.out).2.2 x9_2 p124 q124
                      cases e124
                      obtain ⟨ce124, hce124, hMe124, hcc124⟩ := Kd.S_get HO_6.out z35 x9_2 p124 (by first | exact q124 | exact of_decide_eq_true (by first | (with_reducible assumption) | assumption) | (have e_ := (Kd.S_reads' HO_6.out).1; omega))
                      obtain ⟨ve124_5, rfl, ge124_5⟩ := k35_openM hMe124
                      have hv124_5 := hcc124 5 _ rfl
                      rw [add_field _ _ 5 (by omega)] at hv124_5
                      replace hv124_5 := Option.some.inj (hv124_5.symm.trans hx124_5)
                      rw [hv124_5] at ge124_5
                      have HL124_5 := Aside0.mk (show Kd.R (Kd.int .u8) 5 _ _ _ _ ((rd_T35 t116 x9_2).f5) from ge124_5)
                      clear hv124_5 ge124_5
                      clear hcc124 hce124
                      have HR124_5 := Aside0.mk hi124_5
                      have HC124_5 := Aside0.mk hl124_5
                      clear hi124_5 hl124_5
                      replace p124 := eq_true p124
                      replace q124 := eq_true q124
                      have p125 : 0 ≤ (x9_2 : Int) := of_decide_eq_true (by first | (with_reducible assumption) | assumption)
                      have q125 : x9_2 < (t119.length : Int) := of_decide_eq_true (by first | (with_reducible assumption) | assumption)
                      obtain ⟨ad125, A125_5, c125_5, e125, hx125_0, hx125_1, hx125_2, hx125_3, hx125_4, hx125_5, hl125_5, hi125_5⟩ := at_T35 (Kd.S_reads' HO_7.out).2.2 x9_2 p125 q125
                      cases e125
                      obtain ⟨ce125, hce125, hMe125, hcc125⟩ := Kd.S_get HO_7.out z35 x9_2 p125 (by first | exact q125 | exact of_decide_eq_true (by first | (with_reducible assumption) | assumption) | (have e_ := (Kd.S_reads' HO_7.out).1; omega))
                      obtain ⟨ve125_5, rfl, ge125_5⟩ := k35_openM hMe125
                      have hv125_5 := hcc125 5 _ rfl
                      rw [add_field _ _ 5 (by omega)] at hv125_5
                      replace hv125_5 := Option.some.inj (hv125_5.symm.trans hx125_5)
                      rw [hv125_5] at ge125_5
                      have HL125_5 := Aside0.mk (show Kd.R (Kd.int .u8) 5 _ _ _ _ ((rd_T35 t119 x9_2).f5) from ge125_5)
                      clear hv125_5 ge125_5
                      clear hcc125 hce125
                      have HR125_5 := Aside0.mk hi125_5
                      have HC125_5 := Aside0.mk hl125_5
                      clear hi125_5 hl125_5
                      replace p125 := eq_true p125
                      replace q125 := eq_true q125
                      refine start_ (n := 24) (S := fun w' => w'.cell? (ad124.add ((x9_2).toNat * 6)) = some (.int .i64 ((rd_T35 t116 x9_2).f0)) ∧ w'.cell? ⟨(ad124.add ((x9_2).toNat * 6)).block, (ad124.add ((x9_2).toNat * 6)).off + 1, none⟩ = some (.string ((rd_T35 t116 x9_2).f1)) ∧ w'.cell? ⟨(ad124.add ((x9_2).toNat * 6)).block, (ad124.add ((x9_2).toNat * 6)).off + 2, none⟩ = some (.string ((rd_T35 t116 x9_2).f2)) ∧ w'.cell? ⟨(ad124.add ((x9_2).toNat * 6)).block, (ad124.add ((x9_2).toNat * 6)).off + 3, none⟩ = some (.int .i64 ((rd_T35 t116 x9_2).f3)) ∧ w'.cell? ⟨(ad124.add ((x9_2).toNat * 6)).block, (ad124.add ((x9_2).toNat * 6)).off + 4, none⟩ = some (.int .i64 ((rd_T35 t116 x9_2).f4)) ∧ w'.cell? ⟨(ad124.add ((x9_2).toNat * 6)).block, (ad124.add ((x9_2).toNat * 6)).off + 5, none⟩ = some (.slice A124_5 ((rd_T35 t116 x9_2).f5).length c124_5) ∧ w'.cell? (ad125.add ((x9_2).toNat * 6)) = some (.int .i64 ((rd_T35 t119 x9_2).f0)) ∧ w'.cell? ⟨(ad125.add ((x9_2).toNat * 6)).block, (ad125.add ((x9_2).toNat * 6)).off + 1, none⟩ = some (.string ((rd_T35 t119 x9_2).f1)) ∧ w'.cell? ⟨(ad125.add ((x9_2).toNat * 6)).block, (ad125.add ((x9_2).toNat * 6)).off + 2, none⟩ = some (.string ((rd_T35 t119 x9_2).f2)) ∧ w'.cell? ⟨(ad125.add ((x9_2).toNat * 6)).block, (ad125.add ((x9_2).toNat * 6)).off + 3, none⟩ = some (.int .i64 ((rd_T35 t119 x9_2).f3)) ∧ w'.cell? ⟨(ad125.add ((x9_2).toNat * 6)).block, (ad125.add ((x9_2).toNat * 6)).off + 4, none⟩ = some (.int .i64 ((rd_T35 t119 x9_2).f4)) ∧ w'.cell? ⟨(ad125.add ((x9_2).toNat * 6)).block, (ad125.add ((x9_2).toNat * 6)).off + 5, none⟩ = some (.slice A125_5 ((rd_T35 t119 x9_2).f5).length c125_5)) (ds := []) #[false, false, false, false, false, false, false, false, false, false, false, false, false, false, false, false, false, false, false, false, false, false, false, false] (by kernel_rfl) rfl rfl ⟨hx124_0, hx124_1, hx124_2, hx124_3, hx124_4, hx124_5, hx125_0, hx125_1, hx125_2, hx125_3, hx125_4, hx125_5⟩ (fun hHeld => ?_); refine with_tabW lockgatelaw31_LotsCalls.tab12 lockgatelaw31_LotsCalls.bits12 (fun HT_ HW_ => ?_)
                      generalize wr.drew = w39 at HO_6 HO_7 HI123 HB HL124_5 HL125_5 HR124_5 HR125_5 hx124_0 hx124_1 hx124_2 hx124_3 hx124_4 hx124_5 hx125_0 hx125_1 hx125_2 hx125_3 hx125_4 hx125_5 hHeld ⊢
                      refine pure_ (i := 0) (N := some 41) (v := ?_) (a' := ?_) #[true, false, false, false, false, false, false, false, false, false, false, false, false, false, false, false, false, false, false, false, false, false, false, false] rfl rfl (any_of HT_.out (by kernel_rfl)) (fun _ _ _ h => h) (Or.inl ⟨by rfl, ?_⟩) ?_ ?_
                      rotate_left
                      · intro w'
                        go_simp
                        with_reducible rfl
                      rotate_left
                      · simp only [Act.put, List.setIfInBounds_toArray, List.set_cons_zero, List.set_cons_succ, i64_w, i32_w]
                        rfl
                      refine pure_ (i := 1) (N := some 42) (v := ?_) (a' := ?_) #[true, true, false, false, false, false, false, false, false, false, false, false, false, false, false, false, false, false, false, false, false, false, false, false] rfl rfl (any_of HT_.out (by kernel_rfl)) (fun _ _ _ h => h) (Or.inl ⟨by rfl, ?_⟩) ?_ ?_
                      rotate_left
                      · intro w'
                        go_simp
                        with_reducible rfl
                      rotate_left
                      · simp only [Act.put, List.setIfInBounds_toArray, List.set_cons_zero, List.set_cons_succ, i64_w, i32_w]
                        rfl
                      refine pure_ (i := 2) (N := some 43) (v := ?_) (a' := ?_) #[true, true, true, false, false, false, false, false, false, false, false, false, false, false, false, false, false, false, false, false, false, false, false, false] rfl rfl (any_of HT_.out (by kernel_rfl)) (fun _ _ _ h => h) (Or.inl ⟨by rfl, ?_⟩) ?_ ?_
                      rotate_left
                      · intro w'
                        go_simp
                        with_reducible rfl
                      rotate_left
                      · simp only [Act.put, List.setIfInBounds_toArray, List.set_cons_zero, List.set_cons_succ, i64_w, i32_w]
                        rfl
                      refine pure_ (i := 4) (N := some 45) (v := ?_) (a' := ?_) #[true, true, true, false, true, false, false, false, false, false, false, false, false, false, false, false, false, false, false, false, false, false, false, false] rfl rfl (any_of HT_.out (by kernel_rfl)) (fun _ _ _ h => h) (Or.inl ⟨by rfl, ?_⟩) ?_ ?_
                      rotate_left
                      · intro w'
                        go_simp
                        with_reducible rfl
                      rotate_left
                      · simp only [Act.put, List.setIfInBounds_toArray, List.set_cons_zero, List.set_cons_succ, i64_w, i32_w]
                        rfl
                      refine pure_ (i := 5) (N := some 46) (v := ?_) (a' := ?_) #[true, true, true, false, true, true, false, false, false, false, false, false, false, false, false, false, false, false, false, false, false, false, false, false] rfl rfl (any_of HT_.out (by kernel_rfl)) (fun _ _ _ h => h) (Or.inl ⟨by rfl, ?_⟩) ?_ ?_
                      rotate_left
                      · intro w'
                        go_simp
                        with_reducible rfl
                      rotate_left
                      · simp only [Act.put, List.setIfInBounds_toArray, List.set_cons_zero, List.set_cons_succ, i64_w, i32_w]
                        rfl
                      refine pure_ (i := 6) (N := some 47) (v := ?_) (a' := ?_) #[true, true, true, false, true, true, true, false, false, false, false, false, false, false, false, false, false, false, false, false, false, false, false, false] rfl rfl (any_of HT_.out (by kernel_rfl)) (fun _ _ _ h => h) (Or.inl ⟨by rfl, ?_⟩) ?_ ?_
                      rotate_left
                      · intro w'
                        go_simp
                        with_reducible rfl
                      rotate_left
                      · simp only [Act.put, List.setIfInBounds_toArray, List.set_cons_zero, List.set_cons_succ, i64_w, i32_w]
                        rfl
                      refine take_ (i := 3) (N := some 44) (v := ?_) (a' := ?_) #[true, true, true, true, true, true, true, false, false, false, false, false, false, false, false, false, false, false, false, false, false, false, false, false] rfl rfl (take_ofW HT_.out HW_.out (by kernel_rfl)) (fun _ _ _ h => h) (Or.inl ⟨by rfl, ?_⟩) hHeld ?_ ?_
                      rotate_left
                      · rintro w' ⟨s0, s1, s2, s3, s4, s5, s6, s7, s8, s9, s10, s11⟩
                        go_simp
                        with_reducible rfl
                      rotate_left
                      · simp only [Act.put, List.setIfInBounds_toArray, List.set_cons_zero, List.set_cons_succ, i64_w, i32_w]
                        rfl
                      refine take_ (i := 7) (N := some 48) (v := ?_) (a' := ?_) #[true, true, true, true, true, true, true, true, false, false, false, false, false, false, false, false, false, false, false, false, false, false, false, false] rfl rfl (take_ofW HT_.out HW_.out (by kernel_rfl)) (fun _ _ _ h => h) (Or.inl ⟨by rfl, ?_⟩) hHeld ?_ ?_
                      rotate_left
                      · rintro w' ⟨s0, s1, s2, s3, s4, s5, s6, s7, s8, s9, s10, s11⟩
                        go_simp
                        with_reducible rfl
                      rotate_left
                      · simp only [Act.put, List.setIfInBounds_toArray, List.set_cons_zero, List.set_cons_succ, i64_w, i32_w]
                        rfl
                      refine one_ (i := 8) (N := some 49) #[true, true, true, true, true, true, true, true, true, false, false, false, false, false, false, false, false, false, false, false, false, false, false, false] rfl rfl (one_of HT_.out (by kernel_rfl)) (by decide) (fun K hK => ?_)
                      refine goes_ Try.func14 (by kernel_rfl) rfl #[.agg #[.int .i64 ((rd_T35 t116 x9_2).f0), .string ((rd_T35 t116 x9_2).f1), .string ((rd_T35 t116 x9_2).f2), .int .i64 ((rd_T35 t116 x9_2).f3), .int .i64 ((rd_T35 t116 x9_2).f4), .slice A124_5 ((rd_T35 t116 x9_2).f5).length c124_5], .agg #[.int .i64 ((rd_T35 t119 x9_2).f0), .string ((rd_T35 t119 x9_2).f1), .string ((rd_T35 t119 x9_2).f2), .int .i64 ((rd_T35 t119 x9_2).f3), .int .i64 ((rd_T35 t119 x9_2).f4), .slice A125_5 ((rd_T35 t119 x9_2).f5).length c125_5]] (by rfl) rfl rfl (by (try simp only [List.map_toArray, List.map_cons, List.map_nil]); first | done | rfl | (simp only [List.length_drop, List.length_take]; rfl)) ?_
                      with_reducible refine (lockgateref28_SameCall.calls ((rd_T35 t116 x9_2).f0) ((rd_T35 t116 x9_2).f1) ((rd_T35 t116 x9_2).f2) ((rd_T35 t116 x9_2).f3) ((rd_T35 t116 x9_2).f4) _ _ ((rd_T35 t116 x9_2).f5) ((rd_T35 t119 x9_2).f0) ((rd_T35 t119 x9_2).f1) ((rd_T35 t119 x9_2).f2) ((rd_T35 t119 x9_2).f3) ((rd_T35 t119 x9_2).f4) _ _ ((rd_T35 t119 x9_2).f5) false _ ?side1 ?side2 ?side3 ?side4 A21.out).mono ?_
                      (case side1 => repeat (first | exact (by repeat (first | (with_reducible exact HR124_5.out) | (with_reducible refine Kd.C_alloc ?_ _) | (with_reducible refine Kd.C_drewN ?_ _) | (with_reducible refine Kd.C_drew ?_) | exact HR124_5.out)) | (with_reducible refine Kd.C_alloc ?_ _) | (with_reducible refine Kd.C_drewN ?_ _) | (with_reducible refine Kd.C_drew ?_)))
                      (case side2 => exact HC124_5.out)
                      (case side3 => repeat (first | exact (by repeat (first | (with_reducible exact HR125_5.out) | (with_reducible refine Kd.C_alloc ?_ _) | (with_reducible refine Kd.C_drewN ?_ _) | (with_reducible refine Kd.C_drew ?_) | exact HR125_5.out)) | (with_reducible refine Kd.C_alloc ?_ _) | (with_reducible refine Kd.C_drewN ?_ _) | (with_reducible refine Kd.C_drew ?_)))
                      (case side4 => exact HC125_5.out)
                      rintro e w40 ⟨rfl, hb⟩
                      have HS0_ := (hb.cell (World.block_lt_of_cell? _ _ (hHeld.1))).trans (hHeld.1)
                      have HS1_ := (hb.cell (World.block_lt_of_cell? _ _ (hHeld.2.1))).trans (hHeld.2.1)
                      have HS2_ := (hb.cell (World.block_lt_of_cell? _ _ (hHeld.2.2.1))).trans (hHeld.2.2.1)
                      have HS3_ := (hb.cell (World.block_lt_of_cell? _ _ (hHeld.2.2.2.1))).trans (hHeld.2.2.2.1)
                      have HS4_ := (hb.cell (World.block_lt_of_cell? _ _ (hHeld.2.2.2.2.1))).trans (hHeld.2.2.2.2.1)
                      have HS5_ := (hb.cell (World.block_lt_of_cell? _ _ (hHeld.2.2.2.2.2.1))).trans (hHeld.2.2.2.2.2.1)
                      have HS6_ := (hb.cell (World.block_lt_of_cell? _ _ (hHeld.2.2.2.2.2.2.1))).trans (hHeld.2.2.2.2.2.2.1)
                      have HS7_ := (hb.cell (World.block_lt_of_cell? _ _ (hHeld.2.2.2.2.2.2.2.1))).trans (hHeld.2.2.2.2.2.2.2.1)
                      have HS8_ := (hb.cell (World.block_lt_of_cell? _ _ (hHeld.2.2.2.2.2.2.2.2.1))).trans (hHeld.2.2.2.2.2.2.2.2.1)
                      have HS9_ := (hb.cell (World.block_lt_of_cell? _ _ (hHeld.2.2.2.2.2.2.2.2.2.1))).trans (hHeld.2.2.2.2.2.2.2.2.2.1)
                      have HS10_ := (hb.cell (World.block_lt_of_cell? _ _ (hHeld.2.2.2.2.2.2.2.2.2.2.1))).trans (hHeld.2.2.2.2.2.2.2.2.2.2.1)
                      have HS11_ := (hb.cell (World.block_lt_of_cell? _ _ (hHeld.2.2.2.2.2.2.2.2.2.2.2))).trans (hHeld.2.2.2.2.2.2.2.2.2.2.2)
                      refine ⟨_, rfl, ?_⟩
                      have n0_ := Aside0.mk (Kd.S_below (by (with_reducible repeat (first | apply Kd.S_alloc | apply Kd.S_drewN | apply Kd.S_drew)); exact HO_6.out) hb)
                      have n1_ := Aside0.mk (Kd.S_below (by (with_reducible repeat (first | apply Kd.S_alloc | apply Kd.S_drewN | apply Kd.S_drew)); exact HO_7.out) hb)
                      have n2_ := Aside0.mk (Kd.R_below (by (with_reducible repeat (first | apply Kd.R_alloc | apply Kd.R_drewN | apply Kd.R_drew)); exact HL124_5.out) hb)
                      have n3_ := Aside0.mk (Kd.R_below (by (with_reducible repeat (first | apply Kd.R_alloc | apply Kd.R_drewN | apply Kd.R_drew)); exact HL125_5.out) hb)
                      have n4_ := Aside0.mk (IsS44.below (by repeat (first | (with_reducible first | exact HI123.out | apply IsS44.alloc | apply IsS44.drewN | apply IsS44.drew | apply IsS44.set_0) | exact HI123.out)) hb)
                      have n5_ := Aside0.mk (Kd.C_below (by repeat (first | (with_reducible exact HR124_5.out) | (with_reducible refine Kd.C_alloc ?_ _) | (with_reducible refine Kd.C_drewN ?_ _) | (with_reducible refine Kd.C_drew ?_) | exact HR124_5.out)) hb)
                      have n6_ := Aside0.mk (Kd.C_below (by repeat (first | (with_reducible exact HR125_5.out) | (with_reducible refine Kd.C_alloc ?_ _) | (with_reducible refine Kd.C_drewN ?_ _) | (with_reducible refine Kd.C_drew ?_) | exact HR125_5.out)) hb)
                      have n7_ := Aside0.mk (below_step (by repeat (first | (with_reducible first | exact HB.out | apply below_alloc | apply pw_below_drewN | apply below_drew1 | refine below_set ?_ (IsS44.ge HI123.out)) | exact HB.out)) hb)
                      clear HO_6
                      clear HO_7
                      clear HL124_5
                      clear HL125_5
                      clear HI123
                      clear HR124_5
                      clear HR125_5
                      clear HB
                      have HO_6 := n0_
                      have HO_7 := n1_
                      have HL124_5 := n2_
                      have HL125_5 := n3_
                      have HL136_5 := HL125_5
                      have HR136_5 := Aside0.mk (Kd.R_reads' HL136_5.out).2.2
                      have HI123 := n4_
                      have HR124_5 := n5_
                      have HR125_5 := n6_
                      have HB := n7_
                      clear n0_ n1_ n2_ n3_ n4_ n5_ n6_ n7_
                      (try clear hb)
                      (try clear hb2)
                      (try clear hk)
                      (try clear hi)
                      refine hK.out _ _ ⟨HS0_, HS1_, HS2_, HS3_, HS4_, HS5_, HS6_, HS7_, HS8_, HS9_, HS10_, HS11_⟩ (fun hHeld => ?_)
                      clear hK K
                      refine norm_ (a' := ?_) ?_ ?_
                      rotate_left
                      · show Act.put _ (some 49) _ = _
                        simp only [Act.put, List.setIfInBounds_toArray, List.set_cons_zero, List.set_cons_succ, i64_w, i32_w]
                        rfl
                      refine pure_ (i := 9) (N := some 50) (v := ?_) (a' := ?_) #[true, true, true, true, true, true, true, true, true, true, false, false, false, false, false, false, false, false, false, false, false, false, false, false] rfl rfl (any_of HT_.out (by kernel_rfl)) (fun _ _ _ h => h) (Or.inl ⟨by rfl, ?_⟩) ?_ ?_
                      rotate_left
                      · intro w'
                        go_simp
                        with_reducible rfl
                      rotate_left
                      · simp only [Act.put, List.setIfInBounds_toArray, List.set_cons_zero, List.set_cons_succ, i64_w, i32_w]
                        rfl
                      refine pure_ (i := 10) (N := some 51) (v := ?_) (a' := ?_) #[true, true, true, true, true, true, true, true, true, true, true, false, false, false, false, false, false, false, false, false, false, false, false, false] rfl rfl (any_of HT_.out (by kernel_rfl)) (fun _ _ _ h => h) (Or.inl ⟨by rfl, ?_⟩) ?_ ?_
                      rotate_left
                      · intro w'
                        go_simp
                        with_reducible rfl
                      rotate_left
                      · simp only [Act.put, List.setIfInBounds_toArray, List.set_cons_zero, List.set_cons_succ, i64_w, i32_w]
                        rfl
                      refine pure_ (i := 11) (N := some 52) (v := undef) (a' := ?_) #[true, true, true, true, true, true, true, true, true, true, true, true, false, false, false, false, false, false, false, false, false, false, false, false] rfl rfl (any_of HT_.out (by kernel_rfl)) (fun _ _ _ h => h) (Or.inr ⟨by rfl, rfl⟩) ?_ ?_
                      rotate_left
                      · simp only [Act.put, List.setIfInBounds_toArray, List.set_cons_zero, List.set_cons_succ, i64_w, i32_w]
                        rfl
                      refine pure_ (i := 12) (N := some 53) (v := undef) (a' := ?_) #[true, true, true, true, true, true, true, true, true, true, true, true, true, false, false, false, false, false, false, false, false, false, false, false] rfl rfl (any_of HT_.out (by kernel_rfl)) (fun _ _ _ h => h) (Or.inr ⟨by rfl, rfl⟩) ?_ ?_
                      rotate_left
                      · simp only [Act.put, List.setIfInBounds_toArray, List.set_cons_zero, List.set_cons_succ, i64_w, i32_w]
                        rfl
                      refine pure_ (i := 13) (N := some 54) (v := undef) (a' := ?_) #[true, true, true, true, true, true, true, true, true, true, true, true, true, true, false, false, false, false, false, false, false, false, false, false] rfl rfl (any_of HT_.out (by kernel_rfl)) (fun _ _ _ h => h) (Or.inr ⟨by rfl, rfl⟩) ?_ ?_
                      rotate_left
                      · simp only [Act.put, List.setIfInBounds_toArray, List.set_cons_zero, List.set_cons_succ, i64_w, i32_w]
                        rfl
                      refine pure_ (i := 14) (N := some 55) (v := undef) (a' := ?_) #[true, true, true, true, true, true, true, true, true, true, true, true, true, true, true, false, false, false, false, false, false, false, false, false] rfl rfl (any_of HT_.out (by kernel_rfl)) (fun _ _ _ h => h) (Or.inr ⟨by rfl, rfl⟩) ?_ ?_
                      rotate_left
                      · simp only [Act.put, List.setIfInBounds_toArray, List.set_cons_zero, List.set_cons_succ, i64_w, i32_w]
                        rfl
                      refine pure_ (i := 15) (N := some 56) (v := undef) (a' := ?_) #[true, true, true, true, true, true, true, true, true, true, true, true, true, true, true, true, false, false, false, false, false, false, false, false] rfl rfl (any_of HT_.out (by kernel_rfl)) (fun _ _ _ h => h) (Or.inr ⟨by rfl, rfl⟩) ?_ ?_
                      rotate_left
                      · simp only [Act.put, List.setIfInBounds_toArray, List.set_cons_zero, List.set_cons_succ, i64_w, i32_w]
                        rfl
                      refine pure_ (i := 16) (N := some 57) (v := undef) (a' := ?_) #[true, true, true, true, true, true, true, true, true, true, true, true, true, true, true, true, true, false, false, false, false, false, false, false] rfl rfl (any_of HT_.out (by kernel_rfl)) (fun _ _ _ h => h) (Or.inr ⟨by rfl, rfl⟩) ?_ ?_
                      rotate_left
                      · simp only [Act.put, List.setIfInBounds_toArray, List.set_cons_zero, List.set_cons_succ, i64_w, i32_w]
                        rfl
                      refine pure_ (i := 17) (N := some 58) (v := undef) (a' := ?_) #[true, true, true, true, true, true, true, true, true, true, true, true, true, true, true, true, true, true, false, false, false, false, false, false] rfl rfl (any_of HT_.out (by kernel_rfl)) (fun _ _ _ h => h) (Or.inr ⟨by rfl, rfl⟩) ?_ ?_
                      rotate_left
                      · simp only [Act.put, List.setIfInBounds_toArray, List.set_cons_zero, List.set_cons_succ, i64_w, i32_w]
                        rfl
                      refine pure_ (i := 18) (N := some 59) (v := undef) (a' := ?_) #[true, true, true, true, true, true, true, true, true, true, true, true, true, true, true, true, true, true, true, false, false, false, false, false] rfl rfl (any_of HT_.out (by kernel_rfl)) (fun _ _ _ h => h) (Or.inr ⟨by rfl, rfl⟩) ?_ ?_
                      rotate_left
                      · simp only [Act.put, List.setIfInBounds_toArray, List.set_cons_zero, List.set_cons_succ, i64_w, i32_w]
                        rfl
                      refine pure_ (i := 19) (N := some 60) (v := undef) (a' := ?_) #[true, true, true, true, true, true, true, true, true, true, true, true, true, true, true, true, true, true, true, true, false, false, false, false] rfl rfl (any_of HT_.out (by kernel_rfl)) (fun _ _ _ h => h) (Or.inr ⟨by rfl, rfl⟩) ?_ ?_
                      rotate_left
                      · simp only [Act.put, List.setIfInBounds_toArray, List.set_cons_zero, List.set_cons_succ, i64_w, i32_w]
                        rfl
                      refine pure_ (i := 20) (N := some 61) (v := undef) (a' := ?_) #[true, true, true, true, true, true, true, true, true, true, true, true, true, true, true, true, true, true, true, true, true, false, false, false] rfl rfl (any_of HT_.out (by kernel_rfl)) (fun _ _ _ h => h) (Or.inr ⟨by rfl, rfl⟩) ?_ ?_
                      rotate_left
                      · simp only [Act.put, List.setIfInBounds_toArray, List.set_cons_zero, List.set_cons_succ, i64_w, i32_w]
                        rfl
                      refine pure_ (i := 21) (N := some 62) (v := undef) (a' := ?_) #[true, true, true, true, true, true, true, true, true, true, true, true, true, true, true, true, true, true, true, true, true, true, false, false] rfl rfl (any_of HT_.out (by kernel_rfl)) (fun _ _ _ h => h) (Or.inr ⟨by rfl, rfl⟩) ?_ ?_
                      rotate_left
                      · simp only [Act.put, List.setIfInBounds_toArray, List.set_cons_zero, List.set_cons_succ, i64_w, i32_w]
                        rfl
                      refine pure_ (i := 22) (N := some 63) (v := undef) (a' := ?_) #[true, true, true, true, true, true, true, true, true, true, true, true, true, true, true, true, true, true, true, true, true, true, true, false] rfl rfl (any_of HT_.out (by kernel_rfl)) (fun _ _ _ h => h) (Or.inr ⟨by rfl, rfl⟩) ?_ ?_
                      rotate_left
                      · simp only [Act.put, List.setIfInBounds_toArray, List.set_cons_zero, List.set_cons_succ, i64_w, i32_w]
                        rfl
                      refine pure_ (i := 23) (N := some 64) (v := ?_) (a' := ?_) #[true, true, true, true, true, true, true, true, true, true, true, true, true, true, true, true, true, true, true, true, true, true, true, true] rfl rfl (any_of HT_.out (by kernel_rfl)) (fun _ _ _ h => h) (Or.inl ⟨by rfl, ?_⟩) ?_ ?_
                      rotate_left
                      · intro w'
                        go_simp
                        with_reducible rfl
                      rotate_left
                      · simp only [Act.put, List.setIfInBounds_toArray, List.set_cons_zero, List.set_cons_succ, i64_w, i32_w]
                        rfl
                      refine done_ (done_of HT_.out (by kernel_rfl)) ?_
                      try go_wp2
                      go_ret
                      exact ⟨by first | rfl | (simp [errW_none, errW_some] <;> rfl) | (simp [*, errW_none, errW_some] <;> rfl), by repeat (first | (with_reducible first | exact HB.out | apply below_alloc | apply pw_below_drewN | apply below_drew1 | refine below_set ?_ (IsS44.ge HI123.out)) | exact HB.out)⟩
                  · rw [if_neg c20] at H
                    exact absurd H (by simp)
                · rw [if_neg c19] at H
                  exact absurd H (by simp)
              · rw [if_neg c18] at H
                have c18b0 : decide (x9_2 < (t116.length : Int)) = false := decide_eq_false c18
                clear c18
                obtain rfl := Option.some.inj H
                go_wp2
                go_ret
                exact ⟨by first | rfl | (simp [errW_none, errW_some] <;> rfl) | (simp [*, errW_none, errW_some] <;> rfl), by repeat (first | (with_reducible first | exact HB.out | apply below_alloc | apply pw_below_drewN | apply below_drew1 | refine below_set ?_ (IsS44.ge HI123.out)) | exact HB.out)⟩
        · rw [if_neg c11] at H
          have c11b0 : ((t116.length : Int) == (t119.length : Int)) = false := beq_eq_false_iff_ne.mpr c11
          have c11b1 : ((t116.length : Int) != (t119.length : Int)) = true := bne_iff_ne.mpr c11
          have c11b2 : (t116.length == t119.length) = false := by first | simpa using c11 | (simp at c11 ⊢; omega)
          obtain rfl := Option.some.inj H
          go_wp2_with (first | ((with_reducible refine gate_callee (f := 12) rfl ?_); refine goesL_ (some 24) rfl rfl Try.func12 (by kernel_rfl) rfl #[.int .i64 a0, .int .i64 a1] rfl (by (try simp only [List.map_toArray, List.map_cons, List.map_nil]); first | done | rfl | (simp only [List.length_drop, List.length_take]; rfl)) ?_; (with_reducible refine (lots_Calls.calls kj3 a0 a1 t116 _ A9.out).mono ?_); rintro e w41 ⟨v117, rfl, ho0, hb⟩; refine ⟨_, rfl, ?_⟩; have n0_ := Aside0.mk (Kd.S_lower ho0 (below_size (by repeat (first | (with_reducible first | exact HB.out | apply below_alloc | apply pw_below_drewN | apply below_drew1) | exact HB.out)))); have n1_ := Aside0.mk (below_step (by repeat (first | (with_reducible first | exact HB.out | apply below_alloc | apply pw_below_drewN | apply below_drew1) | exact HB.out)) hb); clear HB; have HO118 := n0_; have HB := n1_; clear n0_ n1_; (try clear hb); (try clear hb2); (try clear hk); (try clear hi); (try clear ho0)) | ((with_reducible refine gate_callee (f := 13) rfl ?_); refine goesL_ (some 27) rfl rfl Try.func13 (by kernel_rfl) rfl #[.int .i64 a0, .int .i64 a1] rfl (by (try simp only [List.map_toArray, List.map_cons, List.map_nil]); first | done | rfl | (simp only [List.length_drop, List.length_take]; rfl)) ?_; (with_reducible refine (lockgateref28_Calls.calls kj3 a0 a1 t119 _ A10.out).mono ?_); rintro e w42 ⟨v120, rfl, ho0, hb⟩; refine ⟨_, rfl, ?_⟩; have n0_ := Aside0.mk (Kd.S_elder' (by (with_reducible repeat (first | apply Kd.S_alloc | apply Kd.S_drewN | apply Kd.S_drew)); exact HO118.out) (Kd.S_base ho0) hb); have n1_ := Aside0.mk (Kd.S_lower (Kd.S_new' ho0 (Kd.S_lt (by (with_reducible repeat (first | apply Kd.S_alloc | apply Kd.S_drewN | apply Kd.S_drew)); exact HO118.out))) (below_size (by repeat (first | (with_reducible first | exact HB.out | apply below_alloc | apply pw_below_drewN | apply below_drew1) | exact HB.out)))); have n2_ := Aside0.mk (below_step (by repeat (first | (with_reducible first | exact HB.out | apply below_alloc | apply pw_below_drewN | apply below_drew1) | exact HB.out)) hb); clear HO118; clear HB; have HO118 := n0_; have HO121 := n1_; have HB := n2_; clear n0_ n1_ n2_; (try clear hb); (try clear hb2); (try clear hk); (try clear hi); (try clear ho0); obtain ⟨Ao43, co43, eo43⟩ := Kd.S_slice HO118.out; subst eo43; obtain ⟨Ao44, co44, eo44⟩ := Kd.S_slice HO121.out; subst eo44))
          go_ret
          exact ⟨by first | rfl | (simp [errW_none, errW_some] <;> rfl) | (simp [*, errW_none, errW_some] <;> rfl), by repeat (first | (with_reducible first | exact HB.out | apply below_alloc | apply pw_below_drewN | apply below_drew1) | exact HB.out)⟩

/-- THE ONE PURE STATEMENT of lockgatelaw31_LotsCalls: yours. -/
def lockgatelaw31_LotsCalls.Pure : Prop := ∀ (a0 : Int) (a1 : Int), (Lit.int .i64 a0).wf = true → (Lit.int .i64 a1).wf = true → ∃ k, lockgatelaw31_LotsCalls.f k a0 a1 = some true
theorem lockgatelaw31_LotsCalls.walk (P : lockgatelaw31_LotsCalls.Pure) (a0 : Int) (a1 : Int) (w : World) (w0 : (Lit.int .i64 a0).wf = true) (w1 : (Lit.int .i64 a1).wf = true) :
    Calls Try.prog 4 #[.int .i64 a0, .int .i64 a1] w fun e w' => e = .returned (.bool true) ∧ Below w.heap.size w w' := by
  obtain ⟨k, h⟩ := P a0 a1 w0 w1
  refine (lockgatelaw31_LotsCalls.calls k a0 a1 true w h).mono ?_
  rintro e w' ⟨rfl, hd⟩
  exact ⟨rfl, hd⟩

end Go.Proofs.Ytfilblidhcnhcaa.PLotsCalls
