-- written by the session's program wip/print/patch.py (a turned copy of the print) over contracts that the session proved by hand
import Derived.Test.YtfilblidhcnhcaaPLotsPicksx0
import Derived.Test.YtfilblidhcnhcaaPLotsPicksx1
namespace Go.Proofs.Ytfilblidhcnhcaa.PLotsPicks
open Go.Proofs.Ytfilblidhcnhcaa.Given Go.Proofs.Ytfilblidhcnhcaa.PLotsFns
open Go.RowKit Go.Proofs.YtfilblidhcnhcaaW.PrintWords Go.Proofs.YtfilblidhcnhcaaW.PrintLast Go.Proofs.YtfilblidhcnhcaaW.PrintMore
attribute [local go_sem] max2_int min2_int max_two min_two max_three min_three max_four min_four   -- for this text's walks alone
set_option linter.unusedVariables false
set_option linter.unusedSimpArgs false

/-! ### lockgatelaw31_LotsPicks: function 6 -/
mutual
def lockgatelaw31_LotsPicks.j0 : Nat → Int → Int → Int → Bool → Bool → Option (Bool)
  | 0, _, _, _, _, _ => none
  | k + 1, x0, x1, x2, x7, x21 => if x21 = true then (some x7) else ((lots_Picks.f k x0 x1 x2).bind fun t153 => ((lockgateref28_Picks.f k x0 x1 x2).bind fun t156 => (if (t153.length : Int) = (t156.length : Int) then (lockgatelaw31_LotsPicks.l0 k t153 t156 0) else (some false))))
def lockgatelaw31_LotsPicks.l0 : Nat → List (S42) → List (S42) → Int → Option (Bool)
  | 0, _, _, _ => none
  | k + 1, x8, x9, x10 => if x10 < (x8.length : Int) then (if 0 ≤ x10 then (if x10 < (x9.length : Int) then (if ((rd_T42 x8 x10).f0) = ((rd_T42 x9 x10).f0) then ((lockgateref28_SameCall.f ((rd_T42 x8 x10).f1.f0) ((rd_T42 x8 x10).f1.f1) ((rd_T42 x8 x10).f1.f2) ((rd_T42 x8 x10).f1.f3) ((rd_T42 x8 x10).f1.f4) ((rd_T42 x8 x10).f1.f5) ((rd_T42 x9 x10).f1.f0) ((rd_T42 x9 x10).f1.f1) ((rd_T42 x9 x10).f1.f2) ((rd_T42 x9 x10).f1.f3) ((rd_T42 x9 x10).f1.f4) ((rd_T42 x9 x10).f1.f5)).bind fun t163 => (if t163 = true then (lockgatelaw31_LotsPicks.l0 k x8 x9 (wrap64 (x10 + 1))) else (some false))) else (some false)) else (none)) else (none)) else (some true)
end
def lockgatelaw31_LotsPicks.f (k : Nat) (a0 : Int) (a1 : Int) (a2 : Int) : Option (Bool) := (lockgatelaw31_alive.f).bind fun t152 => (if t152 = true then (if a2 > 200 then (lockgatelaw31_LotsPicks.j0 k a0 a1 a2 t152 (decide (a2 < 1000))) else (lockgatelaw31_LotsPicks.j0 k a0 a1 a2 t152 false)) else (lockgatelaw31_LotsPicks.j0 k a0 a1 a2 t152 true))
theorem lockgatelaw31_LotsPicks.mono_l : ∀ k, (∀ y0 y1 y2 y3 y4, LeO (lockgatelaw31_LotsPicks.j0 k y0 y1 y2 y3 y4) (lockgatelaw31_LotsPicks.j0 (k + 1) y0 y1 y2 y3 y4)) ∧ (∀ y0 y1 y2, LeO (lockgatelaw31_LotsPicks.l0 k y0 y1 y2) (lockgatelaw31_LotsPicks.l0 (k + 1) y0 y1 y2))
  | 0 => ⟨fun _ _ _ _ _ r h => by simp [lockgatelaw31_LotsPicks.j0] at h, fun _ _ _ r h => by simp [lockgatelaw31_LotsPicks.l0] at h⟩
  | k + 1 => by
    obtain ⟨ih0, ih1⟩ := lockgatelaw31_LotsPicks.mono_l k
    refine ⟨?_, ?_⟩
    · intro y0 y1 y2 y3 y4
      unfold lockgatelaw31_LotsPicks.j0
      repeat' first
      | (with_reducible exact ih0 _ _ _ _ _)
      | (with_reducible exact ih1 _ _ _)
      | (with_reducible exact lockgateref28_Picks.mono _ _ _ _)
      | (with_reducible exact lots_Picks.mono _ _ _ _)
      | (with_reducible exact LeO.refl _)
      | (with_reducible exact LeO.none _)
      | (with_reducible refine LeO.ite ?_ ?_)
      | (with_reducible refine LeO.bind ?_ (fun _ => ?_))
      | exact ih0 _ _ _ _ _
      | exact ih1 _ _ _
      | exact lockgateref28_Picks.mono _ _ _ _
      | exact lots_Picks.mono _ _ _ _
      | exact LeO.none _
      | refine LeO.ite ?_ ?_
      | refine LeO.bind ?_ (fun _ => ?_)
    · intro y0 y1 y2
      unfold lockgatelaw31_LotsPicks.l0
      repeat' first
      | (with_reducible exact ih0 _ _ _ _ _)
      | (with_reducible exact ih1 _ _ _)
      | (with_reducible exact lockgateref28_Picks.mono _ _ _ _)
      | (with_reducible exact lots_Picks.mono _ _ _ _)
      | (with_reducible exact LeO.refl _)
      | (with_reducible exact LeO.none _)
      | (with_reducible refine LeO.ite ?_ ?_)
      | (with_reducible refine LeO.bind ?_ (fun _ => ?_))
      | exact ih0 _ _ _ _ _
      | exact ih1 _ _ _
      | exact lockgateref28_Picks.mono _ _ _ _
      | exact lots_Picks.mono _ _ _ _
      | exact LeO.none _
      | refine LeO.ite ?_ ?_
      | refine LeO.bind ?_ (fun _ => ?_)
theorem lockgatelaw31_LotsPicks.mono : ∀ a0 a1 a2 k, LeO (lockgatelaw31_LotsPicks.f k a0 a1 a2) (lockgatelaw31_LotsPicks.f (k + 1) a0 a1 a2) := by
  intro a0 a1 a2 k
  obtain ⟨ih0, ih1⟩ := lockgatelaw31_LotsPicks.mono_l k
  unfold lockgatelaw31_LotsPicks.f
  repeat' first
      | (with_reducible exact ih0 _ _ _ _ _)
      | (with_reducible exact ih1 _ _ _)
      | (with_reducible exact lockgateref28_Picks.mono _ _ _ _)
      | (with_reducible exact lots_Picks.mono _ _ _ _)
      | (with_reducible exact LeO.refl _)
      | (with_reducible exact LeO.none _)
      | (with_reducible refine LeO.ite ?_ ?_)
      | (with_reducible refine LeO.bind ?_ (fun _ => ?_))
      | exact ih0 _ _ _ _ _
      | exact ih1 _ _ _
      | exact lockgateref28_Picks.mono _ _ _ _
      | exact lots_Picks.mono _ _ _ _
      | exact LeO.none _
      | refine LeO.ite ?_ ?_
      | refine LeO.bind ?_ (fun _ => ?_)
def lockgatelaw31_LotsPicks.T11 : Bool × List (List Nat × List Nat) := (true, [([], []), ([], []), ([0, 1], [0, 1]), ([2], [2]), ([3], [3]), ([], []), ([], []), ([5, 6], [5, 6]), ([7], [7]), ([8], [8]), ([4, 9], [4, 9]), ([10], [10]), ([11], [11]), ([11], [11]), ([12, 13, 11], [11, 12, 13]), ([14, 11], [11, 14]), ([15, 11], [11, 15]), ([11], [11]), ([11], [11]), ([17, 18, 11], [11, 17, 18]), ([19, 11], [11, 19]), ([20, 11], [11, 20]), ([16, 21, 11, 11], [11, 16, 21]), ([22, 11], [11, 22]), ([11, 23], [11, 23])])
def lockgatelaw31_LotsPicks.B11 : List Nat := [0, 0, 3, 7, 15, 0, 0, 96, 224, 480, 1023, 2047, 4095, 4095, 16383, 32767, 65535, 4095, 4095, 397311, 921599, 1970175, 4194303, 8388607, 16777215]
theorem lockgatelaw31_LotsPicks.tab11 : rtab .any (opsOf Try.f6 11) = lockgatelaw31_LotsPicks.T11 := by kernel_rfl
theorem lockgatelaw31_LotsPicks.bits11 : waitsOk lockgatelaw31_LotsPicks.T11.2 lockgatelaw31_LotsPicks.B11 = true := by kernel_rfl
set_option maxHeartbeats 8000000 in
set_option maxRecDepth 100000 in
theorem lockgatelaw31_LotsPicks.calls (k : Nat) (a0 : Int) (a1 : Int) (a2 : Int) (r : Bool) (w : World) (h : lockgatelaw31_LotsPicks.f k a0 a1 a2 = some r) :
    Calls Try.prog 6 #[.int .i64 a0, .int .i64 a1, .int .i64 a2] w fun e w' => e = .returned (.bool r) ∧ Below w.heap.size w w' := by
  have hu35 := Try.underlying35
  have HB := Aside0.mk (Below.refl w.heap.size w)
  have H : ((lockgatelaw31_alive.f).bind fun t152 => (if t152 = true then (if a2 > 200 then (lockgatelaw31_LotsPicks.j0 k a0 a1 a2 t152 (decide (a2 < 1000))) else (lockgatelaw31_LotsPicks.j0 k a0 a1 a2 t152 false)) else (lockgatelaw31_LotsPicks.j0 k a0 a1 a2 t152 true))) = some r := h
  clear h
  replace H := Option.bind_eq_some_iff.mp H
  obtain ⟨t152, A40, H⟩ := H
  replace H : (if t152 = true then (if a2 > 200 then (lockgatelaw31_LotsPicks.j0 k a0 a1 a2 t152 (decide (a2 < 1000))) else (lockgatelaw31_LotsPicks.j0 k a0 a1 a2 t152 false)) else (lockgatelaw31_LotsPicks.j0 k a0 a1 a2 t152 true)) = some r := H
  have A4 := Aside0.mk A40
  clear A40
  have HC5 := Aside0.mk H
  clear H
  go_enter Try.func6, Try.ntmps6
  go_upto_region 2 with (first | ((with_reducible refine gate_callee (f := 7) rfl ?_); refine goesL_ (some 11) rfl rfl Try.func7 (by kernel_rfl) rfl #[] rfl (by (try simp only [List.map_toArray, List.map_cons, List.map_nil]); first | done | rfl | (simp only [List.length_drop, List.length_take]; rfl)) ?_; (with_reducible refine (lockgatelaw31_alive.calls  t152 _ A4.out).mono ?_); rintro e w6 ⟨rfl, hb⟩; refine ⟨_, rfl, ?_⟩; have n0_ := Aside0.mk (below_step (by repeat (first | (with_reducible first | exact HB.out | apply below_alloc | apply pw_below_drewN | apply below_drew1) | exact HB.out)) hb); clear HB; have HB := n0_; clear n0_; (try clear hb); (try clear hb2); (try clear hk); (try clear hi)))
  (try simp only [Act.put, List.setIfInBounds_toArray, List.set_cons_zero, List.set_cons_succ])
  go_cut [21] (fun v21 wc => ∃ (kq : Nat) (x21_4 : Bool), v21 = .bool x21_4 ∧ Aside0 (lockgatelaw31_LotsPicks.j0 kq a0 a1 a2 t152 x21_4 = some r) ∧ Aside0 (kq ≤ k) ∧ Aside0 (Below w.heap.size w wc))
  case first =>
    have H := HC5.out
    clear HC5
    by_cases c7 : t152 = true
    · subst c7
      have H1 : (if a2 > 200 then (lockgatelaw31_LotsPicks.j0 k a0 a1 a2 true (decide (a2 < 1000))) else (lockgatelaw31_LotsPicks.j0 k a0 a1 a2 true false)) = some r := by rw [if_pos rfl] at H; exact H
      clear H
      have H := H1
      clear H1
      by_cases c8 : a2 > 200
      · rw [if_pos c8] at H
        have c8b0 : decide (200 < a2) = true := decide_eq_true c8
        clear c8
        (first | rw [c8b0] | (simp only [i64_w, i32_w]; rw [c8b0]) | skip)
        have H' := Aside0.mk H
        clear H
        go_wp2
        go_meet
        case rel => exact ⟨_, (decide (a2 < 1000)), (by first | rfl | (simp; done) | (simp [*]; done)), H', ⟨by first | omega | exact Nat.le_refl _⟩, ⟨by repeat (first | (with_reducible first | exact HB.out | apply below_alloc | apply pw_below_drewN | apply below_drew1) | exact HB.out)⟩⟩
      · rw [if_neg c8] at H
        have c8b0 : decide (200 < a2) = false := decide_eq_false c8
        clear c8
        (first | rw [c8b0] | (simp only [i64_w, i32_w]; rw [c8b0]) | skip)
        have H' := Aside0.mk H
        clear H
        go_wp2
        go_meet
        case rel => exact ⟨_, (false), (by first | rfl | (simp; done) | (simp [*]; done)), H', ⟨by first | omega | exact Nat.le_refl _⟩, ⟨by repeat (first | (with_reducible first | exact HB.out | apply below_alloc | apply pw_below_drewN | apply below_drew1) | exact HB.out)⟩⟩
    · replace c7 := Bool.eq_false_iff.mpr c7
      subst c7
      have H1 : (lockgatelaw31_LotsPicks.j0 k a0 a1 a2 false true) = some r := by rw [if_neg (show ¬ (false = true) by decide)] at H; exact H
      clear H
      have H := H1
      clear H1
      have H' := Aside0.mk H
      clear H
      go_wp2
      go_meet
      case rel => exact ⟨_, (true), (by first | rfl | (simp; done) | (simp [*]; done)), H', ⟨by first | omega | exact Nat.le_refl _⟩, ⟨by repeat (first | (with_reducible first | exact HB.out | apply below_alloc | apply pw_below_drewN | apply below_drew1) | exact HB.out)⟩⟩
  case rest =>
    clear HC5
    try clear p2
    try clear c6
    try clear c7
    try clear c8
    try clear c8b0
    obtain ⟨kq, x21_4, rfl, HA, HJ4, HB⟩ := hcut
    cases kq with
    | zero => exact absurd HA.out (by simp [lockgatelaw31_LotsPicks.j0])
    | succ kj4 =>
      have H := HA.out
      clear HA
      simp only [lockgatelaw31_LotsPicks.j0] at H
      by_cases c9 : x21_4 = true
      · subst c9
        have H1 : (some t152) = some r := by rw [if_pos rfl] at H; exact H
        clear H
        have H := H1
        clear H1
        obtain rfl := Option.some.inj H
        go_wp2
        go_ret
        exact ⟨by first | rfl | (simp [errW_none, errW_some] <;> rfl) | (simp [*, errW_none, errW_some] <;> rfl), by repeat (first | (with_reducible first | exact HB.out | apply below_alloc | apply pw_below_drewN | apply below_drew1) | exact HB.out)⟩
      · replace c9 := Bool.eq_false_iff.mpr c9
        subst c9
        have H1 : ((lots_Picks.f kj4 a0 a1 a2).bind fun t153 => ((lockgateref28_Picks.f kj4 a0 a1 a2).bind fun t156 => (if (t153.length : Int) = (t156.length : Int) then (lockgatelaw31_LotsPicks.l0 kj4 t153 t156 0) else (some false)))) = some r := by rw [if_neg (show ¬ (false = true) by decide)] at H; exact H
        clear H
        have H := H1
        clear H1
        replace H := Option.bind_eq_some_iff.mp H
        obtain ⟨t153, A100, H⟩ := H
        replace H : ((lockgateref28_Picks.f kj4 a0 a1 a2).bind fun t156 => (if (t153.length : Int) = (t156.length : Int) then (lockgatelaw31_LotsPicks.l0 kj4 t153 t156 0) else (some false))) = some r := H
        have A10 := Aside0.mk A100
        clear A100
        replace H := Option.bind_eq_some_iff.mp H
        obtain ⟨t156, A110, H⟩ := H
        replace H : (if (t153.length : Int) = (t156.length : Int) then (lockgatelaw31_LotsPicks.l0 kj4 t153 t156 0) else (some false)) = some r := H
        have A11 := Aside0.mk A110
        clear A110
        by_cases c12 : (t153.length : Int) = (t156.length : Int)
        · rw [if_pos c12] at H
          have c12b0 : ((t153.length : Int) == (t156.length : Int)) = true := beq_iff_eq.mpr c12
          have c12b1 : ((t153.length : Int) != (t156.length : Int)) = false := bne_eq_false_iff_eq.mpr c12
          have c12b2 : (t153.length == t156.length) = true := by first | simpa using c12 | (simp at c12 ⊢; omega)
          clear c12
          have H' := Aside0.mk H
          clear H
          go_wp2_with (first | ((with_reducible refine gate_callee (f := 16) rfl ?_); refine goesL_ (some 26) rfl rfl Try.func16 (by kernel_rfl) rfl #[.int .i64 a0, .int .i64 a1, .int .i64 a2] rfl (by (try simp only [List.map_toArray, List.map_cons, List.map_nil]); first | done | rfl | (simp only [List.length_drop, List.length_take]; rfl)) ?_; (with_reducible refine (lots_Picks.calls kj4 a0 a1 a2 t153 _ A10.out).mono ?_); rintro e w13 ⟨v154, rfl, ho0, hb⟩; refine ⟨_, rfl, ?_⟩; have n0_ := Aside0.mk (Kd.S_lower ho0 (below_size (by repeat (first | (with_reducible first | exact HB.out | apply below_alloc | apply pw_below_drewN | apply below_drew1) | exact HB.out)))); have n1_ := Aside0.mk (below_step (by repeat (first | (with_reducible first | exact HB.out | apply below_alloc | apply pw_below_drewN | apply below_drew1) | exact HB.out)) hb); clear HB; have HO155 := n0_; have HB := n1_; clear n0_ n1_; (try clear hb); (try clear hb2); (try clear hk); (try clear hi); (try clear ho0)) | ((with_reducible refine gate_callee (f := 17) rfl ?_); refine goesL_ (some 30) rfl rfl Try.func17 (by kernel_rfl) rfl #[.int .i64 a0, .int .i64 a1, .int .i64 a2] rfl (by (try simp only [List.map_toArray, List.map_cons, List.map_nil]); first | done | rfl | (simp only [List.length_drop, List.length_take]; rfl)) ?_; (with_reducible refine (lockgateref28_Picks.calls kj4 a0 a1 a2 t156 _ A11.out).mono ?_); rintro e w14 ⟨v157, rfl, ho0, hb⟩; refine ⟨_, rfl, ?_⟩; have n0_ := Aside0.mk (Kd.S_elder' (by (with_reducible repeat (first | apply Kd.S_alloc | apply Kd.S_drewN | apply Kd.S_drew)); exact HO155.out) (Kd.S_base ho0) hb); have n1_ := Aside0.mk (Kd.S_lower (Kd.S_new' ho0 (Kd.S_lt (by (with_reducible repeat (first | apply Kd.S_alloc | apply Kd.S_drewN | apply Kd.S_drew)); exact HO155.out))) (below_size (by repeat (first | (with_reducible first | exact HB.out | apply below_alloc | apply pw_below_drewN | apply below_drew1) | exact HB.out)))); have n2_ := Aside0.mk (below_step (by repeat (first | (with_reducible first | exact HB.out | apply below_alloc | apply pw_below_drewN | apply below_drew1) | exact HB.out)) hb); clear HO155; clear HB; have HO155 := n0_; have HO158 := n1_; have HB := n2_; clear n0_ n1_ n2_; (try clear hb); (try clear hb2); (try clear hk); (try clear hi); (try clear ho0); obtain ⟨Ao15, co15, eo15⟩ := Kd.S_slice HO155.out; subst eo15; obtain ⟨Ao16, co16, eo16⟩ := Kd.S_slice HO158.out; subst eo16))
          go_loopg [10] kj4 (fun kq v10 w' => ∃ (x10_2 : Int), v10 = .int .i64 x10_2 ∧ Aside0 (lockgatelaw31_LotsPicks.l0 kq t153 t156 x10_2 = some r) ∧ Aside0 (kq ≤ kj4) ∧ Aside0 (Kd.S k42 42 w' w.heap.size (fun k_ => some k_ ≠ ((.slice Ao16 t156.length co16) : Value).ownBlock) (.slice Ao15 t153.length co15) t153) ∧ Aside0 (Kd.S k42 42 w' w.heap.size (fun k_ => some k_ ≠ ((.slice Ao15 t153.length co15) : Value).ownBlock) (.slice Ao16 t156.length co16) t156) ∧ Aside0 (Below w.heap.size w w'))
          case atStart => exact ⟨(0), (by first | rfl | (simp; done) | (simp [*]; done)), H', ⟨Nat.le_refl _⟩, ⟨by (with_reducible repeat (first | apply Kd.S_alloc | apply Kd.S_drewN | apply Kd.S_drew)); exact Kd.S_mono HO155.out (fun _ hk => hk.2)⟩, ⟨by (with_reducible repeat (first | apply Kd.S_alloc | apply Kd.S_drewN | apply Kd.S_drew)); exact Kd.S_mono HO158.out (fun _ hk => hk.2)⟩, ⟨by repeat (first | (with_reducible first | exact HB.out | apply below_alloc | apply pw_below_drewN | apply below_drew1) | exact HB.out)⟩⟩
          case round =>
            clear H'
            try clear c1
            try clear p2
            try clear c6
            try clear c7
            try clear c8
            try clear c8b0
            try clear c9
            try clear c12
            try clear c12b0
            try clear c12b1
            try clear c12b2
            try clear c16
            try clear p2
            obtain ⟨x10_2, rfl, HA, HK2, HO_8, HO_9, HB⟩ := hrel
            cases gk with
            | zero => exact absurd HA.out (by simp [lockgatelaw31_LotsPicks.l0])
            | succ k2 =>
              have H := HA.out
              clear HA
              simp only [lockgatelaw31_LotsPicks.l0] at H
              by_cases c17 : x10_2 < (t153.length : Int)
              · rw [if_pos c17] at H
                have c17b0 : decide (x10_2 < (t153.length : Int)) = true := decide_eq_true c17
                clear c17
                by_cases c18 : 0 ≤ x10_2
                · rw [if_pos c18] at H
                  have c18b0 : decide (0 ≤ x10_2) = true := decide_eq_true c18
                  clear c18
                  by_cases c19 : x10_2 < (t156.length : Int)
                  · rw [if_pos c19] at H
                    have c19b0 : decide (x10_2 < (t156.length : Int)) = true := decide_eq_true c19
                    clear c19
                    by_cases c20 : ((rd_T42 t153 x10_2).f0) = ((rd_T42 t156 x10_2).f0)
                    · rw [if_pos c20] at H
                      have c20b0 : (((rd_T42 t153 x10_2).f0) == ((rd_T42 t156 x10_2).f0)) = true := beq_iff_eq.mpr c20
                      have c20b1 : (((rd_T42 t153 x10_2).f0) != ((rd_T42 t156 x10_2).f0)) = false := bne_eq_false_iff_eq.mpr c20
                      clear c20
                      replace H := Option.bind_eq_some_iff.mp H
                      obtain ⟨t163, A210, H⟩ := H
                      replace H : (if t163 = true then (lockgatelaw31_LotsPicks.l0 k2 t153 t156 (wrap64 (x10_2 + 1))) else (some false)) = some r := H
                      have A21 := Aside0.mk A210
                      clear A210
                      by_cases c22 : t163 = true
                      · subst c22
                        have H1 : (lockgatelaw31_LotsPicks.l0 k2 t153 t156 (wrap64 (x10_2 + 1))) = some r := by rw [if_pos rfl] at H; exact H
                        clear H
                        have H := H1
                        clear H1
                        have H' := Aside0.mk H
                        clear H
                        try go_wp2
                        have n0_ := Aside0.mk (Kd.S_drew HO_8.out)
                        have n1_ := Aside0.mk (Kd.S_drew HO_9.out)
                        have n2_ := Aside0.mk (below_drew1 HB.out)
                        clear HO_8
                        clear HO_9
                        clear HB
                        have HO_8 := n0_
                        have HO_9 := n1_
                        have HB := n2_
                        clear n0_ n1_ n2_
                        have p159 : 0 ≤ (x10_2 : Int) := of_decide_eq_true (by first | (with_reducible assumption) | assumption)
                        have q159 : x10_2 < (t153.length : Int) := of_decide_eq_true (by first | (with_reducible assumption) | assumption)
                        obtain ⟨ad159, A159_6, c159_6, e159, hx159_0, hx159_1, hx159_2, hx159_3, hx159_4, hx159_5, hx159_6, hl159_6, hi159_6⟩ := at_T42 (Kd.S_reads' HO_8.out).2.2 x10_2 p159 q159
                        cases e159
                        obtain ⟨ce159, hce159, hMe159, hcc159⟩ := Kd.S_get HO_8.out z42 x10_2 p159 (by first | exact q159 | exact of_decide_eq_true (by first | (with_reducible assumption) | assumption) | (have e_ := (Kd.S_reads' HO_8.out).1; omega))
                        obtain ⟨ve159_6, rfl, ge159_6⟩ := k42_openM hMe159
                        have hv159_6 := hcc159 6 _ rfl
                        rw [add_field _ _ 6 (by omega)] at hv159_6
                        replace hv159_6 := Option.some.inj (hv159_6.symm.trans hx159_6)
                        rw [hv159_6] at ge159_6
                        have HL159_6 := Aside0.mk (show Kd.R (Kd.int .u8) 5 _ _ _ _ ((rd_T42 t153 x10_2).f1.f5) from ge159_6)
                        clear hv159_6 ge159_6
                        clear hcc159 hce159
                        have HR159_6 := Aside0.mk hi159_6
                        have HC159_6 := Aside0.mk hl159_6
                        clear hi159_6 hl159_6
                        replace p159 := eq_true p159
                        replace q159 := eq_true q159
                        have p160 : 0 ≤ (x10_2 : Int) := of_decide_eq_true (by first | (with_reducible assumption) | assumption)
                        have q160 : x10_2 < (t156.length : Int) := of_decide_eq_true (by first | (with_reducible assumption) | assumption)
                        obtain ⟨ad160, A160_6, c160_6, e160, hx160_0, hx160_1, hx160_2, hx160_3, hx160_4, hx160_5, hx160_6, hl160_6, hi160_6⟩ := at_T42 (Kd.S_reads' HO_9.out).2.2 x10_2 p160 q160
                        cases e160
                        obtain ⟨ce160, hce160, hMe160, hcc160⟩ := Kd.S_get HO_9.out z42 x10_2 p160 (by first | exact q160 | exact of_decide_eq_true (by first | (with_reducible assumption) | assumption) | (have e_ := (Kd.S_reads' HO_9.out).1; omega))
                        obtain ⟨ve160_6, rfl, ge160_6⟩ := k42_openM hMe160
                        have hv160_6 := hcc160 6 _ rfl
                        rw [add_field _ _ 6 (by omega)] at hv160_6
                        replace hv160_6 := Option.some.inj (hv160_6.symm.trans hx160_6)
                        rw [hv160_6] at ge160_6
                        have HL160_6 := Aside0.mk (show Kd.R (Kd.int .u8) 5 _ _ _ _ ((rd_T42 t156 x10_2).f1.f5) from ge160_6)
                        clear hv160_6 ge160_6
                        clear hcc160 hce160
                        have HR160_6 := Aside0.mk hi160_6
                        have HC160_6 := Aside0.mk hl160_6
                        clear hi160_6 hl160_6
                        replace p160 := eq_true p160
                        replace q160 := eq_true q160
                        have p161 : 0 ≤ (x10_2 : Int) := of_decide_eq_true (by first | (with_reducible assumption) | assumption)
                        have q161 : x10_2 < (t153.length : Int) := of_decide_eq_true (by first | (with_reducible assumption) | assumption)
                        obtain ⟨ad161, A161_6, c161_6, e161, hx161_0, hx161_1, hx161_2, hx161_3, hx161_4, hx161_5, hx161_6, hl161_6, hi161_6⟩ := at_T42 (Kd.S_reads' HO_8.out).2.2 x10_2 p161 q161
                        obtain rfl : ad159 = ad161 := (by injection e161)
                        obtain ⟨ce161, hce161, hMe161, hcc161⟩ := Kd.S_get HO_8.out z42 x10_2 p161 (by first | exact q161 | exact of_decide_eq_true (by first | (with_reducible assumption) | assumption) | (have e_ := (Kd.S_reads' HO_8.out).1; omega))
                        obtain ⟨ve161_6, rfl, ge161_6⟩ := k42_openM hMe161
                        have hv161_6 := hcc161 6 _ rfl
                        rw [add_field _ _ 6 (by omega)] at hv161_6
                        replace hv161_6 := Option.some.inj (hv161_6.symm.trans hx161_6)
                        rw [hv161_6] at ge161_6
                        have HL161_6 := Aside0.mk (show Kd.R (Kd.int .u8) 5 _ _ _ _ ((rd_T42 t153 x10_2).f1.f5) from ge161_6)
                        clear hv161_6 ge161_6
                        clear hcc161 hce161
                        have HR161_6 := Aside0.mk hi161_6
                        have HC161_6 := Aside0.mk hl161_6
                        clear hi161_6 hl161_6
                        replace p161 := eq_true p161
                        replace q161 := eq_true q161
                        have ea_ := Option.some.inj (hx159_6.symm.trans hx161_6)
                        injection ea_ with ea_ en_ ec_
                        subst ea_
                        subst ec_
                        clear en_
                        have p162 : 0 ≤ (x10_2 : Int) := of_decide_eq_true (by first | (with_reducible assumption) | assumption)
                        have q162 : x10_2 < (t156.length : Int) := of_decide_eq_true (by first | (with_reducible assumption) | assumption)
                        obtain ⟨ad162, A162_6, c162_6, e162, hx162_0, hx162_1, hx162_2, hx162_3, hx162_4, hx162_5, hx162_6, hl162_6, hi162_6⟩ := at_T42 (Kd.S_reads' HO_9.out).2.2 x10_2 p162 q162
                        obtain rfl : ad160 = ad162 := (by injection e162)
                        obtain ⟨ce162, hce162, hMe162, hcc162⟩ := Kd.S_get HO_9.out z42 x10_2 p162 (by first | exact q162 | exact of_decide_eq_true (by first | (with_reducible assumption) | assumption) | (have e_ := (Kd.S_reads' HO_9.out).1; omega))
                        obtain ⟨ve162_6, rfl, ge162_6⟩ := k42_openM hMe162
                        have hv162_6 := hcc162 6 _ rfl
                        rw [add_field _ _ 6 (by omega)] at hv162_6
                        replace hv162_6 := Option.some.inj (hv162_6.symm.trans hx162_6)
                        rw [hv162_6] at ge162_6
                        have HL162_6 := Aside0.mk (show Kd.R (Kd.int .u8) 5 _ _ _ _ ((rd_T42 t156 x10_2).f1.f5) from ge162_6)
                        clear hv162_6 ge162_6
                        clear hcc162 hce162
                        have HR162_6 := Aside0.mk hi162_6
                        have HC162_6 := Aside0.mk hl162_6
                        clear hi162_6 hl162_6
                        replace p162 := eq_true p162
                        replace q162 := eq_true q162
                        have ea_ := Option.some.inj (hx160_6.symm.trans hx162_6)
                        injection ea_ with ea_ en_ ec_
                        subst ea_
                        subst ec_
                        clear en_
                        refine start_ (n := 25) (S := fun w' => w'.cell? (ad159.add ((x10_2).toNat * 7)) = some (.int .i64 ((rd_T42 t153 x10_2).f0)) ∧ w'.cell? ⟨(ad159.add ((x10_2).toNat * 7)).block, (ad159.add ((x10_2).toNat * 7)).off + 1, none⟩ = some (.int .i64 ((rd_T42 t153 x10_2).f1.f0)) ∧ w'.cell? ⟨(ad159.add ((x10_2).toNat * 7)).block, (ad159.add ((x10_2).toNat * 7)).off + 2, none⟩ = some (.string ((rd_T42 t153 x10_2).f1.f1)) ∧ w'.cell? ⟨(ad159.add ((x10_2).toNat * 7)).block, (ad159.add ((x10_2).toNat * 7)).off + 3, none⟩ = some (.string ((rd_T42 t153 x10_2).f1.f2)) ∧ w'.cell? ⟨(ad159.add ((x10_2).toNat * 7)).block, (ad159.add ((x10_2).toNat * 7)).off + 4, none⟩ = some (.int .i64 ((rd_T42 t153 x10_2).f1.f3)) ∧ w'.cell? ⟨(ad159.add ((x10_2).toNat * 7)).block, (ad159.add ((x10_2).toNat * 7)).off + 5, none⟩ = some (.int .i64 ((rd_T42 t153 x10_2).f1.f4)) ∧ w'.cell? ⟨(ad159.add ((x10_2).toNat * 7)).block, (ad159.add ((x10_2).toNat * 7)).off + 6, none⟩ = some (.slice A159_6 ((rd_T42 t153 x10_2).f1.f5).length c159_6) ∧ w'.cell? (ad160.add ((x10_2).toNat * 7)) = some (.int .i64 ((rd_T42 t156 x10_2).f0)) ∧ w'.cell? ⟨(ad160.add ((x10_2).toNat * 7)).block, (ad160.add ((x10_2).toNat * 7)).off + 1, none⟩ = some (.int .i64 ((rd_T42 t156 x10_2).f1.f0)) ∧ w'.cell? ⟨(ad160.add ((x10_2).toNat * 7)).block, (ad160.add ((x10_2).toNat * 7)).off + 2, none⟩ = some (.string ((rd_T42 t156 x10_2).f1.f1)) ∧ w'.cell? ⟨(ad160.add ((x10_2).toNat * 7)).block, (ad160.add ((x10_2).toNat * 7)).off + 3, none⟩ = some (.string ((rd_T42 t156 x10_2).f1.f2)) ∧ w'.cell? ⟨(ad160.add ((x10_2).toNat * 7)).block, (ad160.add ((x10_2).toNat * 7)).off + 4, none⟩ = some (.int .i64 ((rd_T42 t156 x10_2).f1.f3)) ∧ w'.cell? ⟨(ad160.add ((x10_2).toNat * 7)).block, (ad160.add ((x10_2).toNat * 7)).off + 5, none⟩ = some (.int .i64 ((rd_T42 t156 x10_2).f1.f4)) ∧ w'.cell? ⟨(ad160.add ((x10_2).toNat * 7)).block, (ad160.add ((x10_2).toNat * 7)).off + 6, none⟩ = some (.slice A160_6 ((rd_T42 t156 x10_2).f1.f5).length c160_6) ∧ w'.cell? (ad159.add ((x10_2).toNat * 7)) = some (.int .i64 ((rd_T42 t153 x10_2).f0)) ∧ w'.cell? ⟨(ad159.add ((x10_2).toNat * 7)).block, (ad159.add ((x10_2).toNat * 7)).off + 1, none⟩ = some (.int .i64 ((rd_T42 t153 x10_2).f1.f0)) ∧ w'.cell? ⟨(ad159.add ((x10_2).toNat * 7)).block, (ad159.add ((x10_2).toNat * 7)).off + 2, none⟩ = some (.string ((rd_T42 t153 x10_2).f1.f1)) ∧ w'.cell? ⟨(ad159.add ((x10_2).toNat * 7)).block, (ad159.add ((x10_2).toNat * 7)).off + 3, none⟩ = some (.string ((rd_T42 t153 x10_2).f1.f2)) ∧ w'.cell? ⟨(ad159.add ((x10_2).toNat * 7)).block, (ad159.add ((x10_2).toNat * 7)).off + 4, none⟩ = some (.int .i64 ((rd_T42 t153 x10_2).f1.f3)) ∧ w'.cell? ⟨(ad159.add ((x10_2).toNat * 7)).block, (ad159.add ((x10_2).toNat * 7)).off + 5, none⟩ = some (.int .i64 ((rd_T42 t153 x10_2).f1.f4)) ∧ w'.cell? ⟨(ad159.add ((x10_2).toNat * 7)).block, (ad159.add ((x10_2).toNat * 7)).off + 6, none⟩ = some (.slice A159_6 ((rd_T42 t153 x10_2).f1.f5).length c159_6) ∧ w'.cell? (ad160.add ((x10_2).toNat * 7)) = some (.int .i64 ((rd_T42 t156 x10_2).f0)) ∧ w'.cell? ⟨(ad160.add ((x10_2).toNat * 7)).block, (ad160.add ((x10_2).toNat * 7)).off + 1, none⟩ = some (.int .i64 ((rd_T42 t156 x10_2).f1.f0)) ∧ w'.cell? ⟨(ad160.add ((x10_2).toNat * 7)).block, (ad160.add ((x10_2).toNat * 7)).off + 2, none⟩ = some (.string ((rd_T42 t156 x10_2).f1.f1)) ∧ w'.cell? ⟨(ad160.add ((x10_2).toNat * 7)).block, (ad160.add ((x10_2).toNat * 7)).off + 3, none⟩ = some (.string ((rd_T42 t156 x10_2).f1.f2)) ∧ w'.cell? ⟨(ad160.add ((x10_2).toNat * 7)).block, (ad160.add ((x10_2).toNat * 7)).off + 4, none⟩ = some (.int .i64 ((rd_T42 t156 x10_2).f1.f3)) ∧ w'.cell? ⟨(ad160.add ((x10_2).toNat * 7)).block, (ad160.add ((x10_2).toNat * 7)).off + 5, none⟩ = some (.int .i64 ((rd_T42 t156 x10_2).f1.f4)) ∧ w'.cell? ⟨(ad160.add ((x10_2).toNat * 7)).block, (ad160.add ((x10_2).toNat * 7)).off + 6, none⟩ = some (.slice A160_6 ((rd_T42 t156 x10_2).f1.f5).length c160_6)) (ds := []) #[false, false, false, false, false, false, false, false, false, false, false, false, false, false, false, false, false, false, false, false, false, false, false, false, false] (by kernel_rfl) rfl rfl ⟨hx159_0, hx159_1, hx159_2, hx159_3, hx159_4, hx159_5, hx159_6, hx160_0, hx160_1, hx160_2, hx160_3, hx160_4, hx160_5, hx160_6, hx161_0, hx161_1, hx161_2, hx161_3, hx161_4, hx161_5, hx161_6, hx162_0, hx162_1, hx162_2, hx162_3, hx162_4, hx162_5, hx162_6⟩ (fun hHeld => ?_); refine with_tabW lockgatelaw31_LotsPicks.tab11 lockgatelaw31_LotsPicks.bits11 (fun HT_ HW_ => ?_)
                        generalize wr.drew = w23 at HO_8 HO_9 HB HL159_6 HL160_6 HL161_6 HL162_6 HR159_6 HR160_6 HR161_6 HR162_6 hx159_0 hx159_1 hx159_2 hx159_3 hx159_4 hx159_5 hx159_6 hx160_0 hx160_1 hx160_2 hx160_3 hx160_4 hx160_5 hx160_6 hx161_0 hx161_1 hx161_2 hx161_3 hx161_4 hx161_5 hx161_6 hx162_0 hx162_1 hx162_2 hx162_3 hx162_4 hx162_5 hx162_6 hHeld ⊢
                        refine pure_ (i := 0) (N := some 42) (v := ?_) (a' := ?_) #[true, false, false, false, false, false, false, false, false, false, false, false, false, false, false, false, false, false, false, false, false, false, false, false, false] rfl rfl (any_of HT_.out (by kernel_rfl)) (fun _ _ _ h => h) (Or.inl ⟨by rfl, ?_⟩) ?_ ?_
                        rotate_left
                        · intro w'
                          go_simp
                          with_reducible rfl
                        rotate_left
                        · simp only [Act.put, List.setIfInBounds_toArray, List.set_cons_zero, List.set_cons_succ, i64_w, i32_w]
                          rfl
                        refine pure_ (i := 1) (N := some 43) (v := ?_) (a' := ?_) #[true, true, false, false, false, false, false, false, false, false, false, false, false, false, false, false, false, false, false, false, false, false, false, false, false] rfl rfl (any_of HT_.out (by kernel_rfl)) (fun _ _ _ h => h) (Or.inl ⟨by rfl, ?_⟩) ?_ ?_
                        rotate_left
                        · intro w'
                          go_simp
                          with_reducible rfl
                        rotate_left
                        · simp only [Act.put, List.setIfInBounds_toArray, List.set_cons_zero, List.set_cons_succ, i64_w, i32_w]
                          rfl
                        refine pure_ (i := 2) (N := some 44) (v := ?_) (a' := ?_) #[true, true, true, false, false, false, false, false, false, false, false, false, false, false, false, false, false, false, false, false, false, false, false, false, false] rfl rfl (any_of HT_.out (by kernel_rfl)) (fun _ _ _ h => h) (Or.inl ⟨by rfl, ?_⟩) ?_ ?_
                        rotate_left
                        · intro w'
                          go_simp
                          with_reducible rfl
                        rotate_left
                        · simp only [Act.put, List.setIfInBounds_toArray, List.set_cons_zero, List.set_cons_succ, i64_w, i32_w]
                          rfl
                        refine pure_ (i := 3) (N := some 45) (v := ?_) (a' := ?_) #[true, true, true, true, false, false, false, false, false, false, false, false, false, false, false, false, false, false, false, false, false, false, false, false, false] rfl rfl (any_of HT_.out (by kernel_rfl)) (fun _ _ _ h => h) (Or.inl ⟨by rfl, ?_⟩) ?_ ?_
                        rotate_left
                        · intro w'
                          go_simp
                          with_reducible rfl
                        rotate_left
                        · simp only [Act.put, List.setIfInBounds_toArray, List.set_cons_zero, List.set_cons_succ, i64_w, i32_w]
                          rfl
                        refine pure_ (i := 5) (N := some 47) (v := ?_) (a' := ?_) #[true, true, true, true, false, true, false, false, false, false, false, false, false, false, false, false, false, false, false, false, false, false, false, false, false] rfl rfl (any_of HT_.out (by kernel_rfl)) (fun _ _ _ h => h) (Or.inl ⟨by rfl, ?_⟩) ?_ ?_
                        rotate_left
                        · intro w'
                          go_simp
                          with_reducible rfl
                        rotate_left
                        · simp only [Act.put, List.setIfInBounds_toArray, List.set_cons_zero, List.set_cons_succ, i64_w, i32_w]
                          rfl
                        refine pure_ (i := 6) (N := some 48) (v := ?_) (a' := ?_) #[true, true, true, true, false, true, true, false, false, false, false, false, false, false, false, false, false, false, false, false, false, false, false, false, false] rfl rfl (any_of HT_.out (by kernel_rfl)) (fun _ _ _ h => h) (Or.inl ⟨by rfl, ?_⟩) ?_ ?_
                        rotate_left
                        · intro w'
                          go_simp
                          with_reducible rfl
                        rotate_left
                        · simp only [Act.put, List.setIfInBounds_toArray, List.set_cons_zero, List.set_cons_succ, i64_w, i32_w]
                          rfl
                        refine pure_ (i := 7) (N := some 49) (v := ?_) (a' := ?_) #[true, true, true, true, false, true, true, true, false, false, false, false, false, false, false, false, false, false, false, false, false, false, false, false, false] rfl rfl (any_of HT_.out (by kernel_rfl)) (fun _ _ _ h => h) (Or.inl ⟨by rfl, ?_⟩) ?_ ?_
                        rotate_left
                        · intro w'
                          go_simp
                          with_reducible rfl
                        rotate_left
                        · simp only [Act.put, List.setIfInBounds_toArray, List.set_cons_zero, List.set_cons_succ, i64_w, i32_w]
                          rfl
                        refine pure_ (i := 8) (N := some 50) (v := ?_) (a' := ?_) #[true, true, true, true, false, true, true, true, true, false, false, false, false, false, false, false, false, false, false, false, false, false, false, false, false] rfl rfl (any_of HT_.out (by kernel_rfl)) (fun _ _ _ h => h) (Or.inl ⟨by rfl, ?_⟩) ?_ ?_
                        rotate_left
                        · intro w'
                          go_simp
                          with_reducible rfl
                        rotate_left
                        · simp only [Act.put, List.setIfInBounds_toArray, List.set_cons_zero, List.set_cons_succ, i64_w, i32_w]
                          rfl
                        refine take_ (i := 4) (N := some 46) (v := ?_) (a' := ?_) #[true, true, true, true, true, true, true, true, true, false, false, false, false, false, false, false, false, false, false, false, false, false, false, false, false] rfl rfl (take_ofW HT_.out HW_.out (by kernel_rfl)) (fun _ _ _ h => h) (Or.inl ⟨by rfl, ?_⟩) hHeld ?_ ?_
                        rotate_left
                        · rintro w' ⟨s0, s1, s2, s3, s4, s5, s6, s7, s8, s9, s10, s11, s12, s13, s14, s15, s16, s17, s18, s19, s20, s21, s22, s23, s24, s25, s26, s27⟩
                          go_simp
                          with_reducible rfl
                        rotate_left
                        · simp only [Act.put, List.setIfInBounds_toArray, List.set_cons_zero, List.set_cons_succ, i64_w, i32_w]
                          rfl
                        refine take_ (i := 9) (N := some 51) (v := ?_) (a' := ?_) #[true, true, true, true, true, true, true, true, true, true, false, false, false, false, false, false, false, false, false, false, false, false, false, false, false] rfl rfl (take_ofW HT_.out HW_.out (by kernel_rfl)) (fun _ _ _ h => h) (Or.inl ⟨by rfl, ?_⟩) hHeld ?_ ?_
                        rotate_left
                        · rintro w' ⟨s0, s1, s2, s3, s4, s5, s6, s7, s8, s9, s10, s11, s12, s13, s14, s15, s16, s17, s18, s19, s20, s21, s22, s23, s24, s25, s26, s27⟩
                          go_simp
                          with_reducible rfl
                        rotate_left
                        · simp only [Act.put, List.setIfInBounds_toArray, List.set_cons_zero, List.set_cons_succ, i64_w, i32_w]
                          rfl
                        refine pure_ (i := 10) (N := some 52) (v := ?_) (a' := ?_) #[true, true, true, true, true, true, true, true, true, true, true, false, false, false, false, false, false, false, false, false, false, false, false, false, false] rfl rfl (any_of HT_.out (by kernel_rfl)) (fun _ _ _ h => h) (Or.inl ⟨by rfl, ?_⟩) ?_ ?_
                        rotate_left
                        · intro w'
                          go_simp
                          with_reducible rfl
                        rotate_left
                        · simp only [Act.put, List.setIfInBounds_toArray, List.set_cons_zero, List.set_cons_succ, i64_w, i32_w]
                          rfl
                        refine pure_ (i := 11) (N := some 53) (v := ?_) (a' := ?_) #[true, true, true, true, true, true, true, true, true, true, true, true, false, false, false, false, false, false, false, false, false, false, false, false, false] rfl rfl (any_of HT_.out (by kernel_rfl)) (fun _ _ _ h => h) (Or.inl ⟨by rfl, ?_⟩) ?_ ?_
                        rotate_left
                        · intro w'
                          go_simp
                          with_reducible rfl
                        rotate_left
                        · simp only [Act.put, List.setIfInBounds_toArray, List.set_cons_zero, List.set_cons_succ, i64_w, i32_w]
                          rfl
                        refine pure_ (i := 12) (N := some 54) (v := ?_) (a' := ?_) #[true, true, true, true, true, true, true, true, true, true, true, true, true, false, false, false, false, false, false, false, false, false, false, false, false] rfl rfl (any_of HT_.out (by kernel_rfl)) (fun _ _ _ h => h) (Or.inl ⟨by rfl, ?_⟩) ?_ ?_
                        rotate_left
                        · intro w'
                          go_simp
                          with_reducible rfl
                        rotate_left
                        · simp only [Act.put, List.setIfInBounds_toArray, List.set_cons_zero, List.set_cons_succ, i64_w, i32_w]
                          rfl
                        refine pure_ (i := 13) (N := some 55) (v := ?_) (a' := ?_) #[true, true, true, true, true, true, true, true, true, true, true, true, true, true, false, false, false, false, false, false, false, false, false, false, false] rfl rfl (any_of HT_.out (by kernel_rfl)) (fun _ _ _ h => h) (Or.inl ⟨by rfl, ?_⟩) ?_ ?_
                        rotate_left
                        · intro w'
                          go_simp
                          with_reducible rfl
                        rotate_left
                        · simp only [Act.put, List.setIfInBounds_toArray, List.set_cons_zero, List.set_cons_succ, i64_w, i32_w]
                          rfl
                        refine pure_ (i := 14) (N := some 56) (v := ?_) (a' := ?_) #[true, true, true, true, true, true, true, true, true, true, true, true, true, true, true, false, false, false, false, false, false, false, false, false, false] rfl rfl (any_of HT_.out (by kernel_rfl)) (fun _ _ _ h => h) (Or.inl ⟨by rfl, ?_⟩) ?_ ?_
                        rotate_left
                        · intro w'
                          go_simp
                          with_reducible rfl
                        rotate_left
                        · simp only [Act.put, List.setIfInBounds_toArray, List.set_cons_zero, List.set_cons_succ, i64_w, i32_w]
                          rfl
                        refine pure_ (i := 15) (N := some 57) (v := ?_) (a' := ?_) #[true, true, true, true, true, true, true, true, true, true, true, true, true, true, true, true, false, false, false, false, false, false, false, false, false] rfl rfl (any_of HT_.out (by kernel_rfl)) (fun _ _ _ h => h) (Or.inl ⟨by rfl, ?_⟩) ?_ ?_
                        rotate_left
                        · intro w'
                          go_simp
                          with_reducible rfl
                        rotate_left
                        · simp only [Act.put, List.setIfInBounds_toArray, List.set_cons_zero, List.set_cons_succ, i64_w, i32_w]
                          rfl
                        refine pure_ (i := 17) (N := some 59) (v := ?_) (a' := ?_) #[true, true, true, true, true, true, true, true, true, true, true, true, true, true, true, true, false, true, false, false, false, false, false, false, false] rfl rfl (any_of HT_.out (by kernel_rfl)) (fun _ _ _ h => h) (Or.inl ⟨by rfl, ?_⟩) ?_ ?_
                        rotate_left
                        · intro w'
                          go_simp
                          with_reducible rfl
                        rotate_left
                        · simp only [Act.put, List.setIfInBounds_toArray, List.set_cons_zero, List.set_cons_succ, i64_w, i32_w]
                          rfl
                        refine pure_ (i := 18) (N := some 60) (v := ?_) (a' := ?_) #[true, true, true, true, true, true, true, true, true, true, true, true, true, true, true, true, false, true, true, false, false, false, false, false, false] rfl rfl (any_of HT_.out (by kernel_rfl)) (fun _ _ _ h => h) (Or.inl ⟨by rfl, ?_⟩) ?_ ?_
                        rotate_left
                        · intro w'
                          go_simp
                          with_reducible rfl
                        rotate_left
                        · simp only [Act.put, List.setIfInBounds_toArray, List.set_cons_zero, List.set_cons_succ, i64_w, i32_w]
                          rfl
                        refine pure_ (i := 19) (N := some 61) (v := ?_) (a' := ?_) #[true, true, true, true, true, true, true, true, true, true, true, true, true, true, true, true, false, true, true, true, false, false, false, false, false] rfl rfl (any_of HT_.out (by kernel_rfl)) (fun _ _ _ h => h) (Or.inl ⟨by rfl, ?_⟩) ?_ ?_
                        rotate_left
                        · intro w'
                          go_simp
                          with_reducible rfl
                        rotate_left
                        · simp only [Act.put, List.setIfInBounds_toArray, List.set_cons_zero, List.set_cons_succ, i64_w, i32_w]
                          rfl
                        refine pure_ (i := 20) (N := some 62) (v := ?_) (a' := ?_) #[true, true, true, true, true, true, true, true, true, true, true, true, true, true, true, true, false, true, true, true, true, false, false, false, false] rfl rfl (any_of HT_.out (by kernel_rfl)) (fun _ _ _ h => h) (Or.inl ⟨by rfl, ?_⟩) ?_ ?_
                        rotate_left
                        · intro w'
                          go_simp
                          with_reducible rfl
                        rotate_left
                        · simp only [Act.put, List.setIfInBounds_toArray, List.set_cons_zero, List.set_cons_succ, i64_w, i32_w]
                          rfl
                        refine take_ (i := 16) (N := some 58) (v := ?_) (a' := ?_) #[true, true, true, true, true, true, true, true, true, true, true, true, true, true, true, true, true, true, true, true, true, false, false, false, false] rfl rfl (take_ofW HT_.out HW_.out (by kernel_rfl)) (fun _ _ _ h => h) (Or.inl ⟨by rfl, ?_⟩) hHeld ?_ ?_
                        rotate_left
                        · rintro w' ⟨s0, s1, s2, s3, s4, s5, s6, s7, s8, s9, s10, s11, s12, s13, s14, s15, s16, s17, s18, s19, s20, s21, s22, s23, s24, s25, s26, s27⟩
                          go_simp
                          with_reducible rfl
                        rotate_left
                        · simp only [Act.put, List.setIfInBounds_toArray, List.set_cons_zero, List.set_cons_succ, i64_w, i32_w]
                          rfl
                        refine take_ (i := 21) (N := some 63) (v := ?_) (a' := ?_) #[true, true, true, true, true, true, true, true, true, true, true, true, true, true, true, true, true, true, true, true, true, true, false, false, false] rfl rfl (take_ofW HT_.out HW_.out (by kernel_rfl)) (fun _ _ _ h => h) (Or.inl ⟨by rfl, ?_⟩) hHeld ?_ ?_
                        rotate_left
                        · rintro w' ⟨s0, s1, s2, s3, s4, s5, s6, s7, s8, s9, s10, s11, s12, s13, s14, s15, s16, s17, s18, s19, s20, s21, s22, s23, s24, s25, s26, s27⟩
                          go_simp
                          with_reducible rfl
                        rotate_left
                        · simp only [Act.put, List.setIfInBounds_toArray, List.set_cons_zero, List.set_cons_succ, i64_w, i32_w]
                          rfl
                        refine one_ (i := 22) (N := some 64) #[true, true, true, true, true, true, true, true, true, true, true, true, true, true, true, true, true, true, true, true, true, true, true, false, false] rfl rfl (one_of HT_.out (by kernel_rfl)) (by decide) (fun K hK => ?_)
                        refine goes_ Try.func14 (by kernel_rfl) rfl #[.agg #[.int .i64 ((rd_T42 t153 x10_2).f1.f0), .string ((rd_T42 t153 x10_2).f1.f1), .string ((rd_T42 t153 x10_2).f1.f2), .int .i64 ((rd_T42 t153 x10_2).f1.f3), .int .i64 ((rd_T42 t153 x10_2).f1.f4), .slice A159_6 ((rd_T42 t153 x10_2).f1.f5).length c159_6], .agg #[.int .i64 ((rd_T42 t156 x10_2).f1.f0), .string ((rd_T42 t156 x10_2).f1.f1), .string ((rd_T42 t156 x10_2).f1.f2), .int .i64 ((rd_T42 t156 x10_2).f1.f3), .int .i64 ((rd_T42 t156 x10_2).f1.f4), .slice A160_6 ((rd_T42 t156 x10_2).f1.f5).length c160_6]] (by rfl) rfl rfl (by (try simp only [List.map_toArray, List.map_cons, List.map_nil]); first | done | rfl | (simp only [List.length_drop, List.length_take]; rfl)) ?_
                        with_reducible refine (lockgateref28_SameCall.calls ((rd_T42 t153 x10_2).f1.f0) ((rd_T42 t153 x10_2).f1.f1) ((rd_T42 t153 x10_2).f1.f2) ((rd_T42 t153 x10_2).f1.f3) ((rd_T42 t153 x10_2).f1.f4) _ _ ((rd_T42 t153 x10_2).f1.f5) ((rd_T42 t156 x10_2).f1.f0) ((rd_T42 t156 x10_2).f1.f1) ((rd_T42 t156 x10_2).f1.f2) ((rd_T42 t156 x10_2).f1.f3) ((rd_T42 t156 x10_2).f1.f4) _ _ ((rd_T42 t156 x10_2).f1.f5) true _ ?side1 ?side2 ?side3 ?side4 A21.out).mono ?_
                        (case side1 => repeat (first | exact (by repeat (first | (with_reducible exact HR161_6.out) | (with_reducible refine Kd.C_alloc ?_ _) | (with_reducible refine Kd.C_drewN ?_ _) | (with_reducible refine Kd.C_drew ?_) | exact HR161_6.out)) | (with_reducible refine Kd.C_alloc ?_ _) | (with_reducible refine Kd.C_drewN ?_ _) | (with_reducible refine Kd.C_drew ?_)))
                        (case side2 => exact HC161_6.out)
                        (case side3 => repeat (first | exact (by repeat (first | (with_reducible exact HR162_6.out) | (with_reducible refine Kd.C_alloc ?_ _) | (with_reducible refine Kd.C_drewN ?_ _) | (with_reducible refine Kd.C_drew ?_) | exact HR162_6.out)) | (with_reducible refine Kd.C_alloc ?_ _) | (with_reducible refine Kd.C_drewN ?_ _) | (with_reducible refine Kd.C_drew ?_)))
                        (case side4 => exact HC162_6.out)
                        rintro e w24 ⟨rfl, hb⟩
                        have HS0_ := (hb.cell (World.block_lt_of_cell? _ _ (hHeld.1))).trans (hHeld.1)
                        have HS1_ := (hb.cell (World.block_lt_of_cell? _ _ (hHeld.2.1))).trans (hHeld.2.1)
                        have HS2_ := (hb.cell (World.block_lt_of_cell? _ _ (hHeld.2.2.1))).trans (hHeld.2.2.1)
                        have HS3_ := (hb.cell (World.block_lt_of_cell? _ _ (hHeld.2.2.2.1))).trans (hHeld.2.2.2.1)
                        have HS4_ := (hb.cell (World.block_lt_of_cell? _ _ (hHeld.2.2.2.2.1))).trans (hHeld.2.2.2.2.1)
                        have HS5_ := (hb.cell (World.block_lt_of_cell? _ _ (hHeld.2.2.2.2.2.1))).trans (hHeld.2.2.2.2.2.1)
                        have HS6_ := (hb.cell (World.block_lt_of_cell? _ _ (hHeld.2.2.2.2.2.2.1))).trans (hHeld.2.2.2.2.2.2.1)
                        have HS7_ := (hb.cell (World.block_lt_of_cell? _ _ (hHeld.2.2.2.2.2.2.2.1))).trans (hHeld.2.2.2.2.2.2.2.1)
                        have HS8_ := (hb.cell (World.block_lt_of_cell? _ _ (hHeld.2.2.2.2.2.2.2.2.1))).trans (hHeld.2.2.2.2.2.2.2.2.1)
                        have HS9_ := (hb.cell (World.block_lt_of_cell? _ _ (hHeld.2.2.2.2.2.2.2.2.2.1))).trans (hHeld.2.2.2.2.2.2.2.2.2.1)
                        have HS10_ := (hb.cell (World.block_lt_of_cell? _ _ (hHeld.2.2.2.2.2.2.2.2.2.2.1))).trans (hHeld.2.2.2.2.2.2.2.2.2.2.1)
                        have HS11_ := (hb.cell (World.block_lt_of_cell? _ _ (hHeld.2.2.2.2.2.2.2.2.2.2.2.1))).trans (hHeld.2.2.2.2.2.2.2.2.2.2.2.1)
                        have HS12_ := (hb.cell (World.block_lt_of_cell? _ _ (hHeld.2.2.2.2.2.2.2.2.2.2.2.2.1))).trans (hHeld.2.2.2.2.2.2.2.2.2.2.2.2.1)
                        have HS13_ := (hb.cell (World.block_lt_of_cell? _ _ (hHeld.2.2.2.2.2.2.2.2.2.2.2.2.2.1))).trans (hHeld.2.2.2.2.2.2.2.2.2.2.2.2.2.1)
                        have HS14_ := (hb.cell (World.block_lt_of_cell? _ _ (hHeld.2.2.2.2.2.2.2.2.2.2.2.2.2.2.1))).trans (hHeld.2.2.2.2.2.2.2.2.2.2.2.2.2.2.1)
                        have HS15_ := (hb.cell (World.block_lt_of_cell? _ _ (hHeld.2.2.2.2.2.2.2.2.2.2.2.2.2.2.2.1))).trans (hHeld.2.2.2.2.2.2.2.2.2.2.2.2.2.2.2.1)
                        have HS16_ := (hb.cell (World.block_lt_of_cell? _ _ (hHeld.2.2.2.2.2.2.2.2.2.2.2.2.2.2.2.2.1))).trans (hHeld.2.2.2.2.2.2.2.2.2.2.2.2.2.2.2.2.1)
                        have HS17_ := (hb.cell (World.block_lt_of_cell? _ _ (hHeld.2.2.2.2.2.2.2.2.2.2.2.2.2.2.2.2.2.1))).trans (hHeld.2.2.2.2.2.2.2.2.2.2.2.2.2.2.2.2.2.1)
                        have HS18_ := (hb.cell (World.block_lt_of_cell? _ _ (hHeld.2.2.2.2.2.2.2.2.2.2.2.2.2.2.2.2.2.2.1))).trans (hHeld.2.2.2.2.2.2.2.2.2.2.2.2.2.2.2.2.2.2.1)
                        have HS19_ := (hb.cell (World.block_lt_of_cell? _ _ (hHeld.2.2.2.2.2.2.2.2.2.2.2.2.2.2.2.2.2.2.2.1))).trans (hHeld.2.2.2.2.2.2.2.2.2.2.2.2.2.2.2.2.2.2.2.1)
                        have HS20_ := (hb.cell (World.block_lt_of_cell? _ _ (hHeld.2.2.2.2.2.2.2.2.2.2.2.2.2.2.2.2.2.2.2.2.1))).trans (hHeld.2.2.2.2.2.2.2.2.2.2.2.2.2.2.2.2.2.2.2.2.1)
                        have HS21_ := (hb.cell (World.block_lt_of_cell? _ _ (hHeld.2.2.2.2.2.2.2.2.2.2.2.2.2.2.2.2.2.2.2.2.2.1))).trans (hHeld.2.2.2.2.2.2.2.2.2.2.2.2.2.2.2.2.2.2.2.2.2.1)
                        have HS22_ := (hb.cell (World.block_lt_of_cell? _ _ (hHeld.2.2.2.2.2.2.2.2.2.2.2.2.2.2.2.2.2.2.2.2.2.2.1))).trans (hHeld.2.2.2.2.2.2.2.2.2.2.2.2.2.2.2.2.2.2.2.2.2.2.1)
                        have HS23_ := (hb.cell (World.block_lt_of_cell? _ _ (hHeld.2.2.2.2.2.2.2.2.2.2.2.2.2.2.2.2.2.2.2.2.2.2.2.1))).trans (hHeld.2.2.2.2.2.2.2.2.2.2.2.2.2.2.2.2.2.2.2.2.2.2.2.1)
                        have HS24_ := (hb.cell (World.block_lt_of_cell? _ _ (hHeld.2.2.2.2.2.2.2.2.2.2.2.2.2.2.2.2.2.2.2.2.2.2.2.2.1))).trans (hHeld.2.2.2.2.2.2.2.2.2.2.2.2.2.2.2.2.2.2.2.2.2.2.2.2.1)
                        have HS25_ := (hb.cell (World.block_lt_of_cell? _ _ (hHeld.2.2.2.2.2.2.2.2.2.2.2.2.2.2.2.2.2.2.2.2.2.2.2.2.2.1))).trans (hHeld.2.2.2.2.2.2.2.2.2.2.2.2.2.2.2.2.2.2.2.2.2.2.2.2.2.1)
                        have HS26_ := (hb.cell (World.block_lt_of_cell? _ _ (hHeld.2.2.2.2.2.2.2.2.2.2.2.2.2.2.2.2.2.2.2.2.2.2.2.2.2.2.1))).trans (hHeld.2.2.2.2.2.2.2.2.2.2.2.2.2.2.2.2.2.2.2.2.2.2.2.2.2.2.1)
                        have HS27_ := (hb.cell (World.block_lt_of_cell? _ _ (hHeld.2.2.2.2.2.2.2.2.2.2.2.2.2.2.2.2.2.2.2.2.2.2.2.2.2.2.2))).trans (hHeld.2.2.2.2.2.2.2.2.2.2.2.2.2.2.2.2.2.2.2.2.2.2.2.2.2.2.2)
                        refine ⟨_, rfl, ?_⟩
                        have n0_ := Aside0.mk (Kd.S_below (by (with_reducible repeat (first | apply Kd.S_alloc | apply Kd.S_drewN | apply Kd.S_drew)); exact HO_8.out) hb)
                        have n1_ := Aside0.mk (Kd.S_below (by (with_reducible repeat (first | apply Kd.S_alloc | apply Kd.S_drewN | apply Kd.S_drew)); exact HO_9.out) hb)
                        have n2_ := Aside0.mk (Kd.R_below (by (with_reducible repeat (first | apply Kd.R_alloc | apply Kd.R_drewN | apply Kd.R_drew)); exact HL159_6.out) hb)
                        have n3_ := Aside0.mk (Kd.R_below (by (with_reducible repeat (first | apply Kd.R_alloc | apply Kd.R_drewN | apply Kd.R_drew)); exact HL160_6.out) hb)
                        have n4_ := Aside0.mk (Kd.R_below (by (with_reducible repeat (first | apply Kd.R_alloc | apply Kd.R_drewN | apply Kd.R_drew)); exact HL161_6.out) hb)
                        have n5_ := Aside0.mk (Kd.R_below (by (with_reducible repeat (first | apply Kd.R_alloc | apply Kd.R_drewN | apply Kd.R_drew)); exact HL162_6.out) hb)
                        have n6_ := Aside0.mk (Kd.C_below (by repeat (first | (with_reducible exact HR159_6.out) | (with_reducible refine Kd.C_alloc ?_ _) | (with_reducible refine Kd.C_drewN ?_ _) | (with_reducible refine Kd.C_drew ?_) | exact HR159_6.out)) hb)
                        have n7_ := Aside0.mk (Kd.C_below (by repeat (first | (with_reducible exact HR160_6.out) | (with_reducible refine Kd.C_alloc ?_ _) | (with_reducible refine Kd.C_drewN ?_ _) | (with_reducible refine Kd.C_drew ?_) | exact HR160_6.out)) hb)
                        have n8_ := Aside0.mk (Kd.C_below (by repeat (first | (with_reducible exact HR161_6.out) | (with_reducible refine Kd.C_alloc ?_ _) | (with_reducible refine Kd.C_drewN ?_ _) | (with_reducible refine Kd.C_drew ?_) | exact HR161_6.out)) hb)
                        have n9_ := Aside0.mk (Kd.C_below (by repeat (first | (with_reducible exact HR162_6.out) | (with_reducible refine Kd.C_alloc ?_ _) | (with_reducible refine Kd.C_drewN ?_ _) | (with_reducible refine Kd.C_drew ?_) | exact HR162_6.out)) hb)
                        have n10_ := Aside0.mk (below_step (by repeat (first | (with_reducible first | exact HB.out | apply below_alloc | apply pw_below_drewN | apply below_drew1) | exact HB.out)) hb)
                        clear HO_8
                        clear HO_9
                        clear HL159_6
                        clear HL160_6
                        clear HL161_6
                        clear HL162_6
                        clear HR159_6
                        clear HR160_6
                        clear HR161_6
                        clear HR162_6
                        clear HB
                        have HO_8 := n0_
                        have HO_9 := n1_
                        have HL159_6 := n2_
                        have HL160_6 := n3_
                        have HL161_6 := n4_
                        have HL162_6 := n5_
                        have HR159_6 := n6_
                        have HR160_6 := n7_
                        have HR161_6 := n8_
                        have HR162_6 := n9_
                        have HB := n10_
                        clear n0_ n1_ n2_ n3_ n4_ n5_ n6_ n7_ n8_ n9_ n10_
                        (try clear hb)
                        (try clear hb2)
                        (try clear hk)
                        (try clear hi)
                        refine hK.out _ _ ⟨HS0_, HS1_, HS2_, HS3_, HS4_, HS5_, HS6_, HS7_, HS8_, HS9_, HS10_, HS11_, HS12_, HS13_, HS14_, HS15_, HS16_, HS17_, HS18_, HS19_, HS20_, HS21_, HS22_, HS23_, HS24_, HS25_, HS26_, HS27_⟩ (fun hHeld => ?_)
                        clear hK K
                        refine norm_ (a' := ?_) ?_ ?_
                        rotate_left
                        · show Act.put _ (some 64) _ = _
                          simp only [Act.put, List.setIfInBounds_toArray, List.set_cons_zero, List.set_cons_succ, i64_w, i32_w]
                          rfl
                        refine pure_ (i := 23) (N := some 65) (v := ?_) (a' := ?_) #[true, true, true, true, true, true, true, true, true, true, true, true, true, true, true, true, true, true, true, true, true, true, true, true, false] rfl rfl (any_of HT_.out (by kernel_rfl)) (fun _ _ _ h => h) (Or.inl ⟨by rfl, ?_⟩) ?_ ?_
                        rotate_left
                        · intro w'
                          go_simp
                          with_reducible rfl
                        rotate_left
                        · simp only [Act.put, List.setIfInBounds_toArray, List.set_cons_zero, List.set_cons_succ, i64_w, i32_w]
                          rfl
                        refine pure_ (i := 24) (N := some 66) (v := ?_) (a' := ?_) #[true, true, true, true, true, true, true, true, true, true, true, true, true, true, true, true, true, true, true, true, true, true, true, true, true] rfl rfl (any_of HT_.out (by kernel_rfl)) (fun _ _ _ h => h) (Or.inl ⟨by rfl, ?_⟩) ?_ ?_
                        rotate_left
                        · intro w'
                          go_simp
                          with_reducible rfl
                        rotate_left
                        · simp only [Act.put, List.setIfInBounds_toArray, List.set_cons_zero, List.set_cons_succ, i64_w, i32_w]
                          rfl
                        refine done_ (done_of HT_.out (by kernel_rfl)) ?_
                        try go_wp2
                        go_roundg k2
                        case measure => have := HJ4.out; have := HK2.out; omega
                        case rel => exact ⟨(wrap64 (x10_2 + 1)), (by first | rfl | (simp; done) | (simp [*]; done)), H', ⟨by have := HJ4.out; have := HK2.out; omega⟩, ⟨by (with_reducible repeat (first | apply Kd.S_alloc | apply Kd.S_drewN | apply Kd.S_drew)); exact HO_8.out⟩, ⟨by (with_reducible repeat (first | apply Kd.S_alloc | apply Kd.S_drewN | apply Kd.S_drew)); exact HO_9.out⟩, ⟨by repeat (first | (with_reducible first | exact HB.out | apply below_alloc | apply pw_below_drewN | apply below_drew1) | exact HB.out)⟩⟩
                      · replace c22 := Bool.eq_false_iff.mpr c22
                        subst c22
                        have H1 : (some false) = some r := by rw [if_neg (show ¬ (false = true) by decide)] at H; exact H
                        clear H
                        have H := H1
                        clear H1
                        obtain rfl := Option.some.inj H
                        try go_wp2
                        have n0_ := Aside0.mk (Kd.S_drew HO_8.out)
                        have n1_ := Aside0.mk (Kd.S_drew HO_9.out)
                        have n2_ := Aside0.mk (below_drew1 HB.out)
                        clear HO_8
                        clear HO_9
                        clear HB
                        have HO_8 := n0_
                        have HO_9 := n1_
                        have HB := n2_
                        clear n0_ n1_ n2_
                        have p159 : 0 ≤ (x10_2 : Int) := of_decide_eq_true (by first | (with_reducible assumption) | assumption)
                        have q159 : x10_2 < (t153.length : Int) := of_decide_eq_true (by first | (with_reducible assumption) | assumption)
                        obtain ⟨ad159, A159_6, c159_6, e159, hx159_0, hx159_1, hx159_2, hx159_3, hx159_4, hx159_5, hx159_6, hl159_6, hi159_6⟩ := at_T42 (Kd.S_reads' HO_8.out).2.2 x10_2 p159 q159
                        cases e159
                        obtain ⟨ce159, hce159, hMe159, hcc159⟩ := Kd.S_get HO_8.out z42 x10_2 p159 (by first | exact q159 | exact of_decide_eq_true (by first | (with_reducible assumption) | assumption) | (have e_ := (Kd.S_reads' HO_8.out).1; omega))
                        obtain ⟨ve159_6, rfl, ge159_6⟩ := k42_openM hMe159
                        have hv159_6 := hcc159 6 _ rfl
                        rw [add_field _ _ 6 (by omega)] at hv159_6
                        replace hv159_6 := Option.some.inj (hv159_6.symm.trans hx159_6)
                        rw [hv159_6] at ge159_6
                        have HL159_6 := Aside0.mk (show Kd.R (Kd.int .u8) 5 _ _ _ _ ((rd_T42 t153 x10_2).f1.f5) from ge159_6)
                        clear hv159_6 ge159_6
                        clear hcc159 hce159
                        have HR159_6 := Aside0.mk hi159_6
                        have HC159_6 := Aside0.mk hl159_6
                        clear hi159_6 hl159_6
                        replace p159 := eq_true p159
                        replace q159 := eq_true q159
                        have p160 : 0 ≤ (x10_2 : Int) := of_decide_eq_true (by first | (with_reducible assumption) | assumption)
                        have q160 : x10_2 < (t156.length : Int) := of_decide_eq_true (by first | (with_reducible assumption) | assumption)
                        obtain ⟨ad160, A160_6, c160_6, e160, hx160_0, hx160_1, hx160_2, hx160_3, hx160_4, hx160_5, hx160_6, hl160_6, hi160_6⟩ := at_T42 (Kd.S_reads' HO_9.out).2.2 x10_2 p160 q160
                        cases e160
                        obtain ⟨ce160, hce160, hMe160, hcc160⟩ := Kd.S_get HO_9.out z42 x10_2 p160 (by first | exact q160 | exact of_decide_eq_true (by first | (with_reducible assumption) | assumption) | (have e_ := (Kd.S_reads' HO_9.out).1; omega))
                        obtain ⟨ve160_6, rfl, ge160_6⟩ := k42_openM hMe160
                        have hv160_6 := hcc160 6 _ rfl
                        rw [add_field _ _ 6 (by omega)] at hv160_6
                        replace hv160_6 := Option.some.inj (hv160_6.symm.trans hx160_6)
                        rw [hv160_6] at ge160_6
                        have HL160_6 := Aside0.mk (show Kd.R (Kd.int .u8) 5 _ _ _ _ ((rd_T42 t156 x10_2).f1.f5) from ge160_6)
                        clear hv160_6 ge160_6
                        clear hcc160 hce160
                        have HR160_6 := Aside0.mk hi160_6
                        have HC160_6 := Aside0.mk hl160_6
                        clear hi160_6 hl160_6
                        replace p160 := eq_true p160
                        replace q160 := eq_true q160
                        have p161 : 0 ≤ (x10_2 : Int) := of_decide_eq_true (by first | (with_reducible assumption) | assumption)
                        have q161 : x10_2 < (t153.length : Int) := of_decide_eq_true (by first | (with_reducible assumption) | assumption)
                        obtain ⟨ad161, A161_6, c161_6, e161, hx161_0, hx161_1, hx161_2, hx161_3, hx161_4, hx161_5, hx161_6, hl161_6, hi161_6⟩ := at_T42 (Kd.S_reads' HO_8.out).2.2 x10_2 p161 q161
                        obtain rfl : ad159 = ad161 := (by injection e161)
                        obtain ⟨ce161, hce161, hMe161, hcc161⟩ := Kd.S_get HO_8.out z42 x10_2 p161 (by first | exact q161 | exact of_decide_eq_true (by first | (with_reducible assumption) | assumption) | (have e_ := (Kd.S_reads' HO_8.out).1; omega))
                        obtain ⟨ve161_6, rfl, ge161_6⟩ := k42_openM hMe161
                        have hv161_6 := hcc161 6 _ rfl
                        rw [add_field _ _ 6 (by omega)] at hv161_6
                        replace hv161_6 := Option.some.inj (hv161_6.symm.trans hx161_6)
                        rw [hv161_6] at ge161_6
                        have HL161_6 := Aside0.mk (show Kd.R (Kd.int .u8) 5 _ _ _ _ ((rd_T42 t153 x10_2).f1.f5) from ge161_6)
                        clear hv161_6 ge161_6
                        clear hcc161 hce161
                        have HR161_6 := Aside0.mk hi161_6
                        have HC161_6 := Aside0.mk hl161_6
                        clear hi161_6 hl161_6
                        replace p161 := eq_true p161
                        replace q161 := eq_true q161
                        have ea_ := Option.some.inj (hx159_6.symm.trans hx161_6)
                        injection ea_ with ea_ en_ ec_
                        subst ea_
                        subst ec_
                        clear en_
                        have p162 : 0 ≤ (x10_2 : Int) := of_decide_eq_true (by first | (with_reducible assumption) | assumption)
                        have q162 : x10_2 < (t156.length : Int) := of_decide_eq_true (by first | (with_reducible assumption) | assumption)
                        obtain ⟨ad162, A162_6, c162_6, e162, hx162_0, hx162_1, hx162_2, hx162_3, hx162_4, hx162_5, hx162_6, hl162_6, hi162_6⟩ := at_T42 (Kd.S_reads' HO_9.out).2.2 x10_2 p162 q162
                        obtain rfl : ad160 = ad162 := (by injection e162)
                        obtain ⟨ce162, hce162, hMe162, hcc162⟩ := Kd.S_get HO_9.out z42 x10_2 p162 (by first | exact q162 | exact of_decide_eq_true (by first | (with_reducible assumption) | assumption) | (have e_ := (Kd.S_reads' HO_9.out).1; omega))
                        obtain ⟨ve162_6, rfl, ge162_6⟩ := k42_openM hMe162
                        have hv162_6 := hcc162 6 _ rfl
                        rw [add_field _ _ 6 (by omega)] at hv162_6
                        replace hv162_6 := Option.some.inj (hv162_6.symm.trans hx162_6)
                        rw [hv162_6] at ge162_6
                        have HL162_6 := Aside0.mk (show Kd.R (Kd.int .u8) 5 _ _ _ _ ((rd_T42 t156 x10_2).f1.f5) from ge162_6)
                        clear hv162_6 ge162_6
                        clear hcc162 hce162
                        have HR162_6 := Aside0.mk hi162_6
                        have HC162_6 := Aside0.mk hl162_6
                        clear hi162_6 hl162_6
                        replace p162 := eq_true p162
                        replace q162 := eq_true q162
                        have ea_ := Option.some.inj (hx160_6.symm.trans hx162_6)
                        injection ea_ with ea_ en_ ec_
                        subst ea_
                        subst ec_
                        clear en_
                        refine start_ (n := 25) (S := fun w' => w'.cell? (ad159.add ((x10_2).toNat * 7)) = some (.int .i64 ((rd_T42 t153 x10_2).f0)) ∧ w'.cell? ⟨(ad159.add ((x10_2).toNat * 7)).block, (ad159.add ((x10_2).toNat * 7)).off + 1, none⟩ = some (.int .i64 ((rd_T42 t153 x10_2).f1.f0)) ∧ w'.cell? ⟨(ad159.add ((x10_2).toNat * 7)).block, (ad159.add ((x10_2).toNat * 7)).off + 2, none⟩ = some (.string ((rd_T42 t153 x10_2).f1.f1)) ∧ w'.cell? ⟨(ad159.add ((x10_2).toNat * 7)).block, (ad159.add ((x10_2).toNat * 7)).off + 3, none⟩ = some (.string ((rd_T42 t153 x10_2).f1.f2)) ∧ w'.cell? ⟨(ad159.add ((x10_2).toNat * 7)).block, (ad159.add ((x10_2).toNat * 7)).off + 4, none⟩ = some (.int .i64 ((rd_T42 t153 x10_2).f1.f3)) ∧ w'.cell? ⟨(ad159.add ((x10_2).toNat * 7)).block, (ad159.add ((x10_2).toNat * 7)).off + 5, none⟩ = some (.int .i64 ((rd_T42 t153 x10_2).f1.f4)) ∧ w'.cell? ⟨(ad159.add ((x10_2).toNat * 7)).block, (ad159.add ((x10_2).toNat * 7)).off + 6, none⟩ = some (.slice A159_6 ((rd_T42 t153 x10_2).f1.f5).length c159_6) ∧ w'.cell? (ad160.add ((x10_2).toNat * 7)) = some (.int .i64 ((rd_T42 t156 x10_2).f0)) ∧ w'.cell? ⟨(ad160.add ((x10_2).toNat * 7)).block, (ad160.add ((x10_2).toNat * 7)).off + 1, none⟩ = some (.int .i64 ((rd_T42 t156 x10_2).f1.f0)) ∧ w'.cell? ⟨(ad160.add ((x10_2).toNat * 7)).block, (ad160.add ((x10_2).toNat * 7)).off + 2, none⟩ = some (.string ((rd_T42 t156 x10_2).f1.f1)) ∧ w'.cell? ⟨(ad160.add ((x10_2).toNat * 7)).block, (ad160.add ((x10_2).toNat * 7)).off + 3, none⟩ = some (.string ((rd_T42 t156 x10_2).f1.f2)) ∧ w'.cell? ⟨(ad160.add ((x10_2).toNat * 7)).block, (ad160.add ((x10_2).toNat * 7)).off + 4, none⟩ = some (.int .i64 ((rd_T42 t156 x10_2).f1.f3)) ∧ w'.cell? ⟨(ad160.add ((x10_2).toNat * 7)).block, (ad160.add ((x10_2).toNat * 7)).off + 5, none⟩ = some (.int .i64 ((rd_T42 t156 x10_2).f1.f4)) ∧ w'.cell? ⟨(ad160.add ((x10_2).toNat * 7)).block, (ad160.add ((x10_2).toNat * 7)).off + 6, none⟩ = some (.slice A160_6 ((rd_T42 t156 x10_2).f1.f5).length c160_6) ∧ w'.cell? (ad159.add ((x10_2).toNat * 7)) = some (.int .i64 ((rd_T42 t153 x10_2).f0)) ∧ w'.cell? ⟨(ad159.add ((x10_2).toNat * 7)).block, (ad159.add ((x10_2).toNat * 7)).off + 1, none⟩ = some (.int .i64 ((rd_T42 t153 x10_2).f1.f0)) ∧ w'.cell? ⟨(ad159.add ((x10_2).toNat * 7)).block, (ad159.add ((x10_2).toNat * 7)).off + 2, none⟩ = some (.string ((rd_T42 t153 x10_2).f1.f1)) ∧ w'.cell? ⟨(ad159.add ((x10_2).toNat * 7)).block, (ad159.add ((x10_2).toNat * 7)).off + 3, none⟩ = some (.string ((rd_T42 t153 x10_2).f1.f2)) ∧ w'.cell? ⟨(ad159.add ((x10_2).toNat * 7)).block, (ad159.add ((x10_2).toNat * 7)).off + 4, none⟩ = some (.int .i64 ((rd_T42 t153 x10_2).f1.f3)) ∧ w'.cell? ⟨(ad159.add ((x10_2).toNat * 7)).block, (ad159.add ((x10_2).toNat * 7)).off + 5, none⟩ = some (.int .i64 ((rd_T42 t153 x10_2).f1.f4)) ∧ w'.cell? ⟨(ad159.add ((x10_2).toNat * 7)).block, (ad159.add ((x10_2).toNat * 7)).off + 6, none⟩ = some (.slice A159_6 ((rd_T42 t153 x10_2).f1.f5).length c159_6) ∧ w'.cell? (ad160.add ((x10_2).toNat * 7)) = some (.int .i64 ((rd_T42 t156 x10_2).f0)) ∧ w'.cell? ⟨(ad160.add ((x10_2).toNat * 7)).block, (ad160.add ((x10_2).toNat * 7)).off + 1, none⟩ = some (.int .i64 ((rd_T42 t156 x10_2).f1.f0)) ∧ w'.cell? ⟨(ad160.add ((x10_2).toNat * 7)).block, (ad160.add ((x10_2).toNat * 7)).off + 2, none⟩ = some (.string ((rd_T42 t156 x10_2).f1.f1)) ∧ w'.cell? ⟨(ad160.add ((x10_2).toNat * 7)).block, (ad160.add ((x10_2).toNat * 7)).off + 3, none⟩ = some (.string ((rd_T42 t156 x10_2).f1.f2)) ∧ w'.cell? ⟨(ad160.add ((x10_2).toNat * 7)).block, (ad160.add ((x10_2).toNat * 7)).off + 4, none⟩ = some (.int .i64 ((rd_T42 t156 x10_2).f1.f3)) ∧ w'.cell? ⟨(ad160.add ((x10_2).toNat * 7)).block, (ad160.add ((x10_2).toNat * 7)).off + 5, none⟩ = some (.int .i64 ((rd_T42 t156 x10_2).f1.f4)) ∧ w'.cell? ⟨(ad160.add ((x10_2).toNat * 7)).block, (ad160.add ((x10_2).toNat * 7)).off + 6, none⟩ = some (.slice A160_6 ((rd_T42 t156 x10_2).f1.f5).length c160_6)) (ds := []) #[false, false, false, false, false, false, false, false, false, false, false, false, false, false, false, false, false, false, false, false, false, false, false, false, false] (by kernel_rfl) rfl rfl ⟨hx159_0, hx159_1, hx159_2, hx159_3, hx159_4, hx159_5, hx159_6, hx160_0, hx160_1, hx160_2, hx160_3, hx160_4, hx160_5, hx160_6, hx161_0, hx161_1, hx161_2, hx161_3, hx161_4, hx161_5, hx161_6, hx162_0, hx162_1, hx162_2, hx162_3, hx162_4, hx162_5, hx162_6⟩ (fun hHeld => ?_); refine with_tabW lockgatelaw31_LotsPicks.tab11 lockgatelaw31_LotsPicks.bits11 (fun HT_ HW_ => ?_)
                        generalize wr.drew = w25 at HO_8 HO_9 HB HL159_6 HL160_6 HL161_6 HL162_6 HR159_6 HR160_6 HR161_6 HR162_6 hx159_0 hx159_1 hx159_2 hx159_3 hx159_4 hx159_5 hx159_6 hx160_0 hx160_1 hx160_2 hx160_3 hx160_4 hx160_5 hx160_6 hx161_0 hx161_1 hx161_2 hx161_3 hx161_4 hx161_5 hx161_6 hx162_0 hx162_1 hx162_2 hx162_3 hx162_4 hx162_5 hx162_6 hHeld ⊢
                        refine pure_ (i := 0) (N := some 42) (v := ?_) (a' := ?_) #[true, false, false, false, false, false, false, false, false, false, false, false, false, false, false, false, false, false, false, false, false, false, false, false, false] rfl rfl (any_of HT_.out (by kernel_rfl)) (fun _ _ _ h => h) (Or.inl ⟨by rfl, ?_⟩) ?_ ?_
                        rotate_left
                        · intro w'
                          go_simp
                          with_reducible rfl
                        rotate_left
                        · simp only [Act.put, List.setIfInBounds_toArray, List.set_cons_zero, List.set_cons_succ, i64_w, i32_w]
                          rfl
                        refine pure_ (i := 1) (N := some 43) (v := ?_) (a' := ?_) #[true, true, false, false, false, false, false, false, false, false, false, false, false, false, false, false, false, false, false, false, false, false, false, false, false] rfl rfl (any_of HT_.out (by kernel_rfl)) (fun _ _ _ h => h) (Or.inl ⟨by rfl, ?_⟩) ?_ ?_
                        rotate_left
                        · intro w'
                          go_simp
                          with_reducible rfl
                        rotate_left
                        · simp only [Act.put, List.setIfInBounds_toArray, List.set_cons_zero, List.set_cons_succ, i64_w, i32_w]
                          rfl
                        refine pure_ (i := 2) (N := some 44) (v := ?_) (a' := ?_) #[true, true, true, false, false, false, false, false, false, false, false, false, false, false, false, false, false, false, false, false, false, false, false, false, false] rfl rfl (any_of HT_.out (by kernel_rfl)) (fun _ _ _ h => h) (Or.inl ⟨by rfl, ?_⟩) ?_ ?_
                        rotate_left
                        · intro w'
                          go_simp
                          with_reducible rfl
                        rotate_left
                        · simp only [Act.put, List.setIfInBounds_toArray, List.set_cons_zero, List.set_cons_succ, i64_w, i32_w]
                          rfl
                        refine pure_ (i := 3) (N := some 45) (v := ?_) (a' := ?_) #[true, true, true, true, false, false, false, false, false, false, false, false, false, false, false, false, false, false, false, false, false, false, false, false, false] rfl rfl (any_of HT_.out (by kernel_rfl)) (fun _ _ _ h => h) (Or.inl ⟨by rfl, ?_⟩) ?_ ?_
                        rotate_left
                        · intro w'
                          go_simp
                          with_reducible rfl
                        rotate_left
                        · simp only [Act.put, List.setIfInBounds_toArray, List.set_cons_zero, List.set_cons_succ, i64_w, i32_w]
                          rfl
                        refine pure_ (i := 5) (N := some 47) (v := ?_) (a' := ?_) #[true, true, true, true, false, true, false, false, false, false, false, false, false, false, false, false, false, false, false, false, false, false, false, false, false] rfl rfl (any_of HT_.out (by kernel_rfl)) (fun _ _ _ h => h) (Or.inl ⟨by rfl, ?_⟩) ?_ ?_
                        rotate_left
                        · intro w'
                          go_simp
                          with_reducible rfl
                        rotate_left
                        · simp only [Act.put, List.setIfInBounds_toArray, List.set_cons_zero, List.set_cons_succ, i64_w, i32_w]
                          rfl
                        refine pure_ (i := 6) (N := some 48) (v := ?_) (a' := ?_) #[true, true, true, true, false, true, true, false, false, false, false, false, false, false, false, false, false, false, false, false, false, false, false, false, false] rfl rfl (any_of HT_.out (by kernel_rfl)) (fun _ _ _ h => h) (Or.inl ⟨by rfl, ?_⟩) ?_ ?_
                        rotate_left
                        · intro w'
                          go_simp
                          with_reducible rfl
                        rotate_left
                        · simp only [Act.put, List.setIfInBounds_toArray, List.set_cons_zero, List.set_cons_succ, i64_w, i32_w]
                          rfl
                        refine pure_ (i := 7) (N := some 49) (v := ?_) (a' := ?_) #[true, true, true, true, false, true, true, true, false, false, false, false, false, false, false, false, false, false, false, false, false, false, false, false, false] rfl rfl (any_of HT_.out (by kernel_rfl)) (fun _ _ _ h => h) (Or.inl ⟨by rfl, ?_⟩) ?_ ?_
                        rotate_left
                        · intro w'
                          go_simp
                          with_reducible rfl
                        rotate_left
                        · simp only [Act.put, List.setIfInBounds_toArray, List.set_cons_zero, List.set_cons_succ, i64_w, i32_w]
                          rfl
                        refine pure_ (i := 8) (N := some 50) (v := ?_) (a' := ?_) #[true, true, true, true, false, true, true, true, true, false, false, false, false, false, false, false, false, false, false, false, false, false, false, false, false] rfl rfl (any_of HT_.out (by kernel_rfl)) (fun _ _ _ h => h) (Or.inl ⟨by rfl, ?_⟩) ?_ ?_
                        rotate_left
                        · intro w'
                          go_simp
                          with_reducible rfl
                        rotate_left
                        · simp only [Act.put, List.setIfInBounds_toArray, List.set_cons_zero, List.set_cons_succ, i64_w, i32_w]
                          rfl
                        refine take_ (i := 4) (N := some 46) (v := ?_) (a' := ?_) #[true, true, true, true, true, true, true, true, true, false, false, false, false, false, false, false, false, false, false, false, false, false, false, false, false] rfl rfl (take_ofW HT_.out HW_.out (by kernel_rfl)) (fun _ _ _ h => h) (Or.inl ⟨by rfl, ?_⟩) hHeld ?_ ?_
                        rotate_left
                        · rintro w' ⟨s0, s1, s2, s3, s4, s5, s6, s7, s8, s9, s10, s11, s12, s13, s14, s15, s16, s17, s18, s19, s20, s21, s22, s23, s24, s25, s26, s27⟩
                          go_simp
                          with_reducible rfl
                        rotate_left
                        · simp only [Act.put, List.setIfInBounds_toArray, List.set_cons_zero, List.set_cons_succ, i64_w, i32_w]
                          rfl
                        refine take_ (i := 9) (N := some 51) (v := ?_) (a' := ?_) #[true, true, true, true, true, true, true, true, true, true, false, false, false, false, false, false, false, false, false, false, false, false, false, false, false] rfl rfl (take_ofW HT_.out HW_.out (by kernel_rfl)) (fun _ _ _ h => h) (Or.inl ⟨by rfl, ?_⟩) hHeld ?_ ?_
                        rotate_left
                        · rintro w' ⟨s0, s1, s2, s3, s4, s5, s6, s7, s8, s9, s10, s11, s12, s13, s14, s15, s16, s17, s18, s19, s20, s21, s22, s23, s24, s25, s26, s27⟩
                          go_simp
                          with_reducible rfl
                        rotate_left
                        · simp only [Act.put, List.setIfInBounds_toArray, List.set_cons_zero, List.set_cons_succ, i64_w, i32_w]
                          rfl
                        refine pure_ (i := 10) (N := some 52) (v := ?_) (a' := ?_) #[true, true, true, true, true, true, true, true, true, true, true, false, false, false, false, false, false, false, false, false, false, false, false, false, false] rfl rfl (any_of HT_.out (by kernel_rfl)) (fun _ _ _ h => h) (Or.inl ⟨by rfl, ?_⟩) ?_ ?_
                        rotate_left
                        · intro w'
                          go_simp
                          with_reducible rfl
                        rotate_left
                        · simp only [Act.put, List.setIfInBounds_toArray, List.set_cons_zero, List.set_cons_succ, i64_w, i32_w]
                          rfl
                        refine pure_ (i := 11) (N := some 53) (v := ?_) (a' := ?_) #[true, true, true, true, true, true, true, true, true, true, true, true, false, false, false, false, false, false, false, false, false, false, false, false, false] rfl rfl (any_of HT_.out (by kernel_rfl)) (fun _ _ _ h => h) (Or.inl ⟨by rfl, ?_⟩) ?_ ?_
                        rotate_left
                        · intro w'
                          go_simp
                          with_reducible rfl
                        rotate_left
                        · simp only [Act.put, List.setIfInBounds_toArray, List.set_cons_zero, List.set_cons_succ, i64_w, i32_w]
                          rfl
                        refine pure_ (i := 12) (N := some 54) (v := ?_) (a' := ?_) #[true, true, true, true, true, true, true, true, true, true, true, true, true, false, false, false, false, false, false, false, false, false, false, false, false] rfl rfl (any_of HT_.out (by kernel_rfl)) (fun _ _ _ h => h) (Or.inl ⟨by rfl, ?_⟩) ?_ ?_
                        rotate_left
                        · intro w'
                          go_simp
                          with_reducible rfl
                        rotate_left
                        · simp only [Act.put, List.setIfInBounds_toArray, List.set_cons_zero, List.set_cons_succ, i64_w, i32_w]
                          rfl
                        refine pure_ (i := 13) (N := some 55) (v := ?_) (a' := ?_) #[true, true, true, true, true, true, true, true, true, true, true, true, true, true, false, false, false, false, false, false, false, false, false, false, false] rfl rfl (any_of HT_.out (by kernel_rfl)) (fun _ _ _ h => h) (Or.inl ⟨by rfl, ?_⟩) ?_ ?_
                        rotate_left
                        · intro w'
                          go_simp
                          with_reducible rfl
                        rotate_left
                        · simp only [Act.put, List.setIfInBounds_toArray, List.set_cons_zero, List.set_cons_succ, i64_w, i32_w]
                          rfl
                        refine pure_ (i := 14) (N := some 56) (v := ?_) (a' := ?_) #[true, true, true, true, true, true, true, true, true, true, true, true, true, true, true, false, false, false, false, false, false, false, false, false, false] rfl rfl (any_of HT_.out (by kernel_rfl)) (fun _ _ _ h => h) (Or.inl ⟨by rfl, ?_⟩) ?_ ?_
                        rotate_left
                        · intro w'
                          go_simp
                          with_reducible rfl
                        rotate_left
                        · simp only [Act.put, List.setIfInBounds_toArray, List.set_cons_zero, List.set_cons_succ, i64_w, i32_w]
                          rfl
                        refine pure_ (i := 15) (N := some 57) (v := ?_) (a' := ?_) #[true, true, true, true, true, true, true, true, true, true, true, true, true, true, true, true, false, false, false, false, false, false, false, false, false] rfl rfl (any_of HT_.out (by kernel_rfl)) (fun _ _ _ h => h) (Or.inl ⟨by rfl, ?_⟩) ?_ ?_
                        rotate_left
                        · intro w'
                          go_simp
                          with_reducible rfl
                        rotate_left
                        · simp only [Act.put, List.setIfInBounds_toArray, List.set_cons_zero, List.set_cons_succ, i64_w, i32_w]
                          rfl
                        refine pure_ (i := 17) (N := some 59) (v := ?_) (a' := ?_) #[true, true, true, true, true, true, true, true, true, true, true, true, true, true, true, true, false, true, false, false, false, false, false, false, false] rfl rfl (any_of HT_.out (by kernel_rfl)) (fun _ _ _ h => h) (Or.inl ⟨by rfl, ?_⟩) ?_ ?_
                        rotate_left
                        · intro w'
                          go_simp
                          with_reducible rfl
                        rotate_left
                        · simp only [Act.put, List.setIfInBounds_toArray, List.set_cons_zero, List.set_cons_succ, i64_w, i32_w]
                          rfl
                        refine pure_ (i := 18) (N := some 60) (v := ?_) (a' := ?_) #[true, true, true, true, true, true, true, true, true, true, true, true, true, true, true, true, false, true, true, false, false, false, false, false, false] rfl rfl (any_of HT_.out (by kernel_rfl)) (fun _ _ _ h => h) (Or.inl ⟨by rfl, ?_⟩) ?_ ?_
                        rotate_left
                        · intro w'
                          go_simp
                          with_reducible rfl
                        rotate_left
                        · simp only [Act.put, List.setIfInBounds_toArray, List.set_cons_zero, List.set_cons_succ, i64_w, i32_w]
                          rfl
                        refine pure_ (i := 19) (N := some 61) (v := ?_) (a' := ?_) #[true, true, true, true, true, true, true, true, true, true, true, true, true, true, true, true, false, true, true, true, false, false, false, false, false] rfl rfl (any_of HT_.out (by kernel_rfl)) (fun _ _ _ h => h) (Or.inl ⟨by rfl, ?_⟩) ?_ ?_
                        rotate_left
                        · intro w'
                          go_simp
                          with_reducible rfl
                        rotate_left
                        · simp only [Act.put, List.setIfInBounds_toArray, List.set_cons_zero, List.set_cons_succ, i64_w, i32_w]
                          rfl
                        refine pure_ (i := 20) (N := some 62) (v := ?_) (a' := ?_) #[true, true, true, true, true, true, true, true, true, true, true, true, true, true, true, true, false, true, true, true, true, false, false, false, false] rfl rfl (any_of HT_.out (by kernel_rfl)) (fun _ _ _ h => h) (Or.inl ⟨by rfl, ?_⟩) ?_ ?_
                        rotate_left
                        · intro w'
                          go_simp
                          with_reducible rfl
                        rotate_left
                        · simp only [Act.put, List.setIfInBounds_toArray, List.set_cons_zero, List.set_cons_succ, i64_w, i32_w]
                          rfl
                        refine take_ (i := 16) (N := some 58) (v := ?_) (a' := ?_) #[true, true, true, true, true, true, true, true, true, true, true, true, true, true, true, true, true, true, true, true, true, false, false, false, false] rfl rfl (take_ofW HT_.out HW_.out (by kernel_rfl)) (fun _ _ _ h => h) (Or.inl ⟨by rfl, ?_⟩) hHeld ?_ ?_
                        rotate_left
                        · rintro w' ⟨s0, s1, s2, s3, s4, s5, s6, s7, s8, s9, s10, s11, s12, s13, s14, s15, s16, s17, s18, s19, s20, s21, s22, s23, s24, s25, s26, s27⟩
                          go_simp
                          with_reducible rfl
                        rotate_left
                        · simp only [Act.put, List.setIfInBounds_toArray, List.set_cons_zero, List.set_cons_succ, i64_w, i32_w]
                          rfl
                        refine take_ (i := 21) (N := some 63) (v := ?_) (a' := ?_) #[true, true, true, true, true, true, true, true, true, true, true, true, true, true, true, true, true, true, true, true, true, true, false, false, false] rfl rfl (take_ofW HT_.out HW_.out (by kernel_rfl)) (fun _ _ _ h => h) (Or.inl ⟨by rfl, ?_⟩) hHeld ?_ ?_
                        rotate_left
                        · rintro w' ⟨s0, s1, s2, s3, s4, s5, s6, s7, s8, s9, s10, s11, s12, s13, s14, s15, s16, s17, s18, s19, s20, s21, s22, s23, s24, s25, s26, s27⟩
                          go_simp
                          with_reducible rfl
                        rotate_left
                        · simp only [Act.put, List.setIfInBounds_toArray, List.set_cons_zero, List.set_cons_succ, i64_w, i32_w]
                          rfl
                        refine one_ (i := 22) (N := some 64) #[true, true, true, true, true, true, true, true, true, true, true, true, true, true, true, true, true, true, true, true, true, true, true, false, false] rfl rfl (one_of HT_.out (by kernel_rfl)) (by decide) (fun K hK => ?_)
                        refine goes_ Try.func14 (by kernel_rfl) rfl #[.agg #[.int .i64 ((rd_T42 t153 x10_2).f1.f0), .string ((rd_T42 t153 x10_2).f1.f1), .string ((rd_T42 t153 x10_2).f1.f2), .int .i64 ((rd_T42 t153 x10_2).f1.f3), .int .i64 ((rd_T42 t153 x10_2).f1.f4), .slice A159_6 ((rd_T42 t153 x10_2).f1.f5).length c159_6], .agg #[.int .i64 ((rd_T42 t156 x10_2).f1.f0), .string ((rd_T42 t156 x10_2).f1.f1), .string ((rd_T42 t156 x10_2).f1.f2), .int .i64 ((rd_T42 t156 x10_2).f1.f3), .int .i64 ((rd_T42 t156 x10_2).f1.f4), .slice A160_6 ((rd_T42 t156 x10_2).f1.f5).length c160_6]] (by rfl) rfl rfl (by (try simp only [List.map_toArray, List.map_cons, List.map_nil]); first | done | rfl | (simp only [List.length_drop, List.length_take]; rfl)) ?_
                        with_reducible refine (lockgateref28_SameCall.calls ((rd_T42 t153 x10_2).f1.f0) ((rd_T42 t153 x10_2).f1.f1) ((rd_T42 t153 x10_2).f1.f2) ((rd_T42 t153 x10_2).f1.f3) ((rd_T42 t153 x10_2).f1.f4) _ _ ((rd_T42 t153 x10_2).f1.f5) ((rd_T42 t156 x10_2).f1.f0) ((rd_T42 t156 x10_2).f1.f1) ((rd_T42 t156 x10_2).f1.f2) ((rd_T42 t156 x10_2).f1.f3) ((rd_T42 t156 x10_2).f1.f4) _ _ ((rd_T42 t156 x10_2).f1.f5) false _ ?side1 ?side2 ?side3 ?side4 A21.out).mono ?_
                        (case side1 => repeat (first | exact (by repeat (first | (with_reducible exact HR161_6.out) | (with_reducible refine Kd.C_alloc ?_ _) | (with_reducible refine Kd.C_drewN ?_ _) | (with_reducible refine Kd.C_drew ?_) | exact HR161_6.out)) | (with_reducible refine Kd.C_alloc ?_ _) | (with_reducible refine Kd.C_drewN ?_ _) | (with_reducible refine Kd.C_drew ?_)))
                        (case side2 => exact HC161_6.out)
                        (case side3 => repeat (first | exact (by repeat (first | (with_reducible exact HR162_6.out) | (with_reducible refine Kd.C_alloc ?_ _) | (with_reducible refine Kd.C_drewN ?_ _) | (with_reducible refine Kd.C_drew ?_) | exact HR162_6.out)) | (with_reducible refine Kd.C_alloc ?_ _) | (with_reducible refine Kd.C_drewN ?_ _) | (with_reducible refine Kd.C_drew ?_)))
                        (case side4 => exact HC162_6.out)
                        rintro e w26 ⟨rfl, hb⟩
                        have HS0_ := (hb.cell (World.block_lt_of_cell? _ _ (hHeld.1))).trans (hHeld.1)
                        have HS1_ := (hb.cell (World.block_lt_of_cell? _ _ (hHeld.2.1))).trans (hHeld.2.1)
                        have HS2_ := (hb.cell (World.block_lt_of_cell? _ _ (hHeld.2.2.1))).trans (hHeld.2.2.1)
                        have HS3_ := (hb.cell (World.block_lt_of_cell? _ _ (hHeld.2.2.2.1))).trans (hHeld.2.2.2.1)
                        have HS4_ := (hb.cell (World.block_lt_of_cell? _ _ (hHeld.2.2.2.2.1))).trans (hHeld.2.2.2.2.1)
                        have HS5_ := (hb.cell (World.block_lt_of_cell? _ _ (hHeld.2.2.2.2.2.1))).trans (hHeld.2.2.2.2.2.1)
                        have HS6_ := (hb.cell (World.block_lt_of_cell? _ _ (hHeld.2.2.2.2.2.2.1))).trans (hHeld.2.2.2.2.2.2.1)
                        have HS7_ := (hb.cell (World.block_lt_of_cell? _ _ (hHeld.2.2.2.2.2.2.2.1))).trans (hHeld.2.2.2.2.2.2.2.1)
                        have HS8_ := (hb.cell (World.block_lt_of_cell? _ _ (hHeld.2.2.2.2.2.2.2.2.1))).trans (hHeld.2.2.2.2.2.2.2.2.1)
                        have HS9_ := (hb.cell (World.block_lt_of_cell? _ _ (hHeld.2.2.2.2.2.2.2.2.2.1))).trans (hHeld.2.2.2.2.2.2.2.2.2.1)
                        have HS10_ := (hb.cell (World.block_lt_of_cell? _ _ (hHeld.2.2.2.2.2.2.2.2.2.2.1))).trans (hHeld.2.2.2.2.2.2.2.2.2.2.1)
                        have HS11_ := (hb.cell (World.block_lt_of_cell? _ _ (hHeld.2.2.2.2.2.2.2.2.2.2.2.1))).trans (hHeld.2.2.2.2.2.2.2.2.2.2.2.1)
                        have HS12_ := (hb.cell (World.block_lt_of_cell? _ _ (hHeld.2.2.2.2.2.2.2.2.2.2.2.2.1))).trans (hHeld.2.2.2.2.2.2.2.2.2.2.2.2.1)
                        have HS13_ := (hb.cell (World.block_lt_of_cell? _ _ (hHeld.2.2.2.2.2.2.2.2.2.2.2.2.2.1))).trans (hHeld.2.2.2.2.2.2.2.2.2.2.2.2.2.1)
                        have HS14_ := (hb.cell (World.block_lt_of_cell? _ _ (hHeld.2.2.2.2.2.2.2.2.2.2.2.2.2.2.1))).trans (hHeld.2.2.2.2.2.2.2.2.2.2.2.2.2.2.1)
                        have HS15_ := (hb.cell (World.block_lt_of_cell? _ _ (hHeld.2.2.2.2.2.2.2.2.2.2.2.2.2.2.2.1))).trans (hHeld.2.2.2.2.2.2.2.2.2.2.2.2.2.2.2.1)
                        have HS16_ := (hb.cell (World.block_lt_of_cell? _ _ (hHeld.2.2.2.2.2.2.2.2.2.2.2.2.2.2.2.2.1))).trans (hHeld.2.2.2.2.2.2.2.2.2.2.2.2.2.2.2.2.1)
                        have HS17_ := (hb.cell (World.block_lt_of_cell? _ _ (hHeld.2.2.2.2.2.2.2.2.2.2.2.2.2.2.2.2.2.1))).trans (hHeld.2.2.2.2.2.2.2.2.2.2.2.2.2.2.2.2.2.1)
                        have HS18_ := (hb.cell (World.block_lt_of_cell? _ _ (hHeld.2.2.2.2.2.2.2.2.2.2.2.2.2.2.2.2.2.2.1))).trans (hHeld.2.2.2.2.2.2.2.2.2.2.2.2.2.2.2.2.2.2.1)
                        have HS19_ := (hb.cell (World.block_lt_of_cell? _ _ (hHeld.2.2.2.2.2.2.2.2.2.2.2.2.2.2.2.2.2.2.2.1))).trans (hHeld.2.2.2.2.2.2.2.2.2.2.2.2.2.2.2.2.2.2.2.1)
                        have HS20_ := (hb.cell (World.block_lt_of_cell? _ _ (hHeld.2.2.2.2.2.2.2.2.2.2.2.2.2.2.2.2.2.2.2.2.1))).trans (hHeld.2.2.2.2.2.2.2.2.2.2.2.2.2.2.2.2.2.2.2.2.1)
                        have HS21_ := (hb.cell (World.block_lt_of_cell? _ _ (hHeld.2.2.2.2.2.2.2.2.2.2.2.2.2.2.2.2.2.2.2.2.2.1))).trans (hHeld.2.2.2.2.2.2.2.2.2.2.2.2.2.2.2.2.2.2.2.2.2.1)
                        have HS22_ := (hb.cell (World.block_lt_of_cell? _ _ (hHeld.2.2.2.2.2.2.2.2.2.2.2.2.2.2.2.2.2.2.2.2.2.2.1))).trans (hHeld.2.2.2.2.2.2.2.2.2.2.2.2.2.2.2.2.2.2.2.2.2.2.1)
                        have HS23_ := (hb.cell (World.block_lt_of_cell? _ _ (hHeld.2.2.2.2.2.2.2.2.2.2.2.2.2.2.2.2.2.2.2.2.2.2.2.1))).trans (hHeld.2.2.2.2.2.2.2.2.2.2.2.2.2.2.2.2.2.2.2.2.2.2.2.1)
                        have HS24_ := (hb.cell (World.block_lt_of_cell? _ _ (hHeld.2.2.2.2.2.2.2.2.2.2.2.2.2.2.2.2.2.2.2.2.2.2.2.2.1))).trans (hHeld.2.2.2.2.2.2.2.2.2.2.2.2.2.2.2.2.2.2.2.2.2.2.2.2.1)
                        have HS25_ := (hb.cell (World.block_lt_of_cell? _ _ (hHeld.2.2.2.2.2.2.2.2.2.2.2.2.2.2.2.2.2.2.2.2.2.2.2.2.2.1))).trans (hHeld.2.2.2.2.2.2.2.2.2.2.2.2.2.2.2.2.2.2.2.2.2.2.2.2.2.1)
                        have HS26_ := (hb.cell (World.block_lt_of_cell? _ _ (hHeld.2.2.2.2.2.2.2.2.2.2.2.2.2.2.2.2.2.2.2.2.2.2.2.2.2.2.1))).trans (hHeld.2.2.2.2.2.2.2.2.2.2.2.2.2.2.2.2.2.2.2.2.2.2.2.2.2.2.1)
                        have HS27_ := (hb.cell (World.block_lt_of_cell? _ _ (hHeld.2.2.2.2.2.2.2.2.2.2.2.2.2.2.2.2.2.2.2.2.2.2.2.2.2.2.2))).trans (hHeld.2.2.2.2.2.2.2.2.2.2.2.2.2.2.2.2.2.2.2.2.2.2.2.2.2.2.2)
                        refine ⟨_, rfl, ?_⟩
                        have n0_ := Aside0.mk (Kd.S_below (by (with_reducible repeat (first | apply Kd.S_alloc | apply Kd.S_drewN | apply Kd.S_drew)); exact HO_8.out) hb)
                        have n1_ := Aside0.mk (Kd.S_below (by (with_reducible repeat (first | apply Kd.S_alloc | apply Kd.S_drewN | apply Kd.S_drew)); exact HO_9.out) hb)
                        have n2_ := Aside0.mk (Kd.R_below (by (with_reducible repeat (first | apply Kd.R_alloc | apply Kd.R_drewN | apply Kd.R_drew)); exact HL159_6.out) hb)
                        have n3_ := Aside0.mk (Kd.R_below (by (with_reducible repeat (first | apply Kd.R_alloc | apply Kd.R_drewN | apply Kd.R_drew)); exact HL160_6.out) hb)
                        have n4_ := Aside0.mk (Kd.R_below (by (with_reducible repeat (first | apply Kd.R_alloc | apply Kd.R_drewN | apply Kd.R_drew)); exact HL161_6.out) hb)
                        have n5_ := Aside0.mk (Kd.R_below (by (with_reducible repeat (first | apply Kd.R_alloc | apply Kd.R_drewN | apply Kd.R_drew)); exact HL162_6.out) hb)
                        have n6_ := Aside0.mk (Kd.C_below (by repeat (first | (with_reducible exact HR159_6.out) | (with_reducible refine Kd.C_alloc ?_ _) | (with_reducible refine Kd.C_drewN ?_ _) | (with_reducible refine Kd.C_drew ?_) | exact HR159_6.out)) hb)
                        have n7_ := Aside0.mk (Kd.C_below (by repeat (first | (with_reducible exact HR160_6.out) | (with_reducible refine Kd.C_alloc ?_ _) | (with_reducible refine Kd.C_drewN ?_ _) | (with_reducible refine Kd.C_drew ?_) | exact HR160_6.out)) hb)
                        have n8_ := Aside0.mk (Kd.C_below (by repeat (first | (with_reducible exact HR161_6.out) | (with_reducible refine Kd.C_alloc ?_ _) | (with_reducible refine Kd.C_drewN ?_ _) | (with_reducible refine Kd.C_drew ?_) | exact HR161_6.out)) hb)
                        have n9_ := Aside0.mk (Kd.C_below (by repeat (first | (with_reducible exact HR162_6.out) | (with_reducible refine Kd.C_alloc ?_ _) | (with_reducible refine Kd.C_drewN ?_ _) | (with_reducible refine Kd.C_drew ?_) | exact HR162_6.out)) hb)
                        have n10_ := Aside0.mk (below_step (by repeat (first | (with_reducible first | exact HB.out | apply below_alloc | apply pw_below_drewN | apply below_drew1) | exact HB.out)) hb)
                        clear HO_8
                        clear HO_9
                        clear HL159_6
                        clear HL160_6
                        clear HL161_6
                        clear HL162_6
                        clear HR159_6
                        clear HR160_6
                        clear HR161_6
                        clear HR162_6
                        clear HB
                        have HO_8 := n0_
                        have HO_9 := n1_
                        have HL159_6 := n2_
                        have HL160_6 := n3_
                        have HL161_6 := n4_
                        have HL162_6 := n5_
                        have HR159_6 := n6_
                        have HR160_6 := n7_
                        have HR161_6 := n8_
                        have HR162_6 := n9_
                        have HB := n10_
                        clear n0_ n1_ n2_ n3_ n4_ n5_ n6_ n7_ n8_ n9_ n10_
                        (try clear hb)
                        (try clear hb2)
                        (try clear hk)
                        (try clear hi)
                        refine hK.out _ _ ⟨HS0_, HS1_, HS2_, HS3_, HS4_, HS5_, HS6_, HS7_, HS8_, HS9_, HS10_, HS11_, HS12_, HS13_, HS14_, HS15_, HS16_, HS17_, HS18_, HS19_, HS20_, HS21_, HS22_, HS23_, HS24_, HS25_, HS26_, HS27_⟩ (fun hHeld => ?_)
                        clear hK K
                        refine norm_ (a' := ?_) ?_ ?_
                        rotate_left
                        · show Act.put _ (some 64) _ = _
                          simp only [Act.put, List.setIfInBounds_toArray, List.set_cons_zero, List.set_cons_succ, i64_w, i32_w]
                          rfl
                        refine pure_ (i := 23) (N := some 65) (v := ?_) (a' := ?_) #[true, true, true, true, true, true, true, true, true, true, true, true, true, true, true, true, true, true, true, true, true, true, true, true, false] rfl rfl (any_of HT_.out (by kernel_rfl)) (fun _ _ _ h => h) (Or.inl ⟨by rfl, ?_⟩) ?_ ?_
                        rotate_left
                        · intro w'
                          go_simp
                          with_reducible rfl
                        rotate_left
                        · simp only [Act.put, List.setIfInBounds_toArray, List.set_cons_zero, List.set_cons_succ, i64_w, i32_w]
                          rfl
                        refine pure_ (i := 24) (N := some 66) (v := ?_) (a' := ?_) #[true, true, true, true, true, true, true, true, true, true, true, true, true, true, true, true, true, true, true, true, true, true, true, true, true] rfl rfl (any_of HT_.out (by kernel_rfl)) (fun _ _ _ h => h) (Or.inl ⟨by rfl, ?_⟩) ?_ ?_
                        rotate_left
                        · intro w'
                          go_simp
                          with_reducible rfl
                        rotate_left
                        · simp only [Act.put, List.setIfInBounds_toArray, List.set_cons_zero, List.set_cons_succ, i64_w, i32_w]
                          rfl
                        refine done_ (done_of HT_.out (by kernel_rfl)) ?_
                        try go_wp2
                        go_ret
                        exact ⟨by first | rfl | (simp [errW_none, errW_some] <;> rfl) | (simp [*, errW_none, errW_some] <;> rfl), by repeat (first | (with_reducible first | exact HB.out | apply below_alloc | apply pw_below_drewN | apply below_drew1) | exact HB.out)⟩
                    · rw [if_neg c20] at H
                      have c20b0 : (((rd_T42 t153 x10_2).f0) == ((rd_T42 t156 x10_2).f0)) = false := beq_eq_false_iff_ne.mpr c20
                      have c20b1 : (((rd_T42 t153 x10_2).f0) != ((rd_T42 t156 x10_2).f0)) = true := bne_iff_ne.mpr c20
                      obtain rfl := Option.some.inj H
                      try go_wp2
                      have n0_ := Aside0.mk (Kd.S_drew HO_8.out)
                      have n1_ := Aside0.mk (Kd.S_drew HO_9.out)
                      have n2_ := Aside0.mk (below_drew1 HB.out)
                      clear HO_8
                      clear HO_9
                      clear HB
                      have HO_8 := n0_
                      have HO_9 := n1_
                      have HB := n2_
                      clear n0_ n1_ n2_
                      have p159 : 0 ≤ (x10_2 : Int) := of_decide_eq_true (by first | (with_reducible assumption) | assumption)
                      have q159 : x10_2 < (t153.length : Int) := of_decide_eq_true (by first | (with_reducible assumption) | assumption)
                      obtain ⟨ad159, A159_6, c159_6, e159, hx159_0, hx159_1, hx159_2, hx159_3, hx159_4, hx159_5, hx159_6, hl159_6, hi159_6⟩ := at_T42 (Kd.S_reads' HO_8.out).2.2 x10_2 p159 q159
                      cases e159
                      obtain ⟨ce159, hce159, hMe159, hcc159⟩ := Kd.S_get HO_8.out z42 x10_2 p159 (by first | exact q159 | exact of_decide_eq_true (by first | (with_reducible assumption) | assumption) | (have e_ := (Kd.S_reads' HO_8.out).1; omega))
                      obtain ⟨ve159_6, rfl, ge159_6⟩ := k42_openM hMe159
                      have hv159_6 := hcc159 6 _ rfl
                      rw [add_field _ _ 6 (by omega)] at hv159_6
                      replace hv159_6 := Option.some.inj (hv159_6.symm.trans hx159_6)
                      rw [hv159_6] at ge159_6
                      have HL159_6 := Aside0.mk (show Kd.R (Kd.int .u8) 5 _ _ _ _ ((rd_T42 t153 x10_2).f1.f5) from ge159_6)
                      clear hv159_6 ge159_6
                      clear hcc159 hce159
                      have HR159_6 := Aside0.mk hi159_6
                      have HC159_6 := Aside0.mk hl159_6
                      clear hi159_6 hl159_6
                      replace p159 := eq_true p159
                      replace q159 := eq_true q159
                      have p160 : 0 ≤ (x10_2 : Int) := of_decide_eq_true (by first | (with_reducible assumption) | assumption)
                      have q160 : x10_2 < (t156.length : Int) := of_decide_eq_true (by first | (with_reducible assumption) | assumption)
                      obtain ⟨ad160, A160_6, c160_6, e160, hx160_0, hx160_1, hx160_2, hx160_3, hx160_4, hx160_5, hx160_6, hl160_6, hi160_6⟩ := at_T42 (Kd.S_reads' HO_9.out).2.2 x10_2 p160 q160
                      cases e160
                      obtain ⟨ce160, hce160, hMe160, hcc160⟩ := Kd.S_get HO_9.out z42 x10_2 p160 (by first | exact q160 | exact of_decide_eq_true (by first | (with_reducible assumption) | assumption) | (have e_ := (Kd.S_reads' HO_9.out).1; omega))
                      obtain ⟨ve160_6, rfl, ge160_6⟩ := k42_openM hMe160
                      have hv160_6 := hcc160 6 _ rfl
                      rw [add_field _ _ 6 (by omega)] at hv160_6
                      replace hv160_6 := Option.some.inj (hv160_6.symm.trans hx160_6)
                      rw [hv160_6] at ge160_6
                      have HL160_6 := Aside0.mk (show Kd.R (Kd.int .u8) 5 _ _ _ _ ((rd_T42 t156 x10_2).f1.f5) from ge160_6)
                      clear hv160_6 ge160_6
                      clear hcc160 hce160
                      have HR160_6 := Aside0.mk hi160_6
                      have HC160_6 := Aside0.mk hl160_6
                      clear hi160_6 hl160_6
                      replace p160 := eq_true p160
                      replace q160 := eq_true q160
                      refine start_ (n := 25) (S := fun w' => w'.cell? (ad159.add ((x10_2).toNat * 7)) = some (.int .i64 ((rd_T42 t153 x10_2).f0)) ∧ w'.cell? ⟨(ad159.add ((x10_2).toNat * 7)).block, (ad159.add ((x10_2).toNat * 7)).off + 1, none⟩ = some (.int .i64 ((rd_T42 t153 x10_2).f1.f0)) ∧ w'.cell? ⟨(ad159.add ((x10_2).toNat * 7)).block, (ad159.add ((x10_2).toNat * 7)).off + 2, none⟩ = some (.string ((rd_T42 t153 x10_2).f1.f1)) ∧ w'.cell? ⟨(ad159.add ((x10_2).toNat * 7)).block, (ad159.add ((x10_2).toNat * 7)).off + 3, none⟩ = some (.string ((rd_T42 t153 x10_2).f1.f2)) ∧ w'.cell? ⟨(ad159.add ((x10_2).toNat * 7)).block, (ad159.add ((x10_2).toNat * 7)).off + 4, none⟩ = some (.int .i64 ((rd_T42 t153 x10_2).f1.f3)) ∧ w'.cell? ⟨(ad159.add ((x10_2).toNat * 7)).block, (ad159.add ((x10_2).toNat * 7)).off + 5, none⟩ = some (.int .i64 ((rd_T42 t153 x10_2).f1.f4)) ∧ w'.cell? ⟨(ad159.add ((x10_2).toNat * 7)).block, (ad159.add ((x10_2).toNat * 7)).off + 6, none⟩ = some (.slice A159_6 ((rd_T42 t153 x10_2).f1.f5).length c159_6) ∧ w'.cell? (ad160.add ((x10_2).toNat * 7)) = some (.int .i64 ((rd_T42 t156 x10_2).f0)) ∧ w'.cell? ⟨(ad160.add ((x10_2).toNat * 7)).block, (ad160.add ((x10_2).toNat * 7)).off + 1, none⟩ = some (.int .i64 ((rd_T42 t156 x10_2).f1.f0)) ∧ w'.cell? ⟨(ad160.add ((x10_2).toNat * 7)).block, (ad160.add ((x10_2).toNat * 7)).off + 2, none⟩ = some (.string ((rd_T42 t156 x10_2).f1.f1)) ∧ w'.cell? ⟨(ad160.add ((x10_2).toNat * 7)).block, (ad160.add ((x10_2).toNat * 7)).off + 3, none⟩ = some (.string ((rd_T42 t156 x10_2).f1.f2)) ∧ w'.cell? ⟨(ad160.add ((x10_2).toNat * 7)).block, (ad160.add ((x10_2).toNat * 7)).off + 4, none⟩ = some (.int .i64 ((rd_T42 t156 x10_2).f1.f3)) ∧ w'.cell? ⟨(ad160.add ((x10_2).toNat * 7)).block, (ad160.add ((x10_2).toNat * 7)).off + 5, none⟩ = some (.int .i64 ((rd_T42 t156 x10_2).f1.f4)) ∧ w'.cell? ⟨(ad160.add ((x10_2).toNat * 7)).block, (ad160.add ((x10_2).toNat * 7)).off + 6, none⟩ = some (.slice A160_6 ((rd_T42 t156 x10_2).f1.f5).length c160_6)) (ds := []) #[false, false, false, false, false, false, false, false, false, false, false, false, false, false, false, false, false, false, false, false, false, false, false, false, false] (by kernel_rfl) rfl rfl ⟨hx159_0, hx159_1, hx159_2, hx159_3, hx159_4, hx159_5, hx159_6, hx160_0, hx160_1, hx160_2, hx160_3, hx160_4, hx160_5, hx160_6⟩ (fun hHeld => ?_); refine with_tabW lockgatelaw31_LotsPicks.tab11 lockgatelaw31_LotsPicks.bits11 (fun HT_ HW_ => ?_)
                      generalize wr.drew = w27 at HO_8 HO_9 HB HL159_6 HL160_6 HR159_6 HR160_6 hx159_0 hx159_1 hx159_2 hx159_3 hx159_4 hx159_5 hx159_6 hx160_0 hx160_1 hx160_2 hx160_3 hx160_4 hx160_5 hx160_6 hHeld ⊢
                      refine pure_ (i := 0) (N := some 42) (v := ?_) (a' := ?_) #[true, false, false, false, false, false, false, false, false, false, false, false, false, false, false, false, false, false, false, false, false, false, false, false, false] rfl rfl (any_of HT_.out (by kernel_rfl)) (fun _ _ _ h => h) (Or.inl ⟨by rfl, ?_⟩) ?_ ?_
                      rotate_left
                      · intro w'
                        go_simp
                        with_reducible rfl
                      rotate_left
                      · simp only [Act.put, List.setIfInBounds_toArray, List.set_cons_zero, List.set_cons_succ, i64_w, i32_w]
                        rfl
                      refine pure_ (i := 1) (N := some 43) (v := ?_) (a' := ?_) #[true, true, false, false, false, false, false, false, false, false, false, false, false, false, false, false, false, false, false, false, false, false, false, false, false] rfl rfl (any_of HT_.out (by kernel_rfl)) (fun _ _ _ h => h) (Or.inl ⟨by rfl, ?_⟩) ?_ ?_
                      rotate_left
                      · intro w'
                        go_simp
                        with_reducible rfl
                      rotate_left
                      · simp only [Act.put, List.setIfInBounds_toArray, List.set_cons_zero, List.set_cons_succ, i64_w, i32_w]
                        rfl
                      refine pure_ (i := 2) (N := some 44) (v := ?_) (a' := ?_) #[true, true, true, false, false, false, false, false, false, false, false, false, false, false, false, false, false, false, false, false, false, false, false, false, false] rfl rfl (any_of HT_.out (by kernel_rfl)) (fun _ _ _ h => h) (Or.inl ⟨by rfl, ?_⟩) ?_ ?_
                      rotate_left
                      · intro w'
                        go_simp
                        with_reducible rfl
                      rotate_left
                      · simp only [Act.put, List.setIfInBounds_toArray, List.set_cons_zero, List.set_cons_succ, i64_w, i32_w]
                        rfl
                      refine pure_ (i := 3) (N := some 45) (v := ?_) (a' := ?_) #[true, true, true, true, false, false, false, false, false, false, false, false, false, false, false, false, false, false, false, false, false, false, false, false, false] rfl rfl (any_of HT_.out (by kernel_rfl)) (fun _ _ _ h => h) (Or.inl ⟨by rfl, ?_⟩) ?_ ?_
                      rotate_left
                      · intro w'
                        go_simp
                        with_reducible rfl
                      rotate_left
                      · simp only [Act.put, List.setIfInBounds_toArray, List.set_cons_zero, List.set_cons_succ, i64_w, i32_w]
                        rfl
                      refine pure_ (i := 5) (N := some 47) (v := ?_) (a' := ?_) #[true, true, true, true, false, true, false, false, false, false, false, false, false, false, false, false, false, false, false, false, false, false, false, false, false] rfl rfl (any_of HT_.out (by kernel_rfl)) (fun _ _ _ h => h) (Or.inl ⟨by rfl, ?_⟩) ?_ ?_
                      rotate_left
                      · intro w'
                        go_simp
                        with_reducible rfl
                      rotate_left
                      · simp only [Act.put, List.setIfInBounds_toArray, List.set_cons_zero, List.set_cons_succ, i64_w, i32_w]
                        rfl
                      refine pure_ (i := 6) (N := some 48) (v := ?_) (a' := ?_) #[true, true, true, true, false, true, true, false, false, false, false, false, false, false, false, false, false, false, false, false, false, false, false, false, false] rfl rfl (any_of HT_.out (by kernel_rfl)) (fun _ _ _ h => h) (Or.inl ⟨by rfl, ?_⟩) ?_ ?_
                      rotate_left
                      · intro w'
                        go_simp
                        with_reducible rfl
                      rotate_left
                      · simp only [Act.put, List.setIfInBounds_toArray, List.set_cons_zero, List.set_cons_succ, i64_w, i32_w]
                        rfl
                      refine pure_ (i := 7) (N := some 49) (v := ?_) (a' := ?_) #[true, true, true, true, false, true, true, true, false, false, false, false, false, false, false, false, false, false, false, false, false, false, false, false, false] rfl rfl (any_of HT_.out (by kernel_rfl)) (fun _ _ _ h => h) (Or.inl ⟨by rfl, ?_⟩) ?_ ?_
                      rotate_left
                      · intro w'
                        go_simp
                        with_reducible rfl
                      rotate_left
                      · simp only [Act.put, List.setIfInBounds_toArray, List.set_cons_zero, List.set_cons_succ, i64_w, i32_w]
                        rfl
                      refine pure_ (i := 8) (N := some 50) (v := ?_) (a' := ?_) #[true, true, true, true, false, true, true, true, true, false, false, false, false, false, false, false, false, false, false, false, false, false, false, false, false] rfl rfl (any_of HT_.out (by kernel_rfl)) (fun _ _ _ h => h) (Or.inl ⟨by rfl, ?_⟩) ?_ ?_
                      rotate_left
                      · intro w'
                        go_simp
                        with_reducible rfl
                      rotate_left
                      · simp only [Act.put, List.setIfInBounds_toArray, List.set_cons_zero, List.set_cons_succ, i64_w, i32_w]
                        rfl
                      refine take_ (i := 4) (N := some 46) (v := ?_) (a' := ?_) #[true, true, true, true, true, true, true, true, true, false, false, false, false, false, false, false, false, false, false, false, false, false, false, false, false] rfl rfl (take_ofW HT_.out HW_.out (by kernel_rfl)) (fun _ _ _ h => h) (Or.inl ⟨by rfl, ?_⟩) hHeld ?_ ?_
                      rotate_left
                      · rintro w' ⟨s0, s1, s2, s3, s4, s5, s6, s7, s8, s9, s10, s11, s12, s13⟩
                        go_simp
                        with_reducible rfl
                      rotate_left
                      · simp only [Act.put, List.setIfInBounds_toArray, List.set_cons_zero, List.set_cons_succ, i64_w, i32_w]
                        rfl
                      refine take_ (i := 9) (N := some 51) (v := ?_) (a' := ?_) #[true, true, true, true, true, true, true, true, true, true, false, false, false, false, false, false, false, false, false, false, false, false, false, false, false] rfl rfl (take_ofW HT_.out HW_.out (by kernel_rfl)) (fun _ _ _ h => h) (Or.inl ⟨by rfl, ?_⟩) hHeld ?_ ?_
                      rotate_left
                      · rintro w' ⟨s0, s1, s2, s3, s4, s5, s6, s7, s8, s9, s10, s11, s12, s13⟩
                        go_simp
                        with_reducible rfl
                      rotate_left
                      · simp only [Act.put, List.setIfInBounds_toArray, List.set_cons_zero, List.set_cons_succ, i64_w, i32_w]
                        rfl
                      refine pure_ (i := 10) (N := some 52) (v := ?_) (a' := ?_) #[true, true, true, true, true, true, true, true, true, true, true, false, false, false, false, false, false, false, false, false, false, false, false, false, false] rfl rfl (any_of HT_.out (by kernel_rfl)) (fun _ _ _ h => h) (Or.inl ⟨by rfl, ?_⟩) ?_ ?_
                      rotate_left
                      · intro w'
                        go_simp
                        with_reducible rfl
                      rotate_left
                      · simp only [Act.put, List.setIfInBounds_toArray, List.set_cons_zero, List.set_cons_succ, i64_w, i32_w]
                        rfl
                      refine pure_ (i := 11) (N := some 53) (v := ?_) (a' := ?_) #[true, true, true, true, true, true, true, true, true, true, true, true, false, false, false, false, false, false, false, false, false, false, false, false, false] rfl rfl (any_of HT_.out (by kernel_rfl)) (fun _ _ _ h => h) (Or.inl ⟨by rfl, ?_⟩) ?_ ?_
                      rotate_left
                      · intro w'
                        go_simp
                        with_reducible rfl
                      rotate_left
                      · simp only [Act.put, List.setIfInBounds_toArray, List.set_cons_zero, List.set_cons_succ, i64_w, i32_w]
                        rfl
                      refine pure_ (i := 12) (N := some 54) (v := undef) (a' := ?_) #[true, true, true, true, true, true, true, true, true, true, true, true, true, false, false, false, false, false, false, false, false, false, false, false, false] rfl rfl (any_of HT_.out (by kernel_rfl)) (fun _ _ _ h => h) (Or.inr ⟨by rfl, rfl⟩) ?_ ?_
                      rotate_left
                      · simp only [Act.put, List.setIfInBounds_toArray, List.set_cons_zero, List.set_cons_succ, i64_w, i32_w]
                        rfl
                      refine pure_ (i := 13) (N := some 55) (v := undef) (a' := ?_) #[true, true, true, true, true, true, true, true, true, true, true, true, true, true, false, false, false, false, false, false, false, false, false, false, false] rfl rfl (any_of HT_.out (by kernel_rfl)) (fun _ _ _ h => h) (Or.inr ⟨by rfl, rfl⟩) ?_ ?_
                      rotate_left
                      · simp only [Act.put, List.setIfInBounds_toArray, List.set_cons_zero, List.set_cons_succ, i64_w, i32_w]
                        rfl
                      refine pure_ (i := 14) (N := some 56) (v := undef) (a' := ?_) #[true, true, true, true, true, true, true, true, true, true, true, true, true, true, true, false, false, false, false, false, false, false, false, false, false] rfl rfl (any_of HT_.out (by kernel_rfl)) (fun _ _ _ h => h) (Or.inr ⟨by rfl, rfl⟩) ?_ ?_
                      rotate_left
                      · simp only [Act.put, List.setIfInBounds_toArray, List.set_cons_zero, List.set_cons_succ, i64_w, i32_w]
                        rfl
                      refine pure_ (i := 15) (N := some 57) (v := undef) (a' := ?_) #[true, true, true, true, true, true, true, true, true, true, true, true, true, true, true, true, false, false, false, false, false, false, false, false, false] rfl rfl (any_of HT_.out (by kernel_rfl)) (fun _ _ _ h => h) (Or.inr ⟨by rfl, rfl⟩) ?_ ?_
                      rotate_left
                      · simp only [Act.put, List.setIfInBounds_toArray, List.set_cons_zero, List.set_cons_succ, i64_w, i32_w]
                        rfl
                      refine pure_ (i := 16) (N := some 58) (v := undef) (a' := ?_) #[true, true, true, true, true, true, true, true, true, true, true, true, true, true, true, true, true, false, false, false, false, false, false, false, false] rfl rfl (any_of HT_.out (by kernel_rfl)) (fun _ _ _ h => h) (Or.inr ⟨by rfl, rfl⟩) ?_ ?_
                      rotate_left
                      · simp only [Act.put, List.setIfInBounds_toArray, List.set_cons_zero, List.set_cons_succ, i64_w, i32_w]
                        rfl
                      refine pure_ (i := 17) (N := some 59) (v := undef) (a' := ?_) #[true, true, true, true, true, true, true, true, true, true, true, true, true, true, true, true, true, true, false, false, false, false, false, false, false] rfl rfl (any_of HT_.out (by kernel_rfl)) (fun _ _ _ h => h) (Or.inr ⟨by rfl, rfl⟩) ?_ ?_
                      rotate_left
                      · simp only [Act.put, List.setIfInBounds_toArray, List.set_cons_zero, List.set_cons_succ, i64_w, i32_w]
                        rfl
                      refine pure_ (i := 18) (N := some 60) (v := undef) (a' := ?_) #[true, true, true, true, true, true, true, true, true, true, true, true, true, true, true, true, true, true, true, false, false, false, false, false, false] rfl rfl (any_of HT_.out (by kernel_rfl)) (fun _ _ _ h => h) (Or.inr ⟨by rfl, rfl⟩) ?_ ?_
                      rotate_left
                      · simp only [Act.put, List.setIfInBounds_toArray, List.set_cons_zero, List.set_cons_succ, i64_w, i32_w]
                        rfl
                      refine pure_ (i := 19) (N := some 61) (v := undef) (a' := ?_) #[true, true, true, true, true, true, true, true, true, true, true, true, true, true, true, true, true, true, true, true, false, false, false, false, false] rfl rfl (any_of HT_.out (by kernel_rfl)) (fun _ _ _ h => h) (Or.inr ⟨by rfl, rfl⟩) ?_ ?_
                      rotate_left
                      · simp only [Act.put, List.setIfInBounds_toArray, List.set_cons_zero, List.set_cons_succ, i64_w, i32_w]
                        rfl
                      refine pure_ (i := 20) (N := some 62) (v := undef) (a' := ?_) #[true, true, true, true, true, true, true, true, true, true, true, true, true, true, true, true, true, true, true, true, true, false, false, false, false] rfl rfl (any_of HT_.out (by kernel_rfl)) (fun _ _ _ h => h) (Or.inr ⟨by rfl, rfl⟩) ?_ ?_
                      rotate_left
                      · simp only [Act.put, List.setIfInBounds_toArray, List.set_cons_zero, List.set_cons_succ, i64_w, i32_w]
                        rfl
                      refine pure_ (i := 21) (N := some 63) (v := undef) (a' := ?_) #[true, true, true, true, true, true, true, true, true, true, true, true, true, true, true, true, true, true, true, true, true, true, false, false, false] rfl rfl (any_of HT_.out (by kernel_rfl)) (fun _ _ _ h => h) (Or.inr ⟨by rfl, rfl⟩) ?_ ?_
                      rotate_left
                      · simp only [Act.put, List.setIfInBounds_toArray, List.set_cons_zero, List.set_cons_succ, i64_w, i32_w]
                        rfl
                      refine pure_ (i := 22) (N := some 64) (v := undef) (a' := ?_) #[true, true, true, true, true, true, true, true, true, true, true, true, true, true, true, true, true, true, true, true, true, true, true, false, false] rfl rfl (any_of HT_.out (by kernel_rfl)) (fun _ _ _ h => h) (Or.inr ⟨by rfl, rfl⟩) ?_ ?_
                      rotate_left
                      · simp only [Act.put, List.setIfInBounds_toArray, List.set_cons_zero, List.set_cons_succ, i64_w, i32_w]
                        rfl
                      refine pure_ (i := 23) (N := some 65) (v := undef) (a' := ?_) #[true, true, true, true, true, true, true, true, true, true, true, true, true, true, true, true, true, true, true, true, true, true, true, true, false] rfl rfl (any_of HT_.out (by kernel_rfl)) (fun _ _ _ h => h) (Or.inr ⟨by rfl, rfl⟩) ?_ ?_
                      rotate_left
                      · simp only [Act.put, List.setIfInBounds_toArray, List.set_cons_zero, List.set_cons_succ, i64_w, i32_w]
                        rfl
                      refine pure_ (i := 24) (N := some 66) (v := ?_) (a' := ?_) #[true, true, true, true, true, true, true, true, true, true, true, true, true, true, true, true, true, true, true, true, true, true, true, true, true] rfl rfl (any_of HT_.out (by kernel_rfl)) (fun _ _ _ h => h) (Or.inl ⟨by rfl, ?_⟩) ?_ ?_
                      rotate_left
                      · intro w'
                        go_simp
                        with_reducible rfl
                      rotate_left
                      · simp only [Act.put, List.setIfInBounds_toArray, List.set_cons_zero, List.set_cons_succ, i64_w, i32_w]
                        rfl
                      refine done_ (done_of HT_.out (by kernel_rfl)) ?_
                      try go_wp2
                      go_ret
                      exact ⟨by first | rfl | (simp [errW_none, errW_some] <;> rfl) | (simp [*, errW_none, errW_some] <;> rfl), by repeat (first | (with_reducible first | exact HB.out | apply below_alloc | apply pw_below_drewN | apply below_drew1) | exact HB.out)⟩
                  · rw [if_neg c19] at H
                    exact absurd H (by simp)
                · rw [if_neg c18] at H
                  exact absurd H (by simp)
              · rw [if_neg c17] at H
                have c17b0 : decide (x10_2 < (t153.length : Int)) = false := decide_eq_false c17
                clear c17
                obtain rfl := Option.some.inj H
                go_wp2
                go_ret
                exact ⟨by first | rfl | (simp [errW_none, errW_some] <;> rfl) | (simp [*, errW_none, errW_some] <;> rfl), by repeat (first | (with_reducible first | exact HB.out | apply below_alloc | apply pw_below_drewN | apply below_drew1) | exact HB.out)⟩
        · rw [if_neg c12] at H
          have c12b0 : ((t153.length : Int) == (t156.length : Int)) = false := beq_eq_false_iff_ne.mpr c12
          have c12b1 : ((t153.length : Int) != (t156.length : Int)) = true := bne_iff_ne.mpr c12
          have c12b2 : (t153.length == t156.length) = false := by first | simpa using c12 | (simp at c12 ⊢; omega)
          obtain rfl := Option.some.inj H
          go_wp2_with (first | ((with_reducible refine gate_callee (f := 16) rfl ?_); refine goesL_ (some 26) rfl rfl Try.func16 (by kernel_rfl) rfl #[.int .i64 a0, .int .i64 a1, .int .i64 a2] rfl (by (try simp only [List.map_toArray, List.map_cons, List.map_nil]); first | done | rfl | (simp only [List.length_drop, List.length_take]; rfl)) ?_; (with_reducible refine (lots_Picks.calls kj4 a0 a1 a2 t153 _ A10.out).mono ?_); rintro e w28 ⟨v154, rfl, ho0, hb⟩; refine ⟨_, rfl, ?_⟩; have n0_ := Aside0.mk (Kd.S_lower ho0 (below_size (by repeat (first | (with_reducible first | exact HB.out | apply below_alloc | apply pw_below_drewN | apply below_drew1) | exact HB.out)))); have n1_ := Aside0.mk (below_step (by repeat (first | (with_reducible first | exact HB.out | apply below_alloc | apply pw_below_drewN | apply below_drew1) | exact HB.out)) hb); clear HB; have HO155 := n0_; have HB := n1_; clear n0_ n1_; (try clear hb); (try clear hb2); (try clear hk); (try clear hi); (try clear ho0)) | ((with_reducible refine gate_callee (f := 17) rfl ?_); refine goesL_ (some 30) rfl rfl Try.func17 (by kernel_rfl) rfl #[.int .i64 a0, .int .i64 a1, .int .i64 a2] rfl (by (try simp only [List.map_toArray, List.map_cons, List.map_nil]); first | done | rfl | (simp only [List.length_drop, List.length_take]; rfl)) ?_; (with_reducible refine (lockgateref28_Picks.calls kj4 a0 a1 a2 t156 _ A11.out).mono ?_); rintro e w29 ⟨v157, rfl, ho0, hb⟩; refine ⟨_, rfl, ?_⟩; have n0_ := Aside0.mk (Kd.S_elder' (by (with_reducible repeat (first | apply Kd.S_alloc | apply Kd.S_drewN | apply Kd.S_drew)); exact HO155.out) (Kd.S_base ho0) hb); have n1_ := Aside0.mk (Kd.S_lower (Kd.S_new' ho0 (Kd.S_lt (by (with_reducible repeat (first | apply Kd.S_alloc | apply Kd.S_drewN | apply Kd.S_drew)); exact HO155.out))) (below_size (by repeat (first | (with_reducible first | exact HB.out | apply below_alloc | apply pw_below_drewN | apply below_drew1) | exact HB.out)))); have n2_ := Aside0.mk (below_step (by repeat (first | (with_reducible first | exact HB.out | apply below_alloc | apply pw_below_drewN | apply below_drew1) | exact HB.out)) hb); clear HO155; clear HB; have HO155 := n0_; have HO158 := n1_; have HB := n2_; clear n0_ n1_ n2_; (try clear hb); (try clear hb2); (try clear hk); (try clear hi); (try clear ho0); obtain ⟨Ao30, co30, eo30⟩ := Kd.S_slice HO155.out; subst eo30; obtain ⟨Ao31, co31, eo31⟩ := Kd.S_slice HO158.out; subst eo31))
          go_ret
          exact ⟨by first | rfl | (simp [errW_none, errW_some] <;> rfl) | (simp [*, errW_none, errW_some] <;> rfl), by repeat (first | (with_reducible first | exact HB.out | apply below_alloc | apply pw_below_drewN | apply below_drew1) | exact HB.out)⟩

/-- THE ONE PURE STATEMENT of lockgatelaw31_LotsPicks: yours. -/
def lockgatelaw31_LotsPicks.Pure : Prop := ∀ (a0 : Int) (a1 : Int) (a2 : Int), (Lit.int .i64 a0).wf = true → (Lit.int .i64 a1).wf = true → (Lit.int .i64 a2).wf = true → ∃ k, lockgatelaw31_LotsPicks.f k a0 a1 a2 = some true
theorem lockgatelaw31_LotsPicks.walk (P : lockgatelaw31_LotsPicks.Pure) (a0 : Int) (a1 : Int) (a2 : Int) (w : World) (w0 : (Lit.int .i64 a0).wf = true) (w1 : (Lit.int .i64 a1).wf = true) (w2 : (Lit.int .i64 a2).wf = true) :
    Calls Try.prog 6 #[.int .i64 a0, .int .i64 a1, .int .i64 a2] w fun e w' => e = .returned (.bool true) ∧ Below w.heap.size w w' := by
  obtain ⟨k, h⟩ := P a0 a1 a2 w0 w1 w2
  refine (lockgatelaw31_LotsPicks.calls k a0 a1 a2 true w h).mono ?_
  rintro e w' ⟨rfl, hd⟩
  exact ⟨rfl, hd⟩

end Go.Proofs.Ytfilblidhcnhcaa.PLotsPicks
