-- written by the session's program wip/print/patch.py (a turned copy of the print) over contracts that the session proved by hand
import Derived.Test.YtemachlhoanngaaPPFnsx0
import Derived.Test.YtemachlhoanngaaPPFnsx1
namespace Go.Proofs.Ytemachlhoanngaa.PPFns
open Go.Proofs.Ytemachlhoanngaa.Given
open Go.RowKit Go.Proofs.YtemachlhoanngaaW.PrintWords Go.Proofs.YtemachlhoanngaaW.PrintLast Go.Proofs.YtemachlhoanngaaW.PrintMore
attribute [local go_sem] max2_int min2_int max_two min_two max_three min_three max_four min_four   -- for this text's walks alone
set_option linter.unusedVariables false
set_option linter.unusedSimpArgs false

/-! ### lockgateref11_Apply: function 17 -/
mutual
def lockgateref11_Apply.l0 : Nat → List (S24) → List Int → List Int → Int → Option (List Int)
  | 0, _, _, _, _ => none
  | k + 1, x1, x2, x7, x8 => if x8 < (x1.length : Int) then (if 0 ≤ x8 then ((lockgateref11_In.f k x2 ((rd_T24 x1 x8).f0)).bind fun t109 => (if t109 = true then (lockgateref11_Apply.l0 k x1 x2 x7 (wrap64 (x8 + 1))) else (lockgateref11_Apply.l1 k x1 x2 x7 x8 0))) else (none)) else (some x7)
def lockgateref11_Apply.l1 : Nat → List (S24) → List Int → List Int → Int → Int → Option (List Int)
  | 0, _, _, _, _, _ => none
  | k + 1, x1, x2, x7, x8, x10 => if 0 ≤ x8 then (if x8 < (x1.length : Int) then (if x10 < (((rd_T24 x1 x8).f2).length : Int) then (if ((rd_T24 x1 x8).f1) ≥ 0 then (if ((rd_T24 x1 x8).f1) < (x7.length : Int) then (if x10 < (wrap64 ((x7.length : Int) - ((rd_T24 x1 x8).f1))) then (if 0 ≤ x10 then (if 0 ≤ (wrap64 (((rd_T24 x1 x8).f1) + x10)) then (if (wrap64 (((rd_T24 x1 x8).f1) + x10)) < (x7.length : Int) then (lockgateref11_Apply.l1 k x1 x2 (x7.set ((wrap64 (((rd_T24 x1 x8).f1) + x10)) : Int).toNat (rd ((rd_T24 x1 x8).f2) x10)) x8 (wrap64 (x10 + 1))) else (none)) else (none)) else (none)) else (if ((rd_T24 x1 x8).f1) < 0 then (if ((rd_T24 x1 x8).f1) > (-1099511627776) then (if (wrap64 (((rd_T24 x1 x8).f1) + x10)) ≥ 0 then (if (wrap64 (((rd_T24 x1 x8).f1) + x10)) < (x7.length : Int) then (if 0 ≤ x10 then (if 0 ≤ (wrap64 (((rd_T24 x1 x8).f1) + x10)) then (lockgateref11_Apply.l1 k x1 x2 (x7.set ((wrap64 (((rd_T24 x1 x8).f1) + x10)) : Int).toNat (rd ((rd_T24 x1 x8).f2) x10)) x8 (wrap64 (x10 + 1))) else (none)) else (none)) else (lockgateref11_Apply.l1 k x1 x2 x7 x8 (wrap64 (x10 + 1)))) else (lockgateref11_Apply.l1 k x1 x2 x7 x8 (wrap64 (x10 + 1)))) else (lockgateref11_Apply.l1 k x1 x2 x7 x8 (wrap64 (x10 + 1)))) else (lockgateref11_Apply.l1 k x1 x2 x7 x8 (wrap64 (x10 + 1))))) else (if ((rd_T24 x1 x8).f1) < 0 then (if ((rd_T24 x1 x8).f1) > (-1099511627776) then (if (wrap64 (((rd_T24 x1 x8).f1) + x10)) ≥ 0 then (if (wrap64 (((rd_T24 x1 x8).f1) + x10)) < (x7.length : Int) then (if 0 ≤ x10 then (if 0 ≤ (wrap64 (((rd_T24 x1 x8).f1) + x10)) then (lockgateref11_Apply.l1 k x1 x2 (x7.set ((wrap64 (((rd_T24 x1 x8).f1) + x10)) : Int).toNat (rd ((rd_T24 x1 x8).f2) x10)) x8 (wrap64 (x10 + 1))) else (none)) else (none)) else (lockgateref11_Apply.l1 k x1 x2 x7 x8 (wrap64 (x10 + 1)))) else (lockgateref11_Apply.l1 k x1 x2 x7 x8 (wrap64 (x10 + 1)))) else (lockgateref11_Apply.l1 k x1 x2 x7 x8 (wrap64 (x10 + 1)))) else (lockgateref11_Apply.l1 k x1 x2 x7 x8 (wrap64 (x10 + 1))))) else (if ((rd_T24 x1 x8).f1) < 0 then (if ((rd_T24 x1 x8).f1) > (-1099511627776) then (if (wrap64 (((rd_T24 x1 x8).f1) + x10)) ≥ 0 then (if (wrap64 (((rd_T24 x1 x8).f1) + x10)) < (x7.length : Int) then (if 0 ≤ x10 then (if 0 ≤ (wrap64 (((rd_T24 x1 x8).f1) + x10)) then (lockgateref11_Apply.l1 k x1 x2 (x7.set ((wrap64 (((rd_T24 x1 x8).f1) + x10)) : Int).toNat (rd ((rd_T24 x1 x8).f2) x10)) x8 (wrap64 (x10 + 1))) else (none)) else (none)) else (lockgateref11_Apply.l1 k x1 x2 x7 x8 (wrap64 (x10 + 1)))) else (lockgateref11_Apply.l1 k x1 x2 x7 x8 (wrap64 (x10 + 1)))) else (lockgateref11_Apply.l1 k x1 x2 x7 x8 (wrap64 (x10 + 1)))) else (lockgateref11_Apply.l1 k x1 x2 x7 x8 (wrap64 (x10 + 1))))) else (lockgateref11_Apply.l0 k x1 x2 x7 (wrap64 (x8 + 1)))) else (none)) else (none)
end
def lockgateref11_Apply.f (k : Nat) (l0 : List Int) (l1 : List (S24)) (l2 : List Int) : Option (List Int) := if ([] : List Int).length + l0.length < 140737488355328 then (lockgateref11_Apply.l0 k l1 l2 (([] : List Int) ++ l0) 0) else (none)
theorem lockgateref11_Apply.mono_l : ∀ k, (∀ y0 y1 y2 y3, LeO (lockgateref11_Apply.l0 k y0 y1 y2 y3) (lockgateref11_Apply.l0 (k + 1) y0 y1 y2 y3)) ∧ (∀ y0 y1 y2 y3 y4, LeO (lockgateref11_Apply.l1 k y0 y1 y2 y3 y4) (lockgateref11_Apply.l1 (k + 1) y0 y1 y2 y3 y4))
  | 0 => ⟨fun _ _ _ _ r h => by simp [lockgateref11_Apply.l0] at h, fun _ _ _ _ _ r h => by simp [lockgateref11_Apply.l1] at h⟩
  | k + 1 => by
    obtain ⟨ih0, ih1⟩ := lockgateref11_Apply.mono_l k
    refine ⟨?_, ?_⟩
    · intro y0 y1 y2 y3
      unfold lockgateref11_Apply.l0
      repeat' first
      | (with_reducible exact ih0 _ _ _ _)
      | (with_reducible exact ih1 _ _ _ _ _)
      | (with_reducible exact lockgateref11_In.mono _ _ _)
      | (with_reducible exact LeO.refl _)
      | (with_reducible exact LeO.none _)
      | (with_reducible refine LeO.ite ?_ ?_)
      | (with_reducible refine LeO.bind ?_ (fun _ => ?_))
      | exact ih0 _ _ _ _
      | exact ih1 _ _ _ _ _
      | exact lockgateref11_In.mono _ _ _
      | exact LeO.none _
      | refine LeO.ite ?_ ?_
      | refine LeO.bind ?_ (fun _ => ?_)
    · intro y0 y1 y2 y3 y4
      unfold lockgateref11_Apply.l1
      repeat' first
      | (with_reducible exact ih0 _ _ _ _)
      | (with_reducible exact ih1 _ _ _ _ _)
      | (with_reducible exact lockgateref11_In.mono _ _ _)
      | (with_reducible exact LeO.refl _)
      | (with_reducible exact LeO.none _)
      | (with_reducible refine LeO.ite ?_ ?_)
      | (with_reducible refine LeO.bind ?_ (fun _ => ?_))
      | exact ih0 _ _ _ _
      | exact ih1 _ _ _ _ _
      | exact lockgateref11_In.mono _ _ _
      | exact LeO.none _
      | refine LeO.ite ?_ ?_
      | refine LeO.bind ?_ (fun _ => ?_)
theorem lockgateref11_Apply.mono : ∀ a0 a1 a2 k, LeO (lockgateref11_Apply.f k a0 a1 a2) (lockgateref11_Apply.f (k + 1) a0 a1 a2) := by
  intro a0 a1 a2 k
  obtain ⟨ih0, ih1⟩ := lockgateref11_Apply.mono_l k
  unfold lockgateref11_Apply.f
  repeat' first
      | (with_reducible exact ih0 _ _ _ _)
      | (with_reducible exact ih1 _ _ _ _ _)
      | (with_reducible exact lockgateref11_In.mono _ _ _)
      | (with_reducible exact LeO.refl _)
      | (with_reducible exact LeO.none _)
      | (with_reducible refine LeO.ite ?_ ?_)
      | (with_reducible refine LeO.bind ?_ (fun _ => ?_))
      | exact ih0 _ _ _ _
      | exact ih1 _ _ _ _ _
      | exact lockgateref11_In.mono _ _ _
      | exact LeO.none _
      | refine LeO.ite ?_ ?_
      | refine LeO.bind ?_ (fun _ => ?_)
set_option maxHeartbeats 8000000 in
set_option maxRecDepth 100000 in
theorem lockgateref11_Apply.calls (k : Nat) (A0 : Option Addr) (c0 : Nat) (l0 : List Int) (A1 : Option Addr) (c1 : Nat) (l1 : List (S24)) (A2 : Option Addr) (c2 : Nat) (l2 : List Int) (r : List Int) (w : World) (hr0 : Kd.C (Kd.int .u8) w A0 l0.length l0) (hc0 : l0.length ≤ c0) (hr1 : Kd.C k24 w A1 l1.length l1) (hc1 : l1.length ≤ c1) (hr2 : Kd.C (Kd.int .i64) w A2 l2.length l2) (hc2 : l2.length ≤ c2) (h : lockgateref11_Apply.f k l0 l1 l2 = some r) :
    Calls Try.prog 17 #[.slice A0 l0.length c0, .slice A1 l1.length c1, .slice A2 l2.length c2] w fun e w' => ∃ v0_ : Value, e = .returned (v0_) ∧ Kd.R (Kd.int .u8) 5 w' w.heap.size (fun _ => True) v0_ r ∧ Below w.heap.size w w' := by
  have HR0 := Aside0.mk hr0
  have HC0 := Aside0.mk hc0
  clear hr0 hc0
  have HR1 := Aside0.mk hr1
  have HC1 := Aside0.mk hc1
  clear hr1 hc1
  have HR2 := Aside0.mk hr2
  have HC2 := Aside0.mk hc2
  clear hr2 hc2
  have HB := Aside0.mk (Below.refl w.heap.size w)
  have H : (if ([] : List Int).length + l0.length < 140737488355328 then (lockgateref11_Apply.l0 k l1 l2 (([] : List Int) ++ l0) 0) else (none)) = some r := h
  clear h
  by_cases c4 : ([] : List Int).length + l0.length < 140737488355328
  · rw [if_pos c4] at H
    have LMc4 := Aside0.mk c4
    clear c4
    obtain ⟨y105, hy105⟩ : ∃ y_ : List Int, y_ = (([] : List Int) ++ l0) := ⟨_, rfl⟩
    replace H : (lockgateref11_Apply.l0 k l1 l2 y105 0) = some r := by first | (rw [hy105]; with_reducible exact H) | (have H2_ := (Option.bind_some _ _).symm.trans H; rw [hy105]; with_reducible exact H2_) | (have H2_ := (Option.bind_some _ _).symm.trans H; with_reducible exact H2_) | with_reducible exact H | (rw [hy105]; exact H) | exact H
    have Ny105 := Aside0.mk hy105
    clear hy105
    have H' := Aside0.mk H
    clear H
    go_enter Try.func17, Try.ntmps17
    go_wp2_with (first | ((with_reducible refine gate_builtin (b := .append) (xs := #[.const (.slice none 0 0), .tmp 12]) rfl ?_); (try (refine gate_guard (by rfl) ?_; dsimp only)); at_builtin; refine Kd.R_append_rows (Kd.int .u8) (w0 := w) w.heap.size rfl (.const (.slice none 0 0)) (.tmp 12) 22 5 (.int .u8 0) 1 rfl Try.underlying22 info5 rfl (by decide) (by omega) (.slice none 0 0) ([] : List Int) l0 _ _ _ (fun _ => True) (fun _ => False) rfl rfl ?aO ?aR (fun _ _ h => h) (fun _ h => h.elim) ?aF ?aB ?aS ?aL ?_; (case aR => repeat (first | exact HR0.out | (with_reducible refine Kd.C_alloc ?_ _) | (with_reducible refine Kd.C_drewN ?_ _) | (with_reducible refine Kd.C_drew ?_))); (case aB => exact (by repeat (first | (with_reducible first | exact HB.out | apply below_alloc | apply pw_below_drewN | apply below_drew1) | exact HB.out))); (case aF => exact (fun _ _ => trivial)); (case aO => exact ((Kd.R_nil _ _ _ _ (fun _ => True)))); (case aS => exact (below_size (by repeat (first | (with_reducible first | exact HB.out | apply below_alloc | apply pw_below_drewN | apply below_drew1) | exact HB.out)))); (case aL => have := LMc4.out; omega); intro v106 w5 ho hb hg hat; rw [← Ny105.out] at ho; have n0_ := Aside0.mk (hb); have n1_ := Aside0.mk (ho); clear HB; have HB := n0_; have HO107 := n1_; clear n0_ n1_; clear ho hb hg hat))
    go_loopg [8] k (fun kq v8 w' => ∃ (x7_1 : List Int) (x8_1 : Int), v8 = .int .i64 x8_1 ∧ Aside0 (lockgateref11_Apply.l0 kq l1 l2 x7_1 x8_1 = some r) ∧ Aside0 (kq ≤ k) ∧ Aside0 (Kd.R (Kd.int .u8) 5 w' w.heap.size (fun _ => True) v106 x7_1) ∧ Aside0 (Below w.heap.size w w'))
    case atStart => exact ⟨(y105), (0), (by first | rfl | (simp; done) | (simp [*]; done)), H', ⟨Nat.le_refl _⟩, ⟨by (with_reducible repeat (first | apply Kd.R_alloc | apply Kd.R_drewN | apply Kd.R_drew)); exact HO107.out⟩, ⟨by repeat (first | (with_reducible first | exact HB.out | apply below_alloc | apply pw_below_drewN | apply below_drew1) | exact HB.out)⟩⟩
    case round =>
      clear H'
      try clear c1
      try clear c2
      try clear p2
      try clear c4
      obtain ⟨x7_1, x8_1, rfl, HA, HK1, HO_7, HB⟩ := hrel
      cases gk with
      | zero => exact absurd HA.out (by simp [lockgateref11_Apply.l0])
      | succ k1 =>
        have H := HA.out
        clear HA
        simp only [lockgateref11_Apply.l0] at H
        by_cases c6 : x8_1 < (l1.length : Int)
        · rw [if_pos c6] at H
          have c6b0 : decide (x8_1 < (l1.length : Int)) = true := decide_eq_true c6
          clear c6
          by_cases c7 : 0 ≤ x8_1
          · rw [if_pos c7] at H
            have c7b0 : decide (0 ≤ x8_1) = true := decide_eq_true c7
            clear c7
            replace H := Option.bind_eq_some_iff.mp H
            obtain ⟨t109, A80, H⟩ := H
            replace H : (if t109 = true then (lockgateref11_Apply.l0 k1 l1 l2 x7_1 (wrap64 (x8_1 + 1))) else (lockgateref11_Apply.l1 k1 l1 l2 x7_1 x8_1 0)) = some r := H
            have A8 := Aside0.mk A80
            clear A80
            by_cases c9 : t109 = true
            · subst c9
              have H1 : (lockgateref11_Apply.l0 k1 l1 l2 x7_1 (wrap64 (x8_1 + 1))) = some r := by rw [if_pos rfl] at H; exact H
              clear H
              have H := H1
              clear H1
              have H' := Aside0.mk H
              clear H
              have p108 : 0 ≤ (x8_1 : Int) := of_decide_eq_true (by first | (with_reducible assumption) | assumption)
              have q108 : x8_1 < (l1.length : Int) := of_decide_eq_true (by first | (with_reducible assumption) | assumption)
              obtain ⟨ad108, A108_2, c108_2, e108, hx108_0, hx108_1, hx108_2, hl108_2, hi108_2⟩ := at_T24 HR1.out x8_1 p108 q108
              cases e108
              replace hx108_0 := (HB.out.cell (World.block_lt_of_cell? w _ hx108_0)).trans hx108_0
              replace hx108_1 := (HB.out.cell (World.block_lt_of_cell? w _ hx108_1)).trans hx108_1
              replace hx108_2 := (HB.out.cell (World.block_lt_of_cell? w _ hx108_2)).trans hx108_2
              have HR108_2 := Aside0.mk hi108_2
              have HC108_2 := Aside0.mk hl108_2
              clear hi108_2 hl108_2
              replace p108 := eq_true p108
              replace q108 := eq_true q108
              go_wp2_with (first | ((with_reducible refine gate_callee (f := 20) rfl ?_); refine goesL_ (some 26) rfl rfl Try.func20 (by kernel_rfl) rfl #[.slice A2 l2.length c2, .int .i64 ((rd_T24 l1 x8_1).f0)] rfl (by (try simp only [List.map_toArray, List.map_cons, List.map_nil]); first | done | rfl | (simp only [List.length_drop, List.length_take]; rfl)) ?_; (with_reducible refine (lockgateref11_In.calls k1 _ _ l2 ((rd_T24 l1 x8_1).f0) true _ ?side1 ?side2 A8.out).mono ?_); (case side1 => repeat (first | exact (Kd.C_below HR2.out HB.out) | (with_reducible refine Kd.C_alloc ?_ _) | (with_reducible refine Kd.C_drewN ?_ _) | (with_reducible refine Kd.C_drew ?_))); (case side2 => exact HC2.out); rintro e w' ⟨rfl, ⟨nd, rfl⟩⟩; refine ⟨_, rfl, ?_⟩))
              go_roundg k1
              case measure => have := HK1.out; omega
              case rel => exact ⟨(x7_1), (wrap64 (x8_1 + 1)), (by first | rfl | (simp; done) | (simp [*]; done)), H', ⟨by have := HK1.out; omega⟩, ⟨by (with_reducible repeat (first | apply Kd.R_alloc | apply Kd.R_drewN | apply Kd.R_drew)); exact HO_7.out⟩, ⟨by repeat (first | (with_reducible first | exact HB.out | apply below_alloc | apply pw_below_drewN | apply below_drew1) | exact HB.out)⟩⟩
            · replace c9 := Bool.eq_false_iff.mpr c9
              subst c9
              have H1 : (lockgateref11_Apply.l1 k1 l1 l2 x7_1 x8_1 0) = some r := by rw [if_neg (show ¬ (false = true) by decide)] at H; exact H
              clear H
              have H := H1
              clear H1
              have H' := Aside0.mk H
              clear H
              have p108 : 0 ≤ (x8_1 : Int) := of_decide_eq_true (by first | (with_reducible assumption) | assumption)
              have q108 : x8_1 < (l1.length : Int) := of_decide_eq_true (by first | (with_reducible assumption) | assumption)
              obtain ⟨ad108, A108_2, c108_2, e108, hx108_0, hx108_1, hx108_2, hl108_2, hi108_2⟩ := at_T24 HR1.out x8_1 p108 q108
              cases e108
              replace hx108_0 := (HB.out.cell (World.block_lt_of_cell? w _ hx108_0)).trans hx108_0
              replace hx108_1 := (HB.out.cell (World.block_lt_of_cell? w _ hx108_1)).trans hx108_1
              replace hx108_2 := (HB.out.cell (World.block_lt_of_cell? w _ hx108_2)).trans hx108_2
              have HR108_2 := Aside0.mk hi108_2
              have HC108_2 := Aside0.mk hl108_2
              clear hi108_2 hl108_2
              replace p108 := eq_true p108
              replace q108 := eq_true q108
              go_wp2_with (first | ((with_reducible refine gate_callee (f := 20) rfl ?_); refine goesL_ (some 26) rfl rfl Try.func20 (by kernel_rfl) rfl #[.slice A2 l2.length c2, .int .i64 ((rd_T24 l1 x8_1).f0)] rfl (by (try simp only [List.map_toArray, List.map_cons, List.map_nil]); first | done | rfl | (simp only [List.length_drop, List.length_take]; rfl)) ?_; (with_reducible refine (lockgateref11_In.calls k1 _ _ l2 ((rd_T24 l1 x8_1).f0) false _ ?side1 ?side2 A8.out).mono ?_); (case side1 => repeat (first | exact (Kd.C_below HR2.out HB.out) | (with_reducible refine Kd.C_alloc ?_ _) | (with_reducible refine Kd.C_drewN ?_ _) | (with_reducible refine Kd.C_drew ?_))); (case side2 => exact HC2.out); rintro e w' ⟨rfl, ⟨nd, rfl⟩⟩; refine ⟨_, rfl, ?_⟩))
              go_loopg [10] k1 (fun kq v10 w' => ∃ (x7_2 : List Int) (x10_2 : Int), v10 = .int .i64 x10_2 ∧ Aside0 (lockgateref11_Apply.l1 kq l1 l2 x7_2 x8_1 x10_2 = some r) ∧ Aside0 (kq ≤ k1) ∧ Aside0 (Kd.R (Kd.int .u8) 5 w' w.heap.size (fun _ => True) v106 x7_2) ∧ Aside0 (Below w.heap.size w w'))
              case atStart => exact ⟨(x7_1), (0), (by first | rfl | (simp; done) | (simp [*]; done)), H', ⟨Nat.le_refl _⟩, ⟨by (with_reducible repeat (first | apply Kd.R_alloc | apply Kd.R_drewN | apply Kd.R_drew)); exact HO_7.out⟩, ⟨by repeat (first | (with_reducible first | exact HB.out | apply below_alloc | apply pw_below_drewN | apply below_drew1) | exact HB.out)⟩⟩
              case round =>
                clear H'
                try clear c1
                try clear p1
                try clear q1
                try clear hx1
                try clear c2
                try clear p2
                try clear c4
                try clear c6
                try clear c6b0
                try clear p6
                try clear c7
                try clear c7b0
                try clear c9
                try clear hx108_0
                try clear hx108_1
                try clear hx108_2
                try clear p108
                try clear p2
                try clear q108
                obtain ⟨x7_2, x10_2, rfl, HA, HK2, HO_7, HB⟩ := hrel
                cases gk with
                | zero => exact absurd HA.out (by simp [lockgateref11_Apply.l1])
                | succ k2 =>
                  have H := HA.out
                  clear HA
                  simp only [lockgateref11_Apply.l1] at H
                  by_cases c10 : 0 ≤ x8_1
                  · rw [if_pos c10] at H
                    have c10b0 : decide (0 ≤ x8_1) = true := decide_eq_true c10
                    clear c10
                    by_cases c11 : x8_1 < (l1.length : Int)
                    · rw [if_pos c11] at H
                      have c11b0 : decide (x8_1 < (l1.length : Int)) = true := decide_eq_true c11
                      clear c11
                      by_cases c12 : x10_2 < (((rd_T24 l1 x8_1).f2).length : Int)
                      · rw [if_pos c12] at H
                        have c12b0 : decide (x10_2 < (((rd_T24 l1 x8_1).f2).length : Int)) = true := decide_eq_true c12
                        clear c12
                        by_cases c13 : ((rd_T24 l1 x8_1).f1) ≥ 0
                        · rw [if_pos c13] at H
                          have c13b0 : decide (0 ≤ ((rd_T24 l1 x8_1).f1)) = true := decide_eq_true c13
                          clear c13
                          by_cases c14 : ((rd_T24 l1 x8_1).f1) < (x7_2.length : Int)
                          · rw [if_pos c14] at H
                            have c14b0 : decide (((rd_T24 l1 x8_1).f1) < (x7_2.length : Int)) = true := decide_eq_true c14
                            clear c14
                            by_cases c15 : x10_2 < (wrap64 ((x7_2.length : Int) - ((rd_T24 l1 x8_1).f1)))
                            · rw [if_pos c15] at H
                              have c15b0 : decide (x10_2 < (wrap64 ((x7_2.length : Int) - ((rd_T24 l1 x8_1).f1)))) = true := decide_eq_true c15
                              clear c15
                              by_cases c16 : 0 ≤ x10_2
                              · rw [if_pos c16] at H
                                have c16b0 : decide (0 ≤ x10_2) = true := decide_eq_true c16
                                clear c16
                                obtain ⟨ji17, hji17⟩ : ∃ j_ : Int, (wrap64 (((rd_T24 l1 x8_1).f1) + x10_2)) = j_ := ⟨_, rfl⟩
                                replace H : (if 0 ≤ (ji17) then (if (ji17) < (x7_2.length : Int) then (lockgateref11_Apply.l1 k2 l1 l2 (x7_2.set ((ji17) : Int).toNat (rd ((rd_T24 l1 x8_1).f2) x10_2)) x8_1 (wrap64 (x10_2 + 1))) else (none)) else (none)) = some r := by first | (rw [hji17] at H; exact H) | (simp only [hji17] at H ⊢; exact H)
                                have hji17w : (IntKind.i64.wrap (((rd_T24 l1 x8_1).f1) + x10_2)) = ji17 := (i64_w _).trans hji17
                                by_cases c18 : 0 ≤ (ji17)
                                · rw [if_pos c18] at H
                                  have c18b0 : decide (0 ≤ (ji17)) = true := decide_eq_true c18
                                  clear c18
                                  by_cases c19 : (ji17) < (x7_2.length : Int)
                                  · rw [if_pos c19] at H
                                    have c19b0 : decide ((ji17) < (x7_2.length : Int)) = true := decide_eq_true c19
                                    clear c19
                                    obtain ⟨y114, hy114⟩ : ∃ y_ : List Int, y_ = (x7_2.set ((ji17) : Int).toNat (rd ((rd_T24 l1 x8_1).f2) x10_2)) := ⟨_, rfl⟩
                                    replace H : (lockgateref11_Apply.l1 k2 l1 l2 y114 x8_1 (wrap64 (x10_2 + 1))) = some r := by first | (rw [hy114]; with_reducible exact H) | (have H2_ := (Option.bind_some _ _).symm.trans H; rw [hy114]; with_reducible exact H2_) | (have H2_ := (Option.bind_some _ _).symm.trans H; with_reducible exact H2_) | with_reducible exact H | (rw [hy114]; exact H) | exact H
                                    have Ny114 := Aside0.mk hy114
                                    clear hy114
                                    have H' := Aside0.mk H
                                    clear H
                                    have p110 : 0 ≤ (x8_1 : Int) := of_decide_eq_true (by first | (with_reducible assumption) | assumption)
                                    have q110 : x8_1 < (l1.length : Int) := of_decide_eq_true (by first | (with_reducible assumption) | assumption)
                                    obtain ⟨ad110, A110_2, c110_2, e110, hx110_0, hx110_1, hx110_2, hl110_2, hi110_2⟩ := at_T24 HR1.out x8_1 p110 q110
                                    obtain rfl : ad108 = ad110 := (by injection e110)
                                    replace hx110_0 := (HB.out.cell (World.block_lt_of_cell? w _ hx110_0)).trans hx110_0
                                    replace hx110_1 := (HB.out.cell (World.block_lt_of_cell? w _ hx110_1)).trans hx110_1
                                    replace hx110_2 := (HB.out.cell (World.block_lt_of_cell? w _ hx110_2)).trans hx110_2
                                    have HR110_2 := Aside0.mk hi110_2
                                    have HC110_2 := Aside0.mk hl110_2
                                    clear hi110_2 hl110_2
                                    replace p110 := eq_true p110
                                    replace q110 := eq_true q110
                                    have p111 : 0 ≤ (x8_1 : Int) := of_decide_eq_true (by first | (with_reducible assumption) | assumption)
                                    have q111 : x8_1 < (l1.length : Int) := of_decide_eq_true (by first | (with_reducible assumption) | assumption)
                                    obtain ⟨ad111, A111_2, c111_2, e111, hx111_0, hx111_1, hx111_2, hl111_2, hi111_2⟩ := at_T24 HR1.out x8_1 p111 q111
                                    obtain rfl : ad108 = ad111 := (by injection e111)
                                    replace hx111_0 := (HB.out.cell (World.block_lt_of_cell? w _ hx111_0)).trans hx111_0
                                    replace hx111_1 := (HB.out.cell (World.block_lt_of_cell? w _ hx111_1)).trans hx111_1
                                    replace hx111_2 := (HB.out.cell (World.block_lt_of_cell? w _ hx111_2)).trans hx111_2
                                    have HR111_2 := Aside0.mk hi111_2
                                    have HC111_2 := Aside0.mk hl111_2
                                    clear hi111_2 hl111_2
                                    replace p111 := eq_true p111
                                    replace q111 := eq_true q111
                                    have ea_ := Option.some.inj (hx110_2.symm.trans hx111_2)
                                    injection ea_ with ea_ en_ ec_
                                    subst ea_
                                    subst ec_
                                    clear en_
                                    obtain ⟨Ao21, co21, eo21⟩ := Kd.R_slice HO_7.out
                                    subst eo21
                                    have p112 : 0 ≤ (x8_1 : Int) := of_decide_eq_true (by first | (with_reducible assumption) | assumption)
                                    have q112 : x8_1 < (l1.length : Int) := of_decide_eq_true (by first | (with_reducible assumption) | assumption)
                                    obtain ⟨ad112, A112_2, c112_2, e112, hx112_0, hx112_1, hx112_2, hl112_2, hi112_2⟩ := at_T24 HR1.out x8_1 p112 q112
                                    obtain rfl : ad108 = ad112 := (by injection e112)
                                    replace hx112_0 := (HB.out.cell (World.block_lt_of_cell? w _ hx112_0)).trans hx112_0
                                    replace hx112_1 := (HB.out.cell (World.block_lt_of_cell? w _ hx112_1)).trans hx112_1
                                    replace hx112_2 := (HB.out.cell (World.block_lt_of_cell? w _ hx112_2)).trans hx112_2
                                    have HR112_2 := Aside0.mk hi112_2
                                    have HC112_2 := Aside0.mk hl112_2
                                    clear hi112_2 hl112_2
                                    replace p112 := eq_true p112
                                    replace q112 := eq_true q112
                                    have ea_ := Option.some.inj (hx110_2.symm.trans hx112_2)
                                    injection ea_ with ea_ en_ ec_
                                    subst ea_
                                    subst ec_
                                    clear en_
                                    have p113 : 0 ≤ (x10_2 : Int) := of_decide_eq_true (by first | (with_reducible assumption) | assumption)
                                    have q113 : x10_2 < (((rd_T24 l1 x8_1).f2).length : Int) := of_decide_eq_true (by first | (with_reducible assumption) | assumption)
                                    obtain ⟨ad113, e113, hx113_0⟩ := Kd.at_int HR112_2.out x10_2 p113 q113
                                    cases e113
                                    replace hx113_0 := (HB.out.cell (World.block_lt_of_cell? w _ hx113_0)).trans hx113_0
                                    replace p113 := eq_true p113
                                    replace q113 := eq_true q113
                                    have p20 : 0 ≤ ((ji17) : Int) := of_decide_eq_true (by first | (with_reducible assumption) | assumption)
                                    have q20 : ((ji17) : Int) < ((x7_2.length : Int) : Int) := of_decide_eq_true (by first | (with_reducible assumption) | assumption)
                                    obtain ⟨go20, co20, eo20, gb20, gl20, cl20, HG20⟩ := Kd.R_form HO_7.out (by omega)
                                    (first | cases eo20 | (injection eo20 with ea_ en_ ec_; (first | subst ea_ | (injection ea_ with ea_; subst ea_)); subst ec_; clear en_))
                                    have GB20 := Aside0.mk gb20
                                    have GG20 := Aside0.mk HG20
                                    clear gb20 gl20 HG20
                                    obtain ⟨hx20_0, hf20_0⟩ := Kd.R_celln 0 HO_7.out ((ji17) : Int) p20 q20
                                    replace p20 := eq_true p20
                                    replace q20 := eq_true q20
                                    have HP22 := Kd.R_putg HO_7.out ((ji17) : Int) (rd ((rd_T24 l1 x8_1).f2) x10_2)
                                    go_wp2_with (first | ((with_reducible refine gate_store (t := 5) (p := 93) rfl ?_); refine store_event (t := 5) (p := 93) (v := ?vo_w23) (w1 := (wr.setCell ⟨go20, ((ji17) : Int).toNat, none⟩ (.int .u8 (rd ((rd_T24 l1 x8_1).f2) x10_2)))) ?hg ?ho ?hn ?hr ?_; (case ho => rfl); (case hg => rfl); (case hn => rfl); (case hr => first | (go_simp; done) | (go_simp; rfl)); intro w23 hw; have hg : wr.grownBy w23 (some go20) := (by rw [hw]; exact HP22.2); have hp_ : Kd.R (Kd.int .u8) 5 w23 w.heap.size (fun _ => True) (.slice (some ⟨go20, 0, none⟩) x7_2.length co21) y114 := (by rw [hw, Ny114.out]; exact HP22.1); clear HP22; have n0_ := Aside0.mk (hp_); have n1_ := Aside0.mk ((by rw [hw]; exact below_set (HB.out) GB20.out : Below w.heap.size w w23)); clear HO_7; clear HB; have HO_7 := n0_; have HB := n1_; clear n0_ n1_; clear hg hw hp_))
                                    go_roundg k2
                                    case measure => have := HK1.out; have := HK2.out; omega
                                    case rel => exact ⟨(y114), (wrap64 (x10_2 + 1)), (by first | rfl | (simp; done) | (simp [*]; done)), H', ⟨by have := HK1.out; have := HK2.out; omega⟩, ⟨by (with_reducible repeat (first | apply Kd.R_alloc | apply Kd.R_drewN | apply Kd.R_drew)); exact HO_7.out⟩, ⟨by repeat (first | (with_reducible first | exact HB.out | apply below_alloc | apply pw_below_drewN | apply below_drew1) | exact HB.out)⟩⟩
                                  · rw [if_neg c19] at H
                                    exact absurd H (by simp)
                                · rw [if_neg c18] at H
                                  exact absurd H (by simp)
                              · rw [if_neg c16] at H
                                exact absurd H (by simp)
                            · rw [if_neg c15] at H
                              have c15b0 : decide (x10_2 < (wrap64 ((x7_2.length : Int) - ((rd_T24 l1 x8_1).f1)))) = false := decide_eq_false c15
                              clear c15
                              by_cases c24 : ((rd_T24 l1 x8_1).f1) < 0
                              · rw [if_pos c24] at H
                                have c24b0 : decide (((rd_T24 l1 x8_1).f1) < 0) = true := decide_eq_true c24
                                clear c24
                                by_cases c25 : ((rd_T24 l1 x8_1).f1) > (-1099511627776)
                                · rw [if_pos c25] at H
                                  have c25b0 : decide ((-1099511627776) < ((rd_T24 l1 x8_1).f1)) = true := decide_eq_true c25
                                  clear c25
                                  by_cases c26 : (wrap64 (((rd_T24 l1 x8_1).f1) + x10_2)) ≥ 0
                                  · rw [if_pos c26] at H
                                    have c26b0 : decide (0 ≤ (wrap64 (((rd_T24 l1 x8_1).f1) + x10_2))) = true := decide_eq_true c26
                                    clear c26
                                    by_cases c27 : (wrap64 (((rd_T24 l1 x8_1).f1) + x10_2)) < (x7_2.length : Int)
                                    · rw [if_pos c27] at H
                                      have c27b0 : decide ((wrap64 (((rd_T24 l1 x8_1).f1) + x10_2)) < (x7_2.length : Int)) = true := decide_eq_true c27
                                      clear c27
                                      by_cases c28 : 0 ≤ x10_2
                                      · rw [if_pos c28] at H
                                        have c28b0 : decide (0 ≤ x10_2) = true := decide_eq_true c28
                                        clear c28
                                        obtain ⟨ji29, hji29⟩ : ∃ j_ : Int, (wrap64 (((rd_T24 l1 x8_1).f1) + x10_2)) = j_ := ⟨_, rfl⟩
                                        replace H : (if 0 ≤ (ji29) then (lockgateref11_Apply.l1 k2 l1 l2 (x7_2.set ((ji29) : Int).toNat (rd ((rd_T24 l1 x8_1).f2) x10_2)) x8_1 (wrap64 (x10_2 + 1))) else (none)) = some r := by first | (rw [hji29] at H; exact H) | (simp only [hji29] at H ⊢; exact H)
                                        (try rw [hji29] at c26b0)
                                        (try rw [hji29] at c27b0)
                                        have hji29w : (IntKind.i64.wrap (((rd_T24 l1 x8_1).f1) + x10_2)) = ji29 := (i64_w _).trans hji29
                                        by_cases c30 : 0 ≤ (ji29)
                                        · rw [if_pos c30] at H
                                          have c30b0 : decide (0 ≤ (ji29)) = true := decide_eq_true c30
                                          clear c30
                                          obtain ⟨y117, hy117⟩ : ∃ y_ : List Int, y_ = (x7_2.set ((ji29) : Int).toNat (rd ((rd_T24 l1 x8_1).f2) x10_2)) := ⟨_, rfl⟩
                                          replace H : (lockgateref11_Apply.l1 k2 l1 l2 y117 x8_1 (wrap64 (x10_2 + 1))) = some r := by first | (rw [hy117]; with_reducible exact H) | (have H2_ := (Option.bind_some _ _).symm.trans H; rw [hy117]; with_reducible exact H2_) | (have H2_ := (Option.bind_some _ _).symm.trans H; with_reducible exact H2_) | with_reducible exact H | (rw [hy117]; exact H) | exact H
                                          have Ny117 := Aside0.mk hy117
                                          clear hy117
                                          have H' := Aside0.mk H
                                          clear H
                                          have p110 : 0 ≤ (x8_1 : Int) := of_decide_eq_true (by first | (with_reducible assumption) | assumption)
                                          have q110 : x8_1 < (l1.length : Int) := of_decide_eq_true (by first | (with_reducible assumption) | assumption)
                                          obtain ⟨ad110, A110_2, c110_2, e110, hx110_0, hx110_1, hx110_2, hl110_2, hi110_2⟩ := at_T24 HR1.out x8_1 p110 q110
                                          obtain rfl : ad108 = ad110 := (by injection e110)
                                          replace hx110_0 := (HB.out.cell (World.block_lt_of_cell? w _ hx110_0)).trans hx110_0
                                          replace hx110_1 := (HB.out.cell (World.block_lt_of_cell? w _ hx110_1)).trans hx110_1
                                          replace hx110_2 := (HB.out.cell (World.block_lt_of_cell? w _ hx110_2)).trans hx110_2
                                          have HR110_2 := Aside0.mk hi110_2
                                          have HC110_2 := Aside0.mk hl110_2
                                          clear hi110_2 hl110_2
                                          replace p110 := eq_true p110
                                          replace q110 := eq_true q110
                                          have p111 : 0 ≤ (x8_1 : Int) := of_decide_eq_true (by first | (with_reducible assumption) | assumption)
                                          have q111 : x8_1 < (l1.length : Int) := of_decide_eq_true (by first | (with_reducible assumption) | assumption)
                                          obtain ⟨ad111, A111_2, c111_2, e111, hx111_0, hx111_1, hx111_2, hl111_2, hi111_2⟩ := at_T24 HR1.out x8_1 p111 q111
                                          obtain rfl : ad108 = ad111 := (by injection e111)
                                          replace hx111_0 := (HB.out.cell (World.block_lt_of_cell? w _ hx111_0)).trans hx111_0
                                          replace hx111_1 := (HB.out.cell (World.block_lt_of_cell? w _ hx111_1)).trans hx111_1
                                          replace hx111_2 := (HB.out.cell (World.block_lt_of_cell? w _ hx111_2)).trans hx111_2
                                          have HR111_2 := Aside0.mk hi111_2
                                          have HC111_2 := Aside0.mk hl111_2
                                          clear hi111_2 hl111_2
                                          replace p111 := eq_true p111
                                          replace q111 := eq_true q111
                                          have ea_ := Option.some.inj (hx110_2.symm.trans hx111_2)
                                          injection ea_ with ea_ en_ ec_
                                          subst ea_
                                          subst ec_
                                          clear en_
                                          obtain ⟨Ao32, co32, eo32⟩ := Kd.R_slice HO_7.out
                                          subst eo32
                                          have p115 : 0 ≤ (x8_1 : Int) := of_decide_eq_true (by first | (with_reducible assumption) | assumption)
                                          have q115 : x8_1 < (l1.length : Int) := of_decide_eq_true (by first | (with_reducible assumption) | assumption)
                                          obtain ⟨ad115, A115_2, c115_2, e115, hx115_0, hx115_1, hx115_2, hl115_2, hi115_2⟩ := at_T24 HR1.out x8_1 p115 q115
                                          obtain rfl : ad108 = ad115 := (by injection e115)
                                          replace hx115_0 := (HB.out.cell (World.block_lt_of_cell? w _ hx115_0)).trans hx115_0
                                          replace hx115_1 := (HB.out.cell (World.block_lt_of_cell? w _ hx115_1)).trans hx115_1
                                          replace hx115_2 := (HB.out.cell (World.block_lt_of_cell? w _ hx115_2)).trans hx115_2
                                          have HR115_2 := Aside0.mk hi115_2
                                          have HC115_2 := Aside0.mk hl115_2
                                          clear hi115_2 hl115_2
                                          replace p115 := eq_true p115
                                          replace q115 := eq_true q115
                                          have ea_ := Option.some.inj (hx110_2.symm.trans hx115_2)
                                          injection ea_ with ea_ en_ ec_
                                          subst ea_
                                          subst ec_
                                          clear en_
                                          have p116 : 0 ≤ (x10_2 : Int) := of_decide_eq_true (by first | (with_reducible assumption) | assumption)
                                          have q116 : x10_2 < (((rd_T24 l1 x8_1).f2).length : Int) := of_decide_eq_true (by first | (with_reducible assumption) | assumption)
                                          obtain ⟨ad116, e116, hx116_0⟩ := Kd.at_int HR115_2.out x10_2 p116 q116
                                          cases e116
                                          replace hx116_0 := (HB.out.cell (World.block_lt_of_cell? w _ hx116_0)).trans hx116_0
                                          replace p116 := eq_true p116
                                          replace q116 := eq_true q116
                                          have p31 : 0 ≤ ((ji29) : Int) := of_decide_eq_true (by first | (with_reducible assumption) | assumption)
                                          have q31 : ((ji29) : Int) < ((x7_2.length : Int) : Int) := of_decide_eq_true (by first | (with_reducible assumption) | assumption)
                                          obtain ⟨go31, co31, eo31, gb31, gl31, cl31, HG31⟩ := Kd.R_form HO_7.out (by omega)
                                          (first | cases eo31 | (injection eo31 with ea_ en_ ec_; (first | subst ea_ | (injection ea_ with ea_; subst ea_)); subst ec_; clear en_))
                                          have GB31 := Aside0.mk gb31
                                          have GG31 := Aside0.mk HG31
                                          clear gb31 gl31 HG31
                                          obtain ⟨hx31_0, hf31_0⟩ := Kd.R_celln 0 HO_7.out ((ji29) : Int) p31 q31
                                          replace p31 := eq_true p31
                                          replace q31 := eq_true q31
                                          have HP33 := Kd.R_putg HO_7.out ((ji29) : Int) (rd ((rd_T24 l1 x8_1).f2) x10_2)
                                          go_wp2_with (first | ((with_reducible refine gate_store (t := 5) (p := 93) rfl ?_); refine store_event (t := 5) (p := 93) (v := ?vo_w34) (w1 := (wr.setCell ⟨go31, ((ji29) : Int).toNat, none⟩ (.int .u8 (rd ((rd_T24 l1 x8_1).f2) x10_2)))) ?hg ?ho ?hn ?hr ?_; (case ho => rfl); (case hg => rfl); (case hn => rfl); (case hr => first | (go_simp; done) | (go_simp; rfl)); intro w34 hw; have hg : wr.grownBy w34 (some go31) := (by rw [hw]; exact HP33.2); have hp_ : Kd.R (Kd.int .u8) 5 w34 w.heap.size (fun _ => True) (.slice (some ⟨go31, 0, none⟩) x7_2.length co32) y117 := (by rw [hw, Ny117.out]; exact HP33.1); clear HP33; have n0_ := Aside0.mk (hp_); have n1_ := Aside0.mk ((by rw [hw]; exact below_set (HB.out) GB31.out : Below w.heap.size w w34)); clear HO_7; clear HB; have HO_7 := n0_; have HB := n1_; clear n0_ n1_; clear hg hw hp_))
                                          go_roundg k2
                                          case measure => have := HK1.out; have := HK2.out; omega
                                          case rel => exact ⟨(y117), (wrap64 (x10_2 + 1)), (by first | rfl | (simp; done) | (simp [*]; done)), H', ⟨by have := HK1.out; have := HK2.out; omega⟩, ⟨by (with_reducible repeat (first | apply Kd.R_alloc | apply Kd.R_drewN | apply Kd.R_drew)); exact HO_7.out⟩, ⟨by repeat (first | (with_reducible first | exact HB.out | apply below_alloc | apply pw_below_drewN | apply below_drew1) | exact HB.out)⟩⟩
                                        · rw [if_neg c30] at H
                                          exact absurd H (by simp)
                                      · rw [if_neg c28] at H
                                        exact absurd H (by simp)
                                    · rw [if_neg c27] at H
                                      have c27b0 : decide ((wrap64 (((rd_T24 l1 x8_1).f1) + x10_2)) < (x7_2.length : Int)) = false := decide_eq_false c27
                                      clear c27
                                      have H' := Aside0.mk H
                                      clear H
                                      have p110 : 0 ≤ (x8_1 : Int) := of_decide_eq_true (by first | (with_reducible assumption) | assumption)
                                      have q110 : x8_1 < (l1.length : Int) := of_decide_eq_true (by first | (with_reducible assumption) | assumption)
                                      obtain ⟨ad110, A110_2, c110_2, e110, hx110_0, hx110_1, hx110_2, hl110_2, hi110_2⟩ := at_T24 HR1.out x8_1 p110 q110
                                      obtain rfl : ad108 = ad110 := (by injection e110)
                                      replace hx110_0 := (HB.out.cell (World.block_lt_of_cell? w _ hx110_0)).trans hx110_0
                                      replace hx110_1 := (HB.out.cell (World.block_lt_of_cell? w _ hx110_1)).trans hx110_1
                                      replace hx110_2 := (HB.out.cell (World.block_lt_of_cell? w _ hx110_2)).trans hx110_2
                                      have HR110_2 := Aside0.mk hi110_2
                                      have HC110_2 := Aside0.mk hl110_2
                                      clear hi110_2 hl110_2
                                      replace p110 := eq_true p110
                                      replace q110 := eq_true q110
                                      have p111 : 0 ≤ (x8_1 : Int) := of_decide_eq_true (by first | (with_reducible assumption) | assumption)
                                      have q111 : x8_1 < (l1.length : Int) := of_decide_eq_true (by first | (with_reducible assumption) | assumption)
                                      obtain ⟨ad111, A111_2, c111_2, e111, hx111_0, hx111_1, hx111_2, hl111_2, hi111_2⟩ := at_T24 HR1.out x8_1 p111 q111
                                      obtain rfl : ad108 = ad111 := (by injection e111)
                                      replace hx111_0 := (HB.out.cell (World.block_lt_of_cell? w _ hx111_0)).trans hx111_0
                                      replace hx111_1 := (HB.out.cell (World.block_lt_of_cell? w _ hx111_1)).trans hx111_1
                                      replace hx111_2 := (HB.out.cell (World.block_lt_of_cell? w _ hx111_2)).trans hx111_2
                                      have HR111_2 := Aside0.mk hi111_2
                                      have HC111_2 := Aside0.mk hl111_2
                                      clear hi111_2 hl111_2
                                      replace p111 := eq_true p111
                                      replace q111 := eq_true q111
                                      have ea_ := Option.some.inj (hx110_2.symm.trans hx111_2)
                                      injection ea_ with ea_ en_ ec_
                                      subst ea_
                                      subst ec_
                                      clear en_
                                      obtain ⟨Ao35, co35, eo35⟩ := Kd.R_slice HO_7.out
                                      subst eo35
                                      go_wp2
                                      go_roundg k2
                                      case measure => have := HK1.out; have := HK2.out; omega
                                      case rel => exact ⟨(x7_2), (wrap64 (x10_2 + 1)), (by first | rfl | (simp; done) | (simp [*]; done)), H', ⟨by have := HK1.out; have := HK2.out; omega⟩, ⟨by (with_reducible repeat (first | apply Kd.R_alloc | apply Kd.R_drewN | apply Kd.R_drew)); exact HO_7.out⟩, ⟨by repeat (first | (with_reducible first | exact HB.out | apply below_alloc | apply pw_below_drewN | apply below_drew1) | exact HB.out)⟩⟩
                                  · rw [if_neg c26] at H
                                    have c26b0 : decide (0 ≤ (wrap64 (((rd_T24 l1 x8_1).f1) + x10_2))) = false := decide_eq_false c26
                                    clear c26
                                    have H' := Aside0.mk H
                                    clear H
                                    have p110 : 0 ≤ (x8_1 : Int) := of_decide_eq_true (by first | (with_reducible assumption) | assumption)
                                    have q110 : x8_1 < (l1.length : Int) := of_decide_eq_true (by first | (with_reducible assumption) | assumption)
                                    obtain ⟨ad110, A110_2, c110_2, e110, hx110_0, hx110_1, hx110_2, hl110_2, hi110_2⟩ := at_T24 HR1.out x8_1 p110 q110
                                    obtain rfl : ad108 = ad110 := (by injection e110)
                                    replace hx110_0 := (HB.out.cell (World.block_lt_of_cell? w _ hx110_0)).trans hx110_0
                                    replace hx110_1 := (HB.out.cell (World.block_lt_of_cell? w _ hx110_1)).trans hx110_1
                                    replace hx110_2 := (HB.out.cell (World.block_lt_of_cell? w _ hx110_2)).trans hx110_2
                                    have HR110_2 := Aside0.mk hi110_2
                                    have HC110_2 := Aside0.mk hl110_2
                                    clear hi110_2 hl110_2
                                    replace p110 := eq_true p110
                                    replace q110 := eq_true q110
                                    have p111 : 0 ≤ (x8_1 : Int) := of_decide_eq_true (by first | (with_reducible assumption) | assumption)
                                    have q111 : x8_1 < (l1.length : Int) := of_decide_eq_true (by first | (with_reducible assumption) | assumption)
                                    obtain ⟨ad111, A111_2, c111_2, e111, hx111_0, hx111_1, hx111_2, hl111_2, hi111_2⟩ := at_T24 HR1.out x8_1 p111 q111
                                    obtain rfl : ad108 = ad111 := (by injection e111)
                                    replace hx111_0 := (HB.out.cell (World.block_lt_of_cell? w _ hx111_0)).trans hx111_0
                                    replace hx111_1 := (HB.out.cell (World.block_lt_of_cell? w _ hx111_1)).trans hx111_1
                                    replace hx111_2 := (HB.out.cell (World.block_lt_of_cell? w _ hx111_2)).trans hx111_2
                                    have HR111_2 := Aside0.mk hi111_2
                                    have HC111_2 := Aside0.mk hl111_2
                                    clear hi111_2 hl111_2
                                    replace p111 := eq_true p111
                                    replace q111 := eq_true q111
                                    have ea_ := Option.some.inj (hx110_2.symm.trans hx111_2)
                                    injection ea_ with ea_ en_ ec_
                                    subst ea_
                                    subst ec_
                                    clear en_
                                    obtain ⟨Ao36, co36, eo36⟩ := Kd.R_slice HO_7.out
                                    subst eo36
                                    go_wp2
                                    go_roundg k2
                                    case measure => have := HK1.out; have := HK2.out; omega
                                    case rel => exact ⟨(x7_2), (wrap64 (x10_2 + 1)), (by first | rfl | (simp; done) | (simp [*]; done)), H', ⟨by have := HK1.out; have := HK2.out; omega⟩, ⟨by (with_reducible repeat (first | apply Kd.R_alloc | apply Kd.R_drewN | apply Kd.R_drew)); exact HO_7.out⟩, ⟨by repeat (first | (with_reducible first | exact HB.out | apply below_alloc | apply pw_below_drewN | apply below_drew1) | exact HB.out)⟩⟩
                                · rw [if_neg c25] at H
                                  have c25b0 : decide ((-1099511627776) < ((rd_T24 l1 x8_1).f1)) = false := decide_eq_false c25
                                  clear c25
                                  have H' := Aside0.mk H
                                  clear H
                                  have p110 : 0 ≤ (x8_1 : Int) := of_decide_eq_true (by first | (with_reducible assumption) | assumption)
                                  have q110 : x8_1 < (l1.length : Int) := of_decide_eq_true (by first | (with_reducible assumption) | assumption)
                                  obtain ⟨ad110, A110_2, c110_2, e110, hx110_0, hx110_1, hx110_2, hl110_2, hi110_2⟩ := at_T24 HR1.out x8_1 p110 q110
                                  obtain rfl : ad108 = ad110 := (by injection e110)
                                  replace hx110_0 := (HB.out.cell (World.block_lt_of_cell? w _ hx110_0)).trans hx110_0
                                  replace hx110_1 := (HB.out.cell (World.block_lt_of_cell? w _ hx110_1)).trans hx110_1
                                  replace hx110_2 := (HB.out.cell (World.block_lt_of_cell? w _ hx110_2)).trans hx110_2
                                  have HR110_2 := Aside0.mk hi110_2
                                  have HC110_2 := Aside0.mk hl110_2
                                  clear hi110_2 hl110_2
                                  replace p110 := eq_true p110
                                  replace q110 := eq_true q110
                                  have p111 : 0 ≤ (x8_1 : Int) := of_decide_eq_true (by first | (with_reducible assumption) | assumption)
                                  have q111 : x8_1 < (l1.length : Int) := of_decide_eq_true (by first | (with_reducible assumption) | assumption)
                                  obtain ⟨ad111, A111_2, c111_2, e111, hx111_0, hx111_1, hx111_2, hl111_2, hi111_2⟩ := at_T24 HR1.out x8_1 p111 q111
                                  obtain rfl : ad108 = ad111 := (by injection e111)
                                  replace hx111_0 := (HB.out.cell (World.block_lt_of_cell? w _ hx111_0)).trans hx111_0
                                  replace hx111_1 := (HB.out.cell (World.block_lt_of_cell? w _ hx111_1)).trans hx111_1
                                  replace hx111_2 := (HB.out.cell (World.block_lt_of_cell? w _ hx111_2)).trans hx111_2
                                  have HR111_2 := Aside0.mk hi111_2
                                  have HC111_2 := Aside0.mk hl111_2
                                  clear hi111_2 hl111_2
                                  replace p111 := eq_true p111
                                  replace q111 := eq_true q111
                                  have ea_ := Option.some.inj (hx110_2.symm.trans hx111_2)
                                  injection ea_ with ea_ en_ ec_
                                  subst ea_
                                  subst ec_
                                  clear en_
                                  obtain ⟨Ao37, co37, eo37⟩ := Kd.R_slice HO_7.out
                                  subst eo37
                                  go_wp2
                                  go_roundg k2
                                  case measure => have := HK1.out; have := HK2.out; omega
                                  case rel => exact ⟨(x7_2), (wrap64 (x10_2 + 1)), (by first | rfl | (simp; done) | (simp [*]; done)), H', ⟨by have := HK1.out; have := HK2.out; omega⟩, ⟨by (with_reducible repeat (first | apply Kd.R_alloc | apply Kd.R_drewN | apply Kd.R_drew)); exact HO_7.out⟩, ⟨by repeat (first | (with_reducible first | exact HB.out | apply below_alloc | apply pw_below_drewN | apply below_drew1) | exact HB.out)⟩⟩
                              · rw [if_neg c24] at H
                                have c24b0 : decide (((rd_T24 l1 x8_1).f1) < 0) = false := decide_eq_false c24
                                clear c24
                                have H' := Aside0.mk H
                                clear H
                                have p110 : 0 ≤ (x8_1 : Int) := of_decide_eq_true (by first | (with_reducible assumption) | assumption)
                                have q110 : x8_1 < (l1.length : Int) := of_decide_eq_true (by first | (with_reducible assumption) | assumption)
                                obtain ⟨ad110, A110_2, c110_2, e110, hx110_0, hx110_1, hx110_2, hl110_2, hi110_2⟩ := at_T24 HR1.out x8_1 p110 q110
                                obtain rfl : ad108 = ad110 := (by injection e110)
                                replace hx110_0 := (HB.out.cell (World.block_lt_of_cell? w _ hx110_0)).trans hx110_0
                                replace hx110_1 := (HB.out.cell (World.block_lt_of_cell? w _ hx110_1)).trans hx110_1
                                replace hx110_2 := (HB.out.cell (World.block_lt_of_cell? w _ hx110_2)).trans hx110_2
                                have HR110_2 := Aside0.mk hi110_2
                                have HC110_2 := Aside0.mk hl110_2
                                clear hi110_2 hl110_2
                                replace p110 := eq_true p110
                                replace q110 := eq_true q110
                                have p111 : 0 ≤ (x8_1 : Int) := of_decide_eq_true (by first | (with_reducible assumption) | assumption)
                                have q111 : x8_1 < (l1.length : Int) := of_decide_eq_true (by first | (with_reducible assumption) | assumption)
                                obtain ⟨ad111, A111_2, c111_2, e111, hx111_0, hx111_1, hx111_2, hl111_2, hi111_2⟩ := at_T24 HR1.out x8_1 p111 q111
                                obtain rfl : ad108 = ad111 := (by injection e111)
                                replace hx111_0 := (HB.out.cell (World.block_lt_of_cell? w _ hx111_0)).trans hx111_0
                                replace hx111_1 := (HB.out.cell (World.block_lt_of_cell? w _ hx111_1)).trans hx111_1
                                replace hx111_2 := (HB.out.cell (World.block_lt_of_cell? w _ hx111_2)).trans hx111_2
                                have HR111_2 := Aside0.mk hi111_2
                                have HC111_2 := Aside0.mk hl111_2
                                clear hi111_2 hl111_2
                                replace p111 := eq_true p111
                                replace q111 := eq_true q111
                                have ea_ := Option.some.inj (hx110_2.symm.trans hx111_2)
                                injection ea_ with ea_ en_ ec_
                                subst ea_
                                subst ec_
                                clear en_
                                obtain ⟨Ao38, co38, eo38⟩ := Kd.R_slice HO_7.out
                                subst eo38
                                go_wp2
                                go_roundg k2
                                case measure => have := HK1.out; have := HK2.out; omega
                                case rel => exact ⟨(x7_2), (wrap64 (x10_2 + 1)), (by first | rfl | (simp; done) | (simp [*]; done)), H', ⟨by have := HK1.out; have := HK2.out; omega⟩, ⟨by (with_reducible repeat (first | apply Kd.R_alloc | apply Kd.R_drewN | apply Kd.R_drew)); exact HO_7.out⟩, ⟨by repeat (first | (with_reducible first | exact HB.out | apply below_alloc | apply pw_below_drewN | apply below_drew1) | exact HB.out)⟩⟩
                          · rw [if_neg c14] at H
                            have c14b0 : decide (((rd_T24 l1 x8_1).f1) < (x7_2.length : Int)) = false := decide_eq_false c14
                            clear c14
                            by_cases c39 : ((rd_T24 l1 x8_1).f1) < 0
                            · rw [if_pos c39] at H
                              have c39b0 : decide (((rd_T24 l1 x8_1).f1) < 0) = true := decide_eq_true c39
                              clear c39
                              by_cases c40 : ((rd_T24 l1 x8_1).f1) > (-1099511627776)
                              · rw [if_pos c40] at H
                                have c40b0 : decide ((-1099511627776) < ((rd_T24 l1 x8_1).f1)) = true := decide_eq_true c40
                                clear c40
                                by_cases c41 : (wrap64 (((rd_T24 l1 x8_1).f1) + x10_2)) ≥ 0
                                · rw [if_pos c41] at H
                                  have c41b0 : decide (0 ≤ (wrap64 (((rd_T24 l1 x8_1).f1) + x10_2))) = true := decide_eq_true c41
                                  clear c41
                                  by_cases c42 : (wrap64 (((rd_T24 l1 x8_1).f1) + x10_2)) < (x7_2.length : Int)
                                  · rw [if_pos c42] at H
                                    have c42b0 : decide ((wrap64 (((rd_T24 l1 x8_1).f1) + x10_2)) < (x7_2.length : Int)) = true := decide_eq_true c42
                                    clear c42
                                    by_cases c43 : 0 ≤ x10_2
                                    · rw [if_pos c43] at H
                                      have c43b0 : decide (0 ≤ x10_2) = true := decide_eq_true c43
                                      clear c43
                                      obtain ⟨ji44, hji44⟩ : ∃ j_ : Int, (wrap64 (((rd_T24 l1 x8_1).f1) + x10_2)) = j_ := ⟨_, rfl⟩
                                      replace H : (if 0 ≤ (ji44) then (lockgateref11_Apply.l1 k2 l1 l2 (x7_2.set ((ji44) : Int).toNat (rd ((rd_T24 l1 x8_1).f2) x10_2)) x8_1 (wrap64 (x10_2 + 1))) else (none)) = some r := by first | (rw [hji44] at H; exact H) | (simp only [hji44] at H ⊢; exact H)
                                      (try rw [hji44] at c41b0)
                                      (try rw [hji44] at c42b0)
                                      have hji44w : (IntKind.i64.wrap (((rd_T24 l1 x8_1).f1) + x10_2)) = ji44 := (i64_w _).trans hji44
                                      by_cases c45 : 0 ≤ (ji44)
                                      · rw [if_pos c45] at H
                                        have c45b0 : decide (0 ≤ (ji44)) = true := decide_eq_true c45
                                        clear c45
                                        obtain ⟨y120, hy120⟩ : ∃ y_ : List Int, y_ = (x7_2.set ((ji44) : Int).toNat (rd ((rd_T24 l1 x8_1).f2) x10_2)) := ⟨_, rfl⟩
                                        replace H : (lockgateref11_Apply.l1 k2 l1 l2 y120 x8_1 (wrap64 (x10_2 + 1))) = some r := by first | (rw [hy120]; with_reducible exact H) | (have H2_ := (Option.bind_some _ _).symm.trans H; rw [hy120]; with_reducible exact H2_) | (have H2_ := (Option.bind_some _ _).symm.trans H; with_reducible exact H2_) | with_reducible exact H | (rw [hy120]; exact H) | exact H
                                        have Ny120 := Aside0.mk hy120
                                        clear hy120
                                        have H' := Aside0.mk H
                                        clear H
                                        have p110 : 0 ≤ (x8_1 : Int) := of_decide_eq_true (by first | (with_reducible assumption) | assumption)
                                        have q110 : x8_1 < (l1.length : Int) := of_decide_eq_true (by first | (with_reducible assumption) | assumption)
                                        obtain ⟨ad110, A110_2, c110_2, e110, hx110_0, hx110_1, hx110_2, hl110_2, hi110_2⟩ := at_T24 HR1.out x8_1 p110 q110
                                        obtain rfl : ad108 = ad110 := (by injection e110)
                                        replace hx110_0 := (HB.out.cell (World.block_lt_of_cell? w _ hx110_0)).trans hx110_0
                                        replace hx110_1 := (HB.out.cell (World.block_lt_of_cell? w _ hx110_1)).trans hx110_1
                                        replace hx110_2 := (HB.out.cell (World.block_lt_of_cell? w _ hx110_2)).trans hx110_2
                                        have HR110_2 := Aside0.mk hi110_2
                                        have HC110_2 := Aside0.mk hl110_2
                                        clear hi110_2 hl110_2
                                        replace p110 := eq_true p110
                                        replace q110 := eq_true q110
                                        have p111 : 0 ≤ (x8_1 : Int) := of_decide_eq_true (by first | (with_reducible assumption) | assumption)
                                        have q111 : x8_1 < (l1.length : Int) := of_decide_eq_true (by first | (with_reducible assumption) | assumption)
                                        obtain ⟨ad111, A111_2, c111_2, e111, hx111_0, hx111_1, hx111_2, hl111_2, hi111_2⟩ := at_T24 HR1.out x8_1 p111 q111
                                        obtain rfl : ad108 = ad111 := (by injection e111)
                                        replace hx111_0 := (HB.out.cell (World.block_lt_of_cell? w _ hx111_0)).trans hx111_0
                                        replace hx111_1 := (HB.out.cell (World.block_lt_of_cell? w _ hx111_1)).trans hx111_1
                                        replace hx111_2 := (HB.out.cell (World.block_lt_of_cell? w _ hx111_2)).trans hx111_2
                                        have HR111_2 := Aside0.mk hi111_2
                                        have HC111_2 := Aside0.mk hl111_2
                                        clear hi111_2 hl111_2
                                        replace p111 := eq_true p111
                                        replace q111 := eq_true q111
                                        have ea_ := Option.some.inj (hx110_2.symm.trans hx111_2)
                                        injection ea_ with ea_ en_ ec_
                                        subst ea_
                                        subst ec_
                                        clear en_
                                        obtain ⟨Ao47, co47, eo47⟩ := Kd.R_slice HO_7.out
                                        subst eo47
                                        have p118 : 0 ≤ (x8_1 : Int) := of_decide_eq_true (by first | (with_reducible assumption) | assumption)
                                        have q118 : x8_1 < (l1.length : Int) := of_decide_eq_true (by first | (with_reducible assumption) | assumption)
                                        obtain ⟨ad118, A118_2, c118_2, e118, hx118_0, hx118_1, hx118_2, hl118_2, hi118_2⟩ := at_T24 HR1.out x8_1 p118 q118
                                        obtain rfl : ad108 = ad118 := (by injection e118)
                                        replace hx118_0 := (HB.out.cell (World.block_lt_of_cell? w _ hx118_0)).trans hx118_0
                                        replace hx118_1 := (HB.out.cell (World.block_lt_of_cell? w _ hx118_1)).trans hx118_1
                                        replace hx118_2 := (HB.out.cell (World.block_lt_of_cell? w _ hx118_2)).trans hx118_2
                                        have HR118_2 := Aside0.mk hi118_2
                                        have HC118_2 := Aside0.mk hl118_2
                                        clear hi118_2 hl118_2
                                        replace p118 := eq_true p118
                                        replace q118 := eq_true q118
                                        have ea_ := Option.some.inj (hx110_2.symm.trans hx118_2)
                                        injection ea_ with ea_ en_ ec_
                                        subst ea_
                                        subst ec_
                                        clear en_
                                        have p119 : 0 ≤ (x10_2 : Int) := of_decide_eq_true (by first | (with_reducible assumption) | assumption)
                                        have q119 : x10_2 < (((rd_T24 l1 x8_1).f2).length : Int) := of_decide_eq_true (by first | (with_reducible assumption) | assumption)
                                        obtain ⟨ad119, e119, hx119_0⟩ := Kd.at_int HR118_2.out x10_2 p119 q119
                                        cases e119
                                        replace hx119_0 := (HB.out.cell (World.block_lt_of_cell? w _ hx119_0)).trans hx119_0
                                        replace p119 := eq_true p119
                                        replace q119 := eq_true q119
                                        have p46 : 0 ≤ ((ji44) : Int) := of_decide_eq_true (by first | (with_reducible assumption) | assumption)
                                        have q46 : ((ji44) : Int) < ((x7_2.length : Int) : Int) := of_decide_eq_true (by first | (with_reducible assumption) | assumption)
                                        obtain ⟨go46, co46, eo46, gb46, gl46, cl46, HG46⟩ := Kd.R_form HO_7.out (by omega)
                                        (first | cases eo46 | (injection eo46 with ea_ en_ ec_; (first | subst ea_ | (injection ea_ with ea_; subst ea_)); subst ec_; clear en_))
                                        have GB46 := Aside0.mk gb46
                                        have GG46 := Aside0.mk HG46
                                        clear gb46 gl46 HG46
                                        obtain ⟨hx46_0, hf46_0⟩ := Kd.R_celln 0 HO_7.out ((ji44) : Int) p46 q46
                                        replace p46 := eq_true p46
                                        replace q46 := eq_true q46
                                        have HP48 := Kd.R_putg HO_7.out ((ji44) : Int) (rd ((rd_T24 l1 x8_1).f2) x10_2)
                                        go_wp2_with (first | ((with_reducible refine gate_store (t := 5) (p := 93) rfl ?_); refine store_event (t := 5) (p := 93) (v := ?vo_w49) (w1 := (wr.setCell ⟨go46, ((ji44) : Int).toNat, none⟩ (.int .u8 (rd ((rd_T24 l1 x8_1).f2) x10_2)))) ?hg ?ho ?hn ?hr ?_; (case ho => rfl); (case hg => rfl); (case hn => rfl); (case hr => first | (go_simp; done) | (go_simp; rfl)); intro w49 hw; have hg : wr.grownBy w49 (some go46) := (by rw [hw]; exact HP48.2); have hp_ : Kd.R (Kd.int .u8) 5 w49 w.heap.size (fun _ => True) (.slice (some ⟨go46, 0, none⟩) x7_2.length co47) y120 := (by rw [hw, Ny120.out]; exact HP48.1); clear HP48; have n0_ := Aside0.mk (hp_); have n1_ := Aside0.mk ((by rw [hw]; exact below_set (HB.out) GB46.out : Below w.heap.size w w49)); clear HO_7; clear HB; have HO_7 := n0_; have HB := n1_; clear n0_ n1_; clear hg hw hp_))
                                        go_roundg k2
                                        case measure => have := HK1.out; have := HK2.out; omega
                                        case rel => exact ⟨(y120), (wrap64 (x10_2 + 1)), (by first | rfl | (simp; done) | (simp [*]; done)), H', ⟨by have := HK1.out; have := HK2.out; omega⟩, ⟨by (with_reducible repeat (first | apply Kd.R_alloc | apply Kd.R_drewN | apply Kd.R_drew)); exact HO_7.out⟩, ⟨by repeat (first | (with_reducible first | exact HB.out | apply below_alloc | apply pw_below_drewN | apply below_drew1) | exact HB.out)⟩⟩
                                      · rw [if_neg c45] at H
                                        exact absurd H (by simp)
                                    · rw [if_neg c43] at H
                                      exact absurd H (by simp)
                                  · rw [if_neg c42] at H
                                    have c42b0 : decide ((wrap64 (((rd_T24 l1 x8_1).f1) + x10_2)) < (x7_2.length : Int)) = false := decide_eq_false c42
                                    clear c42
                                    have H' := Aside0.mk H
                                    clear H
                                    have p110 : 0 ≤ (x8_1 : Int) := of_decide_eq_true (by first | (with_reducible assumption) | assumption)
                                    have q110 : x8_1 < (l1.length : Int) := of_decide_eq_true (by first | (with_reducible assumption) | assumption)
                                    obtain ⟨ad110, A110_2, c110_2, e110, hx110_0, hx110_1, hx110_2, hl110_2, hi110_2⟩ := at_T24 HR1.out x8_1 p110 q110
                                    obtain rfl : ad108 = ad110 := (by injection e110)
                                    replace hx110_0 := (HB.out.cell (World.block_lt_of_cell? w _ hx110_0)).trans hx110_0
                                    replace hx110_1 := (HB.out.cell (World.block_lt_of_cell? w _ hx110_1)).trans hx110_1
                                    replace hx110_2 := (HB.out.cell (World.block_lt_of_cell? w _ hx110_2)).trans hx110_2
                                    have HR110_2 := Aside0.mk hi110_2
                                    have HC110_2 := Aside0.mk hl110_2
                                    clear hi110_2 hl110_2
                                    replace p110 := eq_true p110
                                    replace q110 := eq_true q110
                                    have p111 : 0 ≤ (x8_1 : Int) := of_decide_eq_true (by first | (with_reducible assumption) | assumption)
                                    have q111 : x8_1 < (l1.length : Int) := of_decide_eq_true (by first | (with_reducible assumption) | assumption)
                                    obtain ⟨ad111, A111_2, c111_2, e111, hx111_0, hx111_1, hx111_2, hl111_2, hi111_2⟩ := at_T24 HR1.out x8_1 p111 q111
                                    obtain rfl : ad108 = ad111 := (by injection e111)
                                    replace hx111_0 := (HB.out.cell (World.block_lt_of_cell? w _ hx111_0)).trans hx111_0
                                    replace hx111_1 := (HB.out.cell (World.block_lt_of_cell? w _ hx111_1)).trans hx111_1
                                    replace hx111_2 := (HB.out.cell (World.block_lt_of_cell? w _ hx111_2)).trans hx111_2
                                    have HR111_2 := Aside0.mk hi111_2
                                    have HC111_2 := Aside0.mk hl111_2
                                    clear hi111_2 hl111_2
                                    replace p111 := eq_true p111
                                    replace q111 := eq_true q111
                                    have ea_ := Option.some.inj (hx110_2.symm.trans hx111_2)
                                    injection ea_ with ea_ en_ ec_
                                    subst ea_
                                    subst ec_
                                    clear en_
                                    obtain ⟨Ao50, co50, eo50⟩ := Kd.R_slice HO_7.out
                                    subst eo50
                                    go_wp2
                                    go_roundg k2
                                    case measure => have := HK1.out; have := HK2.out; omega
                                    case rel => exact ⟨(x7_2), (wrap64 (x10_2 + 1)), (by first | rfl | (simp; done) | (simp [*]; done)), H', ⟨by have := HK1.out; have := HK2.out; omega⟩, ⟨by (with_reducible repeat (first | apply Kd.R_alloc | apply Kd.R_drewN | apply Kd.R_drew)); exact HO_7.out⟩, ⟨by repeat (first | (with_reducible first | exact HB.out | apply below_alloc | apply pw_below_drewN | apply below_drew1) | exact HB.out)⟩⟩
                                · rw [if_neg c41] at H
                                  have c41b0 : decide (0 ≤ (wrap64 (((rd_T24 l1 x8_1).f1) + x10_2))) = false := decide_eq_false c41
                                  clear c41
                                  have H' := Aside0.mk H
                                  clear H
                                  have p110 : 0 ≤ (x8_1 : Int) := of_decide_eq_true (by first | (with_reducible assumption) | assumption)
                                  have q110 : x8_1 < (l1.length : Int) := of_decide_eq_true (by first | (with_reducible assumption) | assumption)
                                  obtain ⟨ad110, A110_2, c110_2, e110, hx110_0, hx110_1, hx110_2, hl110_2, hi110_2⟩ := at_T24 HR1.out x8_1 p110 q110
                                  obtain rfl : ad108 = ad110 := (by injection e110)
                                  replace hx110_0 := (HB.out.cell (World.block_lt_of_cell? w _ hx110_0)).trans hx110_0
                                  replace hx110_1 := (HB.out.cell (World.block_lt_of_cell? w _ hx110_1)).trans hx110_1
                                  replace hx110_2 := (HB.out.cell (World.block_lt_of_cell? w _ hx110_2)).trans hx110_2
                                  have HR110_2 := Aside0.mk hi110_2
                                  have HC110_2 := Aside0.mk hl110_2
                                  clear hi110_2 hl110_2
                                  replace p110 := eq_true p110
                                  replace q110 := eq_true q110
                                  have p111 : 0 ≤ (x8_1 : Int) := of_decide_eq_true (by first | (with_reducible assumption) | assumption)
                                  have q111 : x8_1 < (l1.length : Int) := of_decide_eq_true (by first | (with_reducible assumption) | assumption)
                                  obtain ⟨ad111, A111_2, c111_2, e111, hx111_0, hx111_1, hx111_2, hl111_2, hi111_2⟩ := at_T24 HR1.out x8_1 p111 q111
                                  obtain rfl : ad108 = ad111 := (by injection e111)
                                  replace hx111_0 := (HB.out.cell (World.block_lt_of_cell? w _ hx111_0)).trans hx111_0
                                  replace hx111_1 := (HB.out.cell (World.block_lt_of_cell? w _ hx111_1)).trans hx111_1
                                  replace hx111_2 := (HB.out.cell (World.block_lt_of_cell? w _ hx111_2)).trans hx111_2
                                  have HR111_2 := Aside0.mk hi111_2
                                  have HC111_2 := Aside0.mk hl111_2
                                  clear hi111_2 hl111_2
                                  replace p111 := eq_true p111
                                  replace q111 := eq_true q111
                                  have ea_ := Option.some.inj (hx110_2.symm.trans hx111_2)
                                  injection ea_ with ea_ en_ ec_
                                  subst ea_
                                  subst ec_
                                  clear en_
                                  obtain ⟨Ao51, co51, eo51⟩ := Kd.R_slice HO_7.out
                                  subst eo51
                                  go_wp2
                                  go_roundg k2
                                  case measure => have := HK1.out; have := HK2.out; omega
                                  case rel => exact ⟨(x7_2), (wrap64 (x10_2 + 1)), (by first | rfl | (simp; done) | (simp [*]; done)), H', ⟨by have := HK1.out; have := HK2.out; omega⟩, ⟨by (with_reducible repeat (first | apply Kd.R_alloc | apply Kd.R_drewN | apply Kd.R_drew)); exact HO_7.out⟩, ⟨by repeat (first | (with_reducible first | exact HB.out | apply below_alloc | apply pw_below_drewN | apply below_drew1) | exact HB.out)⟩⟩
                              · rw [if_neg c40] at H
                                have c40b0 : decide ((-1099511627776) < ((rd_T24 l1 x8_1).f1)) = false := decide_eq_false c40
                                clear c40
                                have H' := Aside0.mk H
                                clear H
                                have p110 : 0 ≤ (x8_1 : Int) := of_decide_eq_true (by first | (with_reducible assumption) | assumption)
                                have q110 : x8_1 < (l1.length : Int) := of_decide_eq_true (by first | (with_reducible assumption) | assumption)
                                obtain ⟨ad110, A110_2, c110_2, e110, hx110_0, hx110_1, hx110_2, hl110_2, hi110_2⟩ := at_T24 HR1.out x8_1 p110 q110
                                obtain rfl : ad108 = ad110 := (by injection e110)
                                replace hx110_0 := (HB.out.cell (World.block_lt_of_cell? w _ hx110_0)).trans hx110_0
                                replace hx110_1 := (HB.out.cell (World.block_lt_of_cell? w _ hx110_1)).trans hx110_1
                                replace hx110_2 := (HB.out.cell (World.block_lt_of_cell? w _ hx110_2)).trans hx110_2
                                have HR110_2 := Aside0.mk hi110_2
                                have HC110_2 := Aside0.mk hl110_2
                                clear hi110_2 hl110_2
                                replace p110 := eq_true p110
                                replace q110 := eq_true q110
                                have p111 : 0 ≤ (x8_1 : Int) := of_decide_eq_true (by first | (with_reducible assumption) | assumption)
                                have q111 : x8_1 < (l1.length : Int) := of_decide_eq_true (by first | (with_reducible assumption) | assumption)
                                obtain ⟨ad111, A111_2, c111_2, e111, hx111_0, hx111_1, hx111_2, hl111_2, hi111_2⟩ := at_T24 HR1.out x8_1 p111 q111
                                obtain rfl : ad108 = ad111 := (by injection e111)
                                replace hx111_0 := (HB.out.cell (World.block_lt_of_cell? w _ hx111_0)).trans hx111_0
                                replace hx111_1 := (HB.out.cell (World.block_lt_of_cell? w _ hx111_1)).trans hx111_1
                                replace hx111_2 := (HB.out.cell (World.block_lt_of_cell? w _ hx111_2)).trans hx111_2
                                have HR111_2 := Aside0.mk hi111_2
                                have HC111_2 := Aside0.mk hl111_2
                                clear hi111_2 hl111_2
                                replace p111 := eq_true p111
                                replace q111 := eq_true q111
                                have ea_ := Option.some.inj (hx110_2.symm.trans hx111_2)
                                injection ea_ with ea_ en_ ec_
                                subst ea_
                                subst ec_
                                clear en_
                                obtain ⟨Ao52, co52, eo52⟩ := Kd.R_slice HO_7.out
                                subst eo52
                                go_wp2
                                go_roundg k2
                                case measure => have := HK1.out; have := HK2.out; omega
                                case rel => exact ⟨(x7_2), (wrap64 (x10_2 + 1)), (by first | rfl | (simp; done) | (simp [*]; done)), H', ⟨by have := HK1.out; have := HK2.out; omega⟩, ⟨by (with_reducible repeat (first | apply Kd.R_alloc | apply Kd.R_drewN | apply Kd.R_drew)); exact HO_7.out⟩, ⟨by repeat (first | (with_reducible first | exact HB.out | apply below_alloc | apply pw_below_drewN | apply below_drew1) | exact HB.out)⟩⟩
                            · rw [if_neg c39] at H
                              have c39b0 : decide (((rd_T24 l1 x8_1).f1) < 0) = false := decide_eq_false c39
                              clear c39
                              have H' := Aside0.mk H
                              clear H
                              have p110 : 0 ≤ (x8_1 : Int) := of_decide_eq_true (by first | (with_reducible assumption) | assumption)
                              have q110 : x8_1 < (l1.length : Int) := of_decide_eq_true (by first | (with_reducible assumption) | assumption)
                              obtain ⟨ad110, A110_2, c110_2, e110, hx110_0, hx110_1, hx110_2, hl110_2, hi110_2⟩ := at_T24 HR1.out x8_1 p110 q110
                              obtain rfl : ad108 = ad110 := (by injection e110)
                              replace hx110_0 := (HB.out.cell (World.block_lt_of_cell? w _ hx110_0)).trans hx110_0
                              replace hx110_1 := (HB.out.cell (World.block_lt_of_cell? w _ hx110_1)).trans hx110_1
                              replace hx110_2 := (HB.out.cell (World.block_lt_of_cell? w _ hx110_2)).trans hx110_2
                              have HR110_2 := Aside0.mk hi110_2
                              have HC110_2 := Aside0.mk hl110_2
                              clear hi110_2 hl110_2
                              replace p110 := eq_true p110
                              replace q110 := eq_true q110
                              have p111 : 0 ≤ (x8_1 : Int) := of_decide_eq_true (by first | (with_reducible assumption) | assumption)
                              have q111 : x8_1 < (l1.length : Int) := of_decide_eq_true (by first | (with_reducible assumption) | assumption)
                              obtain ⟨ad111, A111_2, c111_2, e111, hx111_0, hx111_1, hx111_2, hl111_2, hi111_2⟩ := at_T24 HR1.out x8_1 p111 q111
                              obtain rfl : ad108 = ad111 := (by injection e111)
                              replace hx111_0 := (HB.out.cell (World.block_lt_of_cell? w _ hx111_0)).trans hx111_0
                              replace hx111_1 := (HB.out.cell (World.block_lt_of_cell? w _ hx111_1)).trans hx111_1
                              replace hx111_2 := (HB.out.cell (World.block_lt_of_cell? w _ hx111_2)).trans hx111_2
                              have HR111_2 := Aside0.mk hi111_2
                              have HC111_2 := Aside0.mk hl111_2
                              clear hi111_2 hl111_2
                              replace p111 := eq_true p111
                              replace q111 := eq_true q111
                              have ea_ := Option.some.inj (hx110_2.symm.trans hx111_2)
                              injection ea_ with ea_ en_ ec_
                              subst ea_
                              subst ec_
                              clear en_
                              obtain ⟨Ao53, co53, eo53⟩ := Kd.R_slice HO_7.out
                              subst eo53
                              go_wp2
                              go_roundg k2
                              case measure => have := HK1.out; have := HK2.out; omega
                              case rel => exact ⟨(x7_2), (wrap64 (x10_2 + 1)), (by first | rfl | (simp; done) | (simp [*]; done)), H', ⟨by have := HK1.out; have := HK2.out; omega⟩, ⟨by (with_reducible repeat (first | apply Kd.R_alloc | apply Kd.R_drewN | apply Kd.R_drew)); exact HO_7.out⟩, ⟨by repeat (first | (with_reducible first | exact HB.out | apply below_alloc | apply pw_below_drewN | apply below_drew1) | exact HB.out)⟩⟩
                        · rw [if_neg c13] at H
                          have c13b0 : decide (0 ≤ ((rd_T24 l1 x8_1).f1)) = false := decide_eq_false c13
                          clear c13
                          by_cases c54 : ((rd_T24 l1 x8_1).f1) < 0
                          · rw [if_pos c54] at H
                            have c54b0 : decide (((rd_T24 l1 x8_1).f1) < 0) = true := decide_eq_true c54
                            clear c54
                            by_cases c55 : ((rd_T24 l1 x8_1).f1) > (-1099511627776)
                            · rw [if_pos c55] at H
                              have c55b0 : decide ((-1099511627776) < ((rd_T24 l1 x8_1).f1)) = true := decide_eq_true c55
                              clear c55
                              by_cases c56 : (wrap64 (((rd_T24 l1 x8_1).f1) + x10_2)) ≥ 0
                              · rw [if_pos c56] at H
                                have c56b0 : decide (0 ≤ (wrap64 (((rd_T24 l1 x8_1).f1) + x10_2))) = true := decide_eq_true c56
                                clear c56
                                by_cases c57 : (wrap64 (((rd_T24 l1 x8_1).f1) + x10_2)) < (x7_2.length : Int)
                                · rw [if_pos c57] at H
                                  have c57b0 : decide ((wrap64 (((rd_T24 l1 x8_1).f1) + x10_2)) < (x7_2.length : Int)) = true := decide_eq_true c57
                                  clear c57
                                  by_cases c58 : 0 ≤ x10_2
                                  · rw [if_pos c58] at H
                                    have c58b0 : decide (0 ≤ x10_2) = true := decide_eq_true c58
                                    clear c58
                                    obtain ⟨ji59, hji59⟩ : ∃ j_ : Int, (wrap64 (((rd_T24 l1 x8_1).f1) + x10_2)) = j_ := ⟨_, rfl⟩
                                    replace H : (if 0 ≤ (ji59) then (lockgateref11_Apply.l1 k2 l1 l2 (x7_2.set ((ji59) : Int).toNat (rd ((rd_T24 l1 x8_1).f2) x10_2)) x8_1 (wrap64 (x10_2 + 1))) else (none)) = some r := by first | (rw [hji59] at H; exact H) | (simp only [hji59] at H ⊢; exact H)
                                    (try rw [hji59] at c56b0)
                                    (try rw [hji59] at c57b0)
                                    have hji59w : (IntKind.i64.wrap (((rd_T24 l1 x8_1).f1) + x10_2)) = ji59 := (i64_w _).trans hji59
                                    by_cases c60 : 0 ≤ (ji59)
                                    · rw [if_pos c60] at H
                                      have c60b0 : decide (0 ≤ (ji59)) = true := decide_eq_true c60
                                      clear c60
                                      obtain ⟨y123, hy123⟩ : ∃ y_ : List Int, y_ = (x7_2.set ((ji59) : Int).toNat (rd ((rd_T24 l1 x8_1).f2) x10_2)) := ⟨_, rfl⟩
                                      replace H : (lockgateref11_Apply.l1 k2 l1 l2 y123 x8_1 (wrap64 (x10_2 + 1))) = some r := by first | (rw [hy123]; with_reducible exact H) | (have H2_ := (Option.bind_some _ _).symm.trans H; rw [hy123]; with_reducible exact H2_) | (have H2_ := (Option.bind_some _ _).symm.trans H; with_reducible exact H2_) | with_reducible exact H | (rw [hy123]; exact H) | exact H
                                      have Ny123 := Aside0.mk hy123
                                      clear hy123
                                      have H' := Aside0.mk H
                                      clear H
                                      have p110 : 0 ≤ (x8_1 : Int) := of_decide_eq_true (by first | (with_reducible assumption) | assumption)
                                      have q110 : x8_1 < (l1.length : Int) := of_decide_eq_true (by first | (with_reducible assumption) | assumption)
                                      obtain ⟨ad110, A110_2, c110_2, e110, hx110_0, hx110_1, hx110_2, hl110_2, hi110_2⟩ := at_T24 HR1.out x8_1 p110 q110
                                      obtain rfl : ad108 = ad110 := (by injection e110)
                                      replace hx110_0 := (HB.out.cell (World.block_lt_of_cell? w _ hx110_0)).trans hx110_0
                                      replace hx110_1 := (HB.out.cell (World.block_lt_of_cell? w _ hx110_1)).trans hx110_1
                                      replace hx110_2 := (HB.out.cell (World.block_lt_of_cell? w _ hx110_2)).trans hx110_2
                                      have HR110_2 := Aside0.mk hi110_2
                                      have HC110_2 := Aside0.mk hl110_2
                                      clear hi110_2 hl110_2
                                      replace p110 := eq_true p110
                                      replace q110 := eq_true q110
                                      have p111 : 0 ≤ (x8_1 : Int) := of_decide_eq_true (by first | (with_reducible assumption) | assumption)
                                      have q111 : x8_1 < (l1.length : Int) := of_decide_eq_true (by first | (with_reducible assumption) | assumption)
                                      obtain ⟨ad111, A111_2, c111_2, e111, hx111_0, hx111_1, hx111_2, hl111_2, hi111_2⟩ := at_T24 HR1.out x8_1 p111 q111
                                      obtain rfl : ad108 = ad111 := (by injection e111)
                                      replace hx111_0 := (HB.out.cell (World.block_lt_of_cell? w _ hx111_0)).trans hx111_0
                                      replace hx111_1 := (HB.out.cell (World.block_lt_of_cell? w _ hx111_1)).trans hx111_1
                                      replace hx111_2 := (HB.out.cell (World.block_lt_of_cell? w _ hx111_2)).trans hx111_2
                                      have HR111_2 := Aside0.mk hi111_2
                                      have HC111_2 := Aside0.mk hl111_2
                                      clear hi111_2 hl111_2
                                      replace p111 := eq_true p111
                                      replace q111 := eq_true q111
                                      have ea_ := Option.some.inj (hx110_2.symm.trans hx111_2)
                                      injection ea_ with ea_ en_ ec_
                                      subst ea_
                                      subst ec_
                                      clear en_
                                      obtain ⟨Ao62, co62, eo62⟩ := Kd.R_slice HO_7.out
                                      subst eo62
                                      have p121 : 0 ≤ (x8_1 : Int) := of_decide_eq_true (by first | (with_reducible assumption) | assumption)
                                      have q121 : x8_1 < (l1.length : Int) := of_decide_eq_true (by first | (with_reducible assumption) | assumption)
                                      obtain ⟨ad121, A121_2, c121_2, e121, hx121_0, hx121_1, hx121_2, hl121_2, hi121_2⟩ := at_T24 HR1.out x8_1 p121 q121
                                      obtain rfl : ad108 = ad121 := (by injection e121)
                                      replace hx121_0 := (HB.out.cell (World.block_lt_of_cell? w _ hx121_0)).trans hx121_0
                                      replace hx121_1 := (HB.out.cell (World.block_lt_of_cell? w _ hx121_1)).trans hx121_1
                                      replace hx121_2 := (HB.out.cell (World.block_lt_of_cell? w _ hx121_2)).trans hx121_2
                                      have HR121_2 := Aside0.mk hi121_2
                                      have HC121_2 := Aside0.mk hl121_2
                                      clear hi121_2 hl121_2
                                      replace p121 := eq_true p121
                                      replace q121 := eq_true q121
                                      have ea_ := Option.some.inj (hx110_2.symm.trans hx121_2)
                                      injection ea_ with ea_ en_ ec_
                                      subst ea_
                                      subst ec_
                                      clear en_
                                      have p122 : 0 ≤ (x10_2 : Int) := of_decide_eq_true (by first | (with_reducible assumption) | assumption)
                                      have q122 : x10_2 < (((rd_T24 l1 x8_1).f2).length : Int) := of_decide_eq_true (by first | (with_reducible assumption) | assumption)
                                      obtain ⟨ad122, e122, hx122_0⟩ := Kd.at_int HR121_2.out x10_2 p122 q122
                                      cases e122
                                      replace hx122_0 := (HB.out.cell (World.block_lt_of_cell? w _ hx122_0)).trans hx122_0
                                      replace p122 := eq_true p122
                                      replace q122 := eq_true q122
                                      have p61 : 0 ≤ ((ji59) : Int) := of_decide_eq_true (by first | (with_reducible assumption) | assumption)
                                      have q61 : ((ji59) : Int) < ((x7_2.length : Int) : Int) := of_decide_eq_true (by first | (with_reducible assumption) | assumption)
                                      obtain ⟨go61, co61, eo61, gb61, gl61, cl61, HG61⟩ := Kd.R_form HO_7.out (by omega)
                                      (first | cases eo61 | (injection eo61 with ea_ en_ ec_; (first | subst ea_ | (injection ea_ with ea_; subst ea_)); subst ec_; clear en_))
                                      have GB61 := Aside0.mk gb61
                                      have GG61 := Aside0.mk HG61
                                      clear gb61 gl61 HG61
                                      obtain ⟨hx61_0, hf61_0⟩ := Kd.R_celln 0 HO_7.out ((ji59) : Int) p61 q61
                                      replace p61 := eq_true p61
                                      replace q61 := eq_true q61
                                      have HP63 := Kd.R_putg HO_7.out ((ji59) : Int) (rd ((rd_T24 l1 x8_1).f2) x10_2)
                                      go_wp2_with (first | ((with_reducible refine gate_store (t := 5) (p := 93) rfl ?_); refine store_event (t := 5) (p := 93) (v := ?vo_w64) (w1 := (wr.setCell ⟨go61, ((ji59) : Int).toNat, none⟩ (.int .u8 (rd ((rd_T24 l1 x8_1).f2) x10_2)))) ?hg ?ho ?hn ?hr ?_; (case ho => rfl); (case hg => rfl); (case hn => rfl); (case hr => first | (go_simp; done) | (go_simp; rfl)); intro w64 hw; have hg : wr.grownBy w64 (some go61) := (by rw [hw]; exact HP63.2); have hp_ : Kd.R (Kd.int .u8) 5 w64 w.heap.size (fun _ => True) (.slice (some ⟨go61, 0, none⟩) x7_2.length co62) y123 := (by rw [hw, Ny123.out]; exact HP63.1); clear HP63; have n0_ := Aside0.mk (hp_); have n1_ := Aside0.mk ((by rw [hw]; exact below_set (HB.out) GB61.out : Below w.heap.size w w64)); clear HO_7; clear HB; have HO_7 := n0_; have HB := n1_; clear n0_ n1_; clear hg hw hp_))
                                      go_roundg k2
                                      case measure => have := HK1.out; have := HK2.out; omega
                                      case rel => exact ⟨(y123), (wrap64 (x10_2 + 1)), (by first | rfl | (simp; done) | (simp [*]; done)), H', ⟨by have := HK1.out; have := HK2.out; omega⟩, ⟨by (with_reducible repeat (first | apply Kd.R_alloc | apply Kd.R_drewN | apply Kd.R_drew)); exact HO_7.out⟩, ⟨by repeat (first | (with_reducible first | exact HB.out | apply below_alloc | apply pw_below_drewN | apply below_drew1) | exact HB.out)⟩⟩
                                    · rw [if_neg c60] at H
                                      exact absurd H (by simp)
                                  · rw [if_neg c58] at H
                                    exact absurd H (by simp)
                                · rw [if_neg c57] at H
                                  have c57b0 : decide ((wrap64 (((rd_T24 l1 x8_1).f1) + x10_2)) < (x7_2.length : Int)) = false := decide_eq_false c57
                                  clear c57
                                  have H' := Aside0.mk H
                                  clear H
                                  have p110 : 0 ≤ (x8_1 : Int) := of_decide_eq_true (by first | (with_reducible assumption) | assumption)
                                  have q110 : x8_1 < (l1.length : Int) := of_decide_eq_true (by first | (with_reducible assumption) | assumption)
                                  obtain ⟨ad110, A110_2, c110_2, e110, hx110_0, hx110_1, hx110_2, hl110_2, hi110_2⟩ := at_T24 HR1.out x8_1 p110 q110
                                  obtain rfl : ad108 = ad110 := (by injection e110)
                                  replace hx110_0 := (HB.out.cell (World.block_lt_of_cell? w _ hx110_0)).trans hx110_0
                                  replace hx110_1 := (HB.out.cell (World.block_lt_of_cell? w _ hx110_1)).trans hx110_1
                                  replace hx110_2 := (HB.out.cell (World.block_lt_of_cell? w _ hx110_2)).trans hx110_2
                                  have HR110_2 := Aside0.mk hi110_2
                                  have HC110_2 := Aside0.mk hl110_2
                                  clear hi110_2 hl110_2
                                  replace p110 := eq_true p110
                                  replace q110 := eq_true q110
                                  have p111 : 0 ≤ (x8_1 : Int) := of_decide_eq_true (by first | (with_reducible assumption) | assumption)
                                  have q111 : x8_1 < (l1.length : Int) := of_decide_eq_true (by first | (with_reducible assumption) | assumption)
                                  obtain ⟨ad111, A111_2, c111_2, e111, hx111_0, hx111_1, hx111_2, hl111_2, hi111_2⟩ := at_T24 HR1.out x8_1 p111 q111
                                  obtain rfl : ad108 = ad111 := (by injection e111)
                                  replace hx111_0 := (HB.out.cell (World.block_lt_of_cell? w _ hx111_0)).trans hx111_0
                                  replace hx111_1 := (HB.out.cell (World.block_lt_of_cell? w _ hx111_1)).trans hx111_1
                                  replace hx111_2 := (HB.out.cell (World.block_lt_of_cell? w _ hx111_2)).trans hx111_2
                                  have HR111_2 := Aside0.mk hi111_2
                                  have HC111_2 := Aside0.mk hl111_2
                                  clear hi111_2 hl111_2
                                  replace p111 := eq_true p111
                                  replace q111 := eq_true q111
                                  have ea_ := Option.some.inj (hx110_2.symm.trans hx111_2)
                                  injection ea_ with ea_ en_ ec_
                                  subst ea_
                                  subst ec_
                                  clear en_
                                  obtain ⟨Ao65, co65, eo65⟩ := Kd.R_slice HO_7.out
                                  subst eo65
                                  go_wp2
                                  go_roundg k2
                                  case measure => have := HK1.out; have := HK2.out; omega
                                  case rel => exact ⟨(x7_2), (wrap64 (x10_2 + 1)), (by first | rfl | (simp; done) | (simp [*]; done)), H', ⟨by have := HK1.out; have := HK2.out; omega⟩, ⟨by (with_reducible repeat (first | apply Kd.R_alloc | apply Kd.R_drewN | apply Kd.R_drew)); exact HO_7.out⟩, ⟨by repeat (first | (with_reducible first | exact HB.out | apply below_alloc | apply pw_below_drewN | apply below_drew1) | exact HB.out)⟩⟩
                              · rw [if_neg c56] at H
                                have c56b0 : decide (0 ≤ (wrap64 (((rd_T24 l1 x8_1).f1) + x10_2))) = false := decide_eq_false c56
                                clear c56
                                have H' := Aside0.mk H
                                clear H
                                have p110 : 0 ≤ (x8_1 : Int) := of_decide_eq_true (by first | (with_reducible assumption) | assumption)
                                have q110 : x8_1 < (l1.length : Int) := of_decide_eq_true (by first | (with_reducible assumption) | assumption)
                                obtain ⟨ad110, A110_2, c110_2, e110, hx110_0, hx110_1, hx110_2, hl110_2, hi110_2⟩ := at_T24 HR1.out x8_1 p110 q110
                                obtain rfl : ad108 = ad110 := (by injection e110)
                                replace hx110_0 := (HB.out.cell (World.block_lt_of_cell? w _ hx110_0)).trans hx110_0
                                replace hx110_1 := (HB.out.cell (World.block_lt_of_cell? w _ hx110_1)).trans hx110_1
                                replace hx110_2 := (HB.out.cell (World.block_lt_of_cell? w _ hx110_2)).trans hx110_2
                                have HR110_2 := Aside0.mk hi110_2
                                have HC110_2 := Aside0.mk hl110_2
                                clear hi110_2 hl110_2
                                replace p110 := eq_true p110
                                replace q110 := eq_true q110
                                have p111 : 0 ≤ (x8_1 : Int) := of_decide_eq_true (by first | (with_reducible assumption) | assumption)
                                have q111 : x8_1 < (l1.length : Int) := of_decide_eq_true (by first | (with_reducible assumption) | assumption)
                                obtain ⟨ad111, A111_2, c111_2, e111, hx111_0, hx111_1, hx111_2, hl111_2, hi111_2⟩ := at_T24 HR1.out x8_1 p111 q111
                                obtain rfl : ad108 = ad111 := (by injection e111)
                                replace hx111_0 := (HB.out.cell (World.block_lt_of_cell? w _ hx111_0)).trans hx111_0
                                replace hx111_1 := (HB.out.cell (World.block_lt_of_cell? w _ hx111_1)).trans hx111_1
                                replace hx111_2 := (HB.out.cell (World.block_lt_of_cell? w _ hx111_2)).trans hx111_2
                                have HR111_2 := Aside0.mk hi111_2
                                have HC111_2 := Aside0.mk hl111_2
                                clear hi111_2 hl111_2
                                replace p111 := eq_true p111
                                replace q111 := eq_true q111
                                have ea_ := Option.some.inj (hx110_2.symm.trans hx111_2)
                                injection ea_ with ea_ en_ ec_
                                subst ea_
                                subst ec_
                                clear en_
                                go_wp2
                                go_roundg k2
                                case measure => have := HK1.out; have := HK2.out; omega
                                case rel => exact ⟨(x7_2), (wrap64 (x10_2 + 1)), (by first | rfl | (simp; done) | (simp [*]; done)), H', ⟨by have := HK1.out; have := HK2.out; omega⟩, ⟨by (with_reducible repeat (first | apply Kd.R_alloc | apply Kd.R_drewN | apply Kd.R_drew)); exact HO_7.out⟩, ⟨by repeat (first | (with_reducible first | exact HB.out | apply below_alloc | apply pw_below_drewN | apply below_drew1) | exact HB.out)⟩⟩
                            · rw [if_neg c55] at H
                              have c55b0 : decide ((-1099511627776) < ((rd_T24 l1 x8_1).f1)) = false := decide_eq_false c55
                              clear c55
                              have H' := Aside0.mk H
                              clear H
                              have p110 : 0 ≤ (x8_1 : Int) := of_decide_eq_true (by first | (with_reducible assumption) | assumption)
                              have q110 : x8_1 < (l1.length : Int) := of_decide_eq_true (by first | (with_reducible assumption) | assumption)
                              obtain ⟨ad110, A110_2, c110_2, e110, hx110_0, hx110_1, hx110_2, hl110_2, hi110_2⟩ := at_T24 HR1.out x8_1 p110 q110
                              obtain rfl : ad108 = ad110 := (by injection e110)
                              replace hx110_0 := (HB.out.cell (World.block_lt_of_cell? w _ hx110_0)).trans hx110_0
                              replace hx110_1 := (HB.out.cell (World.block_lt_of_cell? w _ hx110_1)).trans hx110_1
                              replace hx110_2 := (HB.out.cell (World.block_lt_of_cell? w _ hx110_2)).trans hx110_2
                              have HR110_2 := Aside0.mk hi110_2
                              have HC110_2 := Aside0.mk hl110_2
                              clear hi110_2 hl110_2
                              replace p110 := eq_true p110
                              replace q110 := eq_true q110
                              have p111 : 0 ≤ (x8_1 : Int) := of_decide_eq_true (by first | (with_reducible assumption) | assumption)
                              have q111 : x8_1 < (l1.length : Int) := of_decide_eq_true (by first | (with_reducible assumption) | assumption)
                              obtain ⟨ad111, A111_2, c111_2, e111, hx111_0, hx111_1, hx111_2, hl111_2, hi111_2⟩ := at_T24 HR1.out x8_1 p111 q111
                              obtain rfl : ad108 = ad111 := (by injection e111)
                              replace hx111_0 := (HB.out.cell (World.block_lt_of_cell? w _ hx111_0)).trans hx111_0
                              replace hx111_1 := (HB.out.cell (World.block_lt_of_cell? w _ hx111_1)).trans hx111_1
                              replace hx111_2 := (HB.out.cell (World.block_lt_of_cell? w _ hx111_2)).trans hx111_2
                              have HR111_2 := Aside0.mk hi111_2
                              have HC111_2 := Aside0.mk hl111_2
                              clear hi111_2 hl111_2
                              replace p111 := eq_true p111
                              replace q111 := eq_true q111
                              have ea_ := Option.some.inj (hx110_2.symm.trans hx111_2)
                              injection ea_ with ea_ en_ ec_
                              subst ea_
                              subst ec_
                              clear en_
                              go_wp2
                              go_roundg k2
                              case measure => have := HK1.out; have := HK2.out; omega
                              case rel => exact ⟨(x7_2), (wrap64 (x10_2 + 1)), (by first | rfl | (simp; done) | (simp [*]; done)), H', ⟨by have := HK1.out; have := HK2.out; omega⟩, ⟨by (with_reducible repeat (first | apply Kd.R_alloc | apply Kd.R_drewN | apply Kd.R_drew)); exact HO_7.out⟩, ⟨by repeat (first | (with_reducible first | exact HB.out | apply below_alloc | apply pw_below_drewN | apply below_drew1) | exact HB.out)⟩⟩
                          · rw [if_neg c54] at H
                            have c54b0 : decide (((rd_T24 l1 x8_1).f1) < 0) = false := decide_eq_false c54
                            clear c54
                            have H' := Aside0.mk H
                            clear H
                            have p110 : 0 ≤ (x8_1 : Int) := of_decide_eq_true (by first | (with_reducible assumption) | assumption)
                            have q110 : x8_1 < (l1.length : Int) := of_decide_eq_true (by first | (with_reducible assumption) | assumption)
                            obtain ⟨ad110, A110_2, c110_2, e110, hx110_0, hx110_1, hx110_2, hl110_2, hi110_2⟩ := at_T24 HR1.out x8_1 p110 q110
                            obtain rfl : ad108 = ad110 := (by injection e110)
                            replace hx110_0 := (HB.out.cell (World.block_lt_of_cell? w _ hx110_0)).trans hx110_0
                            replace hx110_1 := (HB.out.cell (World.block_lt_of_cell? w _ hx110_1)).trans hx110_1
                            replace hx110_2 := (HB.out.cell (World.block_lt_of_cell? w _ hx110_2)).trans hx110_2
                            have HR110_2 := Aside0.mk hi110_2
                            have HC110_2 := Aside0.mk hl110_2
                            clear hi110_2 hl110_2
                            replace p110 := eq_true p110
                            replace q110 := eq_true q110
                            have p111 : 0 ≤ (x8_1 : Int) := of_decide_eq_true (by first | (with_reducible assumption) | assumption)
                            have q111 : x8_1 < (l1.length : Int) := of_decide_eq_true (by first | (with_reducible assumption) | assumption)
                            obtain ⟨ad111, A111_2, c111_2, e111, hx111_0, hx111_1, hx111_2, hl111_2, hi111_2⟩ := at_T24 HR1.out x8_1 p111 q111
                            obtain rfl : ad108 = ad111 := (by injection e111)
                            replace hx111_0 := (HB.out.cell (World.block_lt_of_cell? w _ hx111_0)).trans hx111_0
                            replace hx111_1 := (HB.out.cell (World.block_lt_of_cell? w _ hx111_1)).trans hx111_1
                            replace hx111_2 := (HB.out.cell (World.block_lt_of_cell? w _ hx111_2)).trans hx111_2
                            have HR111_2 := Aside0.mk hi111_2
                            have HC111_2 := Aside0.mk hl111_2
                            clear hi111_2 hl111_2
                            replace p111 := eq_true p111
                            replace q111 := eq_true q111
                            have ea_ := Option.some.inj (hx110_2.symm.trans hx111_2)
                            injection ea_ with ea_ en_ ec_
                            subst ea_
                            subst ec_
                            clear en_
                            go_wp2
                            go_roundg k2
                            case measure => have := HK1.out; have := HK2.out; omega
                            case rel => exact ⟨(x7_2), (wrap64 (x10_2 + 1)), (by first | rfl | (simp; done) | (simp [*]; done)), H', ⟨by have := HK1.out; have := HK2.out; omega⟩, ⟨by (with_reducible repeat (first | apply Kd.R_alloc | apply Kd.R_drewN | apply Kd.R_drew)); exact HO_7.out⟩, ⟨by repeat (first | (with_reducible first | exact HB.out | apply below_alloc | apply pw_below_drewN | apply below_drew1) | exact HB.out)⟩⟩
                      · rw [if_neg c12] at H
                        have c12b0 : decide (x10_2 < (((rd_T24 l1 x8_1).f2).length : Int)) = false := decide_eq_false c12
                        clear c12
                        have H' := Aside0.mk H
                        clear H
                        have p110 : 0 ≤ (x8_1 : Int) := of_decide_eq_true (by first | (with_reducible assumption) | assumption)
                        have q110 : x8_1 < (l1.length : Int) := of_decide_eq_true (by first | (with_reducible assumption) | assumption)
                        obtain ⟨ad110, A110_2, c110_2, e110, hx110_0, hx110_1, hx110_2, hl110_2, hi110_2⟩ := at_T24 HR1.out x8_1 p110 q110
                        obtain rfl : ad108 = ad110 := (by injection e110)
                        replace hx110_0 := (HB.out.cell (World.block_lt_of_cell? w _ hx110_0)).trans hx110_0
                        replace hx110_1 := (HB.out.cell (World.block_lt_of_cell? w _ hx110_1)).trans hx110_1
                        replace hx110_2 := (HB.out.cell (World.block_lt_of_cell? w _ hx110_2)).trans hx110_2
                        have HR110_2 := Aside0.mk hi110_2
                        have HC110_2 := Aside0.mk hl110_2
                        clear hi110_2 hl110_2
                        replace p110 := eq_true p110
                        replace q110 := eq_true q110
                        go_wp2
                        go_roundg k2
                        case measure => have := HK1.out; have := HK2.out; omega
                        case rel => exact ⟨(x7_2), (wrap64 (x8_1 + 1)), (by first | rfl | (simp; done) | (simp [*]; done)), H', ⟨by have := HK1.out; have := HK2.out; omega⟩, ⟨by (with_reducible repeat (first | apply Kd.R_alloc | apply Kd.R_drewN | apply Kd.R_drew)); exact HO_7.out⟩, ⟨by repeat (first | (with_reducible first | exact HB.out | apply below_alloc | apply pw_below_drewN | apply below_drew1) | exact HB.out)⟩⟩
                    · rw [if_neg c11] at H
                      exact absurd H (by simp)
                  · rw [if_neg c10] at H
                    exact absurd H (by simp)
          · rw [if_neg c7] at H
            exact absurd H (by simp)
        · rw [if_neg c6] at H
          have c6b0 : decide (x8_1 < (l1.length : Int)) = false := decide_eq_false c6
          clear c6
          obtain rfl := Option.some.inj H
          go_wp2
          go_ret
          exact ⟨_, by first | rfl | (simp [errW_none, errW_some] <;> rfl) | (simp [*, errW_none, errW_some] <;> rfl), by (with_reducible repeat (first | apply Kd.R_alloc | apply Kd.R_drewN | apply Kd.R_drew)); exact HO_7.out, by repeat (first | (with_reducible first | exact HB.out | apply below_alloc | apply pw_below_drewN | apply below_drew1) | exact HB.out)⟩
  · rw [if_neg c4] at H
    exact absurd H (by simp)

end Go.Proofs.Ytemachlhoanngaa.PPFns
