-- written by the session's program wip/print/patch.py (a turned copy of the print) over contracts that the session proved by hand
import Derived.Test.YthlpcfjnpagokaaPSuperReadsx0
import Derived.Test.YthlpcfjnpagokaaPSuperReadsx1
import Derived.Test.YthlpcfjnpagokaaPSuperReadsx2
import Derived.Test.YthlpcfjnpagokaaPSuperReadsx3
import Derived.Test.YthlpcfjnpagokaaPSuperReadsx4
import Derived.Test.YthlpcfjnpagokaaPSuperReadsx5
namespace Go.Proofs.Ythlpcfjnpagokaa.PSuperReads
open Go.Proofs.Ythlpcfjnpagokaa.Given Go.Proofs.Ythlpcfjnpagokaa.PCheck Go.Proofs.Ythlpcfjnpagokaa.PNum
open Go.RowKit Go.Proofs.YthlpcfjnpagokaaW.PrintWords Go.Proofs.YthlpcfjnpagokaaW.PrintLast Go.Proofs.YthlpcfjnpagokaaW.PrintMore
attribute [local go_sem] max2_int min2_int max_two min_two max_three min_three max_four min_four   -- for this text's walks alone
set_option linter.unusedVariables false
set_option linter.unusedSimpArgs false

attribute [local go_sem high] eqA23
/-! ### lockgatelaw4_SuperReads: function 4 -/
mutual
def lockgatelaw4_SuperReads.j0 : Nat → List Int → Int → Int → Bool → Bool → Int → Int → Int → Option (Bool)
  | 0, _, _, _, _, _, _, _, _ => none
  | k + 1, x0, x2, x3, x9, x25, x165000, x165001, x165002 => if x25 = true then (some x9) else ((super_Read.f k x0).bind fun bt166 => ((lockgateref1_ReadSuper.f k x0).bind fun bt171 => ((lockgatelaw4_num.f bt166.2.2.2).bind fun t176 => (if ((t176 == 0) != bt171.2.2.2) = true then (lockgatelaw4_SuperReads.j1 k x2 x3 true x165000 x165001 x165002) else (if bt171.2.2.2 = true then (lockgatelaw4_SuperReads.j1 k x2 x3 (!(bt166.1 == bt171.1) || (!(bt166.2.1 == bt171.2.1) || (!(bt166.2.2.1 == bt171.2.2.1)))) x165000 x165001 x165002) else ((lockgatelaw4_num.f bt166.2.2.2).bind fun t177 => (if t177 = 4 then (lockgatelaw4_SuperReads.j1 k x2 x3 (!(bt166.1 == bt171.1) || (!(bt166.2.1 == bt171.2.1) || (!(bt166.2.2.1 == bt171.2.2.1)))) x165000 x165001 x165002) else (lockgatelaw4_SuperReads.j1 k x2 x3 true x165000 x165001 x165002))))))))
def lockgatelaw4_SuperReads.j1 : Nat → Int → Int → Bool → Int → Int → Int → Option (Bool)
  | 0, _, _, _, _, _, _ => none
  | k + 1, x2, x3, x55, x165000, x165001, x165002 => if x55 = true then (some false) else ((lockgateref1_Good.f x165000 x165001 x165002).bind fun t178 => (if t178 = true then (if x2 < 0 then (lockgatelaw4_SuperReads.j2 k x2 x3 true x165000 x165001 x165002) else (if x2 ≥ 1024 then (lockgatelaw4_SuperReads.j2 k x2 x3 true x165000 x165001 x165002) else (lockgatelaw4_SuperReads.j2 k x2 x3 (x3 == 0) x165000 x165001 x165002))) else (lockgatelaw4_SuperReads.j2 k x2 x3 true x165000 x165001 x165002)))
def lockgatelaw4_SuperReads.j2 : Nat → Int → Int → Bool → Int → Int → Int → Option (Bool)
  | 0, _, _, _, _, _, _ => none
  | k + 1, x2, x3, x71, x165000, x165001, x165002 => if x71 = true then (some true) else ((lockgateref1_PackSuper.f k x165000 x165001 x165002).bind fun t179 => (if 0 ≤ x2 then (if x2 < (t179.length : Int) then ((super_Read.f k (t179.set (x2 : Int).toNat (Go.bits .xor .u8 (rd t179 x2) x3))).bind fun bt184 => ((lockgatelaw4_num.f bt184.2.2.2).bind fun t189 => (some (t189 == 4)))) else (none)) else (none)))
end
def lockgatelaw4_SuperReads.f (k : Nat) (l0 : List Int) (a1_0 : Int) (a1_1 : Int) (a1_2 : Int) (a2 : Int) (a3 : Int) : Option (Bool) := (lockgatelaw4_alive.f k).bind fun t165 => (if t165 = true then (lockgatelaw4_SuperReads.j0 k l0 a2 a3 t165 (decide ((l0.length : Int) > 3000)) a1_0 a1_1 a1_2) else (lockgatelaw4_SuperReads.j0 k l0 a2 a3 t165 true a1_0 a1_1 a1_2))
theorem lockgatelaw4_SuperReads.mono_l : ∀ k, (∀ y0 y1 y2 y3 y4 y5 y6 y7, LeO (lockgatelaw4_SuperReads.j0 k y0 y1 y2 y3 y4 y5 y6 y7) (lockgatelaw4_SuperReads.j0 (k + 1) y0 y1 y2 y3 y4 y5 y6 y7)) ∧ (∀ y0 y1 y2 y3 y4 y5, LeO (lockgatelaw4_SuperReads.j1 k y0 y1 y2 y3 y4 y5) (lockgatelaw4_SuperReads.j1 (k + 1) y0 y1 y2 y3 y4 y5)) ∧ (∀ y0 y1 y2 y3 y4 y5, LeO (lockgatelaw4_SuperReads.j2 k y0 y1 y2 y3 y4 y5) (lockgatelaw4_SuperReads.j2 (k + 1) y0 y1 y2 y3 y4 y5))
  | 0 => ⟨fun _ _ _ _ _ _ _ _ r h => by simp [lockgatelaw4_SuperReads.j0] at h, fun _ _ _ _ _ _ r h => by simp [lockgatelaw4_SuperReads.j1] at h, fun _ _ _ _ _ _ r h => by simp [lockgatelaw4_SuperReads.j2] at h⟩
  | k + 1 => by
    obtain ⟨ih0, ih1, ih2⟩ := lockgatelaw4_SuperReads.mono_l k
    refine ⟨?_, ?_, ?_⟩
    · intro y0 y1 y2 y3 y4 y5 y6 y7
      unfold lockgatelaw4_SuperReads.j0
      repeat' first
      | (with_reducible exact ih0 _ _ _ _ _ _ _ _)
      | (with_reducible exact ih1 _ _ _ _ _ _)
      | (with_reducible exact ih2 _ _ _ _ _ _)
      | (with_reducible exact lockgatelaw4_alive.mono _)
      | (with_reducible exact lockgateref1_PackSuper.mono _ _ _ _)
      | (with_reducible exact lockgateref1_ReadSuper.mono _ _)
      | (with_reducible exact super_Read.mono _ _)
      | (with_reducible exact LeO.refl _)
      | (with_reducible exact LeO.none _)
      | (with_reducible refine LeO.ite ?_ ?_)
      | (with_reducible refine LeO.bind ?_ (fun _ => ?_))
      | exact ih0 _ _ _ _ _ _ _ _
      | exact ih1 _ _ _ _ _ _
      | exact ih2 _ _ _ _ _ _
      | exact lockgatelaw4_alive.mono _
      | exact lockgateref1_PackSuper.mono _ _ _ _
      | exact lockgateref1_ReadSuper.mono _ _
      | exact super_Read.mono _ _
      | exact LeO.none _
      | refine LeO.ite ?_ ?_
      | refine LeO.bind ?_ (fun _ => ?_)
    · intro y0 y1 y2 y3 y4 y5
      unfold lockgatelaw4_SuperReads.j1
      repeat' first
      | (with_reducible exact ih0 _ _ _ _ _ _ _ _)
      | (with_reducible exact ih1 _ _ _ _ _ _)
      | (with_reducible exact ih2 _ _ _ _ _ _)
      | (with_reducible exact lockgatelaw4_alive.mono _)
      | (with_reducible exact lockgateref1_PackSuper.mono _ _ _ _)
      | (with_reducible exact lockgateref1_ReadSuper.mono _ _)
      | (with_reducible exact super_Read.mono _ _)
      | (with_reducible exact LeO.refl _)
      | (with_reducible exact LeO.none _)
      | (with_reducible refine LeO.ite ?_ ?_)
      | (with_reducible refine LeO.bind ?_ (fun _ => ?_))
      | exact ih0 _ _ _ _ _ _ _ _
      | exact ih1 _ _ _ _ _ _
      | exact ih2 _ _ _ _ _ _
      | exact lockgatelaw4_alive.mono _
      | exact lockgateref1_PackSuper.mono _ _ _ _
      | exact lockgateref1_ReadSuper.mono _ _
      | exact super_Read.mono _ _
      | exact LeO.none _
      | refine LeO.ite ?_ ?_
      | refine LeO.bind ?_ (fun _ => ?_)
    · intro y0 y1 y2 y3 y4 y5
      unfold lockgatelaw4_SuperReads.j2
      repeat' first
      | (with_reducible exact ih0 _ _ _ _ _ _ _ _)
      | (with_reducible exact ih1 _ _ _ _ _ _)
      | (with_reducible exact ih2 _ _ _ _ _ _)
      | (with_reducible exact lockgatelaw4_alive.mono _)
      | (with_reducible exact lockgateref1_PackSuper.mono _ _ _ _)
      | (with_reducible exact lockgateref1_ReadSuper.mono _ _)
      | (with_reducible exact super_Read.mono _ _)
      | (with_reducible exact LeO.refl _)
      | (with_reducible exact LeO.none _)
      | (with_reducible refine LeO.ite ?_ ?_)
      | (with_reducible refine LeO.bind ?_ (fun _ => ?_))
      | exact ih0 _ _ _ _ _ _ _ _
      | exact ih1 _ _ _ _ _ _
      | exact ih2 _ _ _ _ _ _
      | exact lockgatelaw4_alive.mono _
      | exact lockgateref1_PackSuper.mono _ _ _ _
      | exact lockgateref1_ReadSuper.mono _ _
      | exact super_Read.mono _ _
      | exact LeO.none _
      | refine LeO.ite ?_ ?_
      | refine LeO.bind ?_ (fun _ => ?_)
theorem lockgatelaw4_SuperReads.mono : ∀ a0 a1 a2 a3 a4 a5 k, LeO (lockgatelaw4_SuperReads.f k a0 a1 a2 a3 a4 a5) (lockgatelaw4_SuperReads.f (k + 1) a0 a1 a2 a3 a4 a5) := by
  intro a0 a1 a2 a3 a4 a5 k
  obtain ⟨ih0, ih1, ih2⟩ := lockgatelaw4_SuperReads.mono_l k
  unfold lockgatelaw4_SuperReads.f
  repeat' first
      | (with_reducible exact ih0 _ _ _ _ _ _ _ _)
      | (with_reducible exact ih1 _ _ _ _ _ _)
      | (with_reducible exact ih2 _ _ _ _ _ _)
      | (with_reducible exact lockgatelaw4_alive.mono _)
      | (with_reducible exact lockgateref1_PackSuper.mono _ _ _ _)
      | (with_reducible exact lockgateref1_ReadSuper.mono _ _)
      | (with_reducible exact super_Read.mono _ _)
      | (with_reducible exact LeO.refl _)
      | (with_reducible exact LeO.none _)
      | (with_reducible refine LeO.ite ?_ ?_)
      | (with_reducible refine LeO.bind ?_ (fun _ => ?_))
      | exact ih0 _ _ _ _ _ _ _ _
      | exact ih1 _ _ _ _ _ _
      | exact ih2 _ _ _ _ _ _
      | exact lockgatelaw4_alive.mono _
      | exact lockgateref1_PackSuper.mono _ _ _ _
      | exact lockgateref1_ReadSuper.mono _ _
      | exact super_Read.mono _ _
      | exact LeO.none _
      | refine LeO.ite ?_ ?_
      | refine LeO.bind ?_ (fun _ => ?_)
set_option maxHeartbeats 8000000 in
set_option maxRecDepth 100000 in
theorem lockgatelaw4_SuperReads.calls (k : Nat) (A0 : Option Addr) (c0 : Nat) (l0 : List Int) (a1_0 : Int) (a1_1 : Int) (a1_2 : Int) (a2 : Int) (a3 : Int) (r : Bool) (w : World) (hr0 : Kd.C (Kd.int .u8) w A0 l0.length l0) (hc0 : l0.length ≤ c0) (h : lockgatelaw4_SuperReads.f k l0 a1_0 a1_1 a1_2 a2 a3 = some r) :
    Calls Try.prog 4 #[.slice A0 l0.length c0, .agg #[.int .i64 a1_0, .int .i64 a1_1, .int .i64 a1_2], .int .i64 a2, .int .u8 a3] w fun e w' => e = .returned (.bool r) ∧ Below w.heap.size w w' := by
  have hu23 := Try.underlying23
  have HR0 := Aside0.mk hr0
  have HC0 := Aside0.mk hc0
  clear hr0 hc0
  have HB := Aside0.mk (Below.refl w.heap.size w)
  have H : ((lockgatelaw4_alive.f k).bind fun t165 => (if t165 = true then (lockgatelaw4_SuperReads.j0 k l0 a2 a3 t165 (decide ((l0.length : Int) > 3000)) a1_0 a1_1 a1_2) else (lockgatelaw4_SuperReads.j0 k l0 a2 a3 t165 true a1_0 a1_1 a1_2))) = some r := h
  clear h
  replace H := Option.bind_eq_some_iff.mp H
  obtain ⟨t165, A50, H⟩ := H
  replace H : (if t165 = true then (lockgatelaw4_SuperReads.j0 k l0 a2 a3 t165 (decide ((l0.length : Int) > 3000)) a1_0 a1_1 a1_2) else (lockgatelaw4_SuperReads.j0 k l0 a2 a3 t165 true a1_0 a1_1 a1_2)) = some r := H
  have A5 := Aside0.mk A50
  clear A50
  have HC6 := Aside0.mk H
  clear H
  go_enter Try.func4, Try.ntmps4
  go_upto_region 2 with (first | ((with_reducible refine gate_dst (N := 5) rfl ?_); (try (refine gate_guard (by rfl) ?_; dsimp only)); refine box_event ?hg (N := 5) ?hd (cs := #[.int .i64 a1_0, .int .i64 a1_1, .int .i64 a1_2]) (t := 23) ?hr ?_; (case hd => rfl); (case hg => rfl); (case hr => first | (go_simp; done) | (go_simp; rfl)); intro gb164 hg w7 hbox hb; have n0_ := Aside0.mk (below_step (by repeat (first | (with_reducible first | exact HB.out | apply below_alloc | apply pw_below_drewN | apply below_drew1) | exact HB.out)) hb); have n1_ := Aside0.mk (hbox); have n2_ := Aside0.mk ((by rw [hg]; exact (below_size (by repeat (first | (with_reducible first | exact HB.out | apply below_alloc | apply pw_below_drewN | apply below_drew1) | exact HB.out))) : w.heap.size ≤ gb164)); have n3_ := Aside0.mk ((by rw [hg]; exact (below_size (by repeat (first | (with_reducible first | exact HB.out | apply below_alloc | apply pw_below_drewN | apply below_drew1) | exact HB.out))) : w.heap.size ≤ gb164)); clear HB; have HB := n0_; have BK164 := n1_; have GW164 := n2_; have GE164 := n3_; clear n0_ n1_ n2_ n3_; clear hb hbox hg) | ((with_reducible refine gate_callee (f := 6) rfl ?_); refine goesL_ (some 18) rfl rfl Try.func6 (by kernel_rfl) rfl #[] rfl (by (try simp only [List.map_toArray, List.map_cons, List.map_nil]); first | done | rfl | (simp only [List.length_drop, List.length_take]; rfl)) ?_; (with_reducible refine (lockgatelaw4_alive.calls k  t165 _ A5.out).mono ?_); rintro e w8 ⟨rfl, hb⟩; refine ⟨_, rfl, ?_⟩; have n0_ := Aside0.mk (blk_below (g := gb164) (o := .cells #[.int .i64 a1_0, .int .i64 a1_1, .int .i64 a1_2] 23 (0, 0)) (by (with_reducible repeat (first | refine blk_drewN ?_ _ | refine blk_drew ?_ | refine blk_alloc ?_ _)); exact BK164.out) hb); have n1_ := Aside0.mk (below_step (by repeat (first | (with_reducible first | exact HB.out | apply below_alloc | apply pw_below_drewN | apply below_drew1 | refine below_set ?_ GE164.out) | exact HB.out)) hb); clear BK164; clear HB; have BK164 := n0_; have HB := n1_; clear n0_ n1_; (try clear hb); (try clear hb2); (try clear hk); (try clear hi)))
  (try simp only [Act.put, List.setIfInBounds_toArray, List.set_cons_zero, List.set_cons_succ])
  go_cut [25] (fun v25 wc => ∃ (kq : Nat) (x25_5 : Bool), v25 = .bool x25_5 ∧ Aside0 (lockgatelaw4_SuperReads.j0 kq l0 a2 a3 t165 x25_5 a1_0 a1_1 a1_2 = some r) ∧ Aside0 (kq ≤ k) ∧ Aside0 (wc.heap[gb164]? = some (.cells #[.int .i64 a1_0, .int .i64 a1_1, .int .i64 a1_2] 23 (0, 0))) ∧ Aside0 (Below w.heap.size w wc))
  case first =>
    have H := HC6.out
    clear HC6
    by_cases c9 : t165 = true
    · subst c9
      have H1 : (lockgatelaw4_SuperReads.j0 k l0 a2 a3 true (decide ((l0.length : Int) > 3000)) a1_0 a1_1 a1_2) = some r := by rw [if_pos rfl] at H; exact H
      clear H
      have H := H1
      clear H1
      have H' := Aside0.mk H
      clear H
      go_wp2
      go_meet
      case rel => exact ⟨_, (decide ((l0.length : Int) > 3000)), (by first | rfl | (simp; done) | (simp [*]; done)), H', ⟨by first | omega | exact Nat.le_refl _⟩, ⟨by (with_reducible repeat (first | refine blk_drewN ?_ _ | refine blk_drew ?_ | refine blk_alloc ?_ _)); exact BK164.out⟩, ⟨by repeat (first | (with_reducible first | exact HB.out | apply below_alloc | apply pw_below_drewN | apply below_drew1 | refine below_set ?_ GE164.out) | exact HB.out)⟩⟩
    · replace c9 := Bool.eq_false_iff.mpr c9
      subst c9
      have H1 : (lockgatelaw4_SuperReads.j0 k l0 a2 a3 false true a1_0 a1_1 a1_2) = some r := by rw [if_neg (show ¬ (false = true) by decide)] at H; exact H
      clear H
      have H := H1
      clear H1
      have H' := Aside0.mk H
      clear H
      go_wp2
      go_meet
      case rel => exact ⟨_, (true), (by first | rfl | (simp; done) | (simp [*]; done)), H', ⟨by first | omega | exact Nat.le_refl _⟩, ⟨by (with_reducible repeat (first | refine blk_drewN ?_ _ | refine blk_drew ?_ | refine blk_alloc ?_ _)); exact BK164.out⟩, ⟨by repeat (first | (with_reducible first | exact HB.out | apply below_alloc | apply pw_below_drewN | apply below_drew1 | refine below_set ?_ GE164.out) | exact HB.out)⟩⟩
  case rest =>
    clear HC6
    try clear p2
    try clear c4
    try clear c6
    try clear c9
    obtain ⟨kq, x25_5, rfl, HA, HJ5, BK164, HB⟩ := hcut
    cases kq with
    | zero => exact absurd HA.out (by simp [lockgatelaw4_SuperReads.j0])
    | succ kj5 =>
      have H := HA.out
      clear HA
      simp only [lockgatelaw4_SuperReads.j0] at H
      by_cases c10 : x25_5 = true
      · subst c10
        have H1 : (some t165) = some r := by rw [if_pos rfl] at H; exact H
        clear H
        have H := H1
        clear H1
        obtain rfl := Option.some.inj H
        go_wp2
        go_ret
        exact ⟨by first | rfl | (simp [errW_none, errW_some] <;> rfl) | (simp [*, errW_none, errW_some] <;> rfl), by repeat (first | (with_reducible first | exact HB.out | apply below_alloc | apply pw_below_drewN | apply below_drew1 | refine below_set ?_ GE164.out) | exact HB.out)⟩
      · replace c10 := Bool.eq_false_iff.mpr c10
        subst c10
        have H1 : ((super_Read.f kj5 l0).bind fun bt166 => ((lockgateref1_ReadSuper.f kj5 l0).bind fun bt171 => ((lockgatelaw4_num.f bt166.2.2.2).bind fun t176 => (if ((t176 == 0) != bt171.2.2.2) = true then (lockgatelaw4_SuperReads.j1 kj5 a2 a3 true a1_0 a1_1 a1_2) else (if bt171.2.2.2 = true then (lockgatelaw4_SuperReads.j1 kj5 a2 a3 (!(bt166.1 == bt171.1) || (!(bt166.2.1 == bt171.2.1) || (!(bt166.2.2.1 == bt171.2.2.1)))) a1_0 a1_1 a1_2) else ((lockgatelaw4_num.f bt166.2.2.2).bind fun t177 => (if t177 = 4 then (lockgatelaw4_SuperReads.j1 kj5 a2 a3 (!(bt166.1 == bt171.1) || (!(bt166.2.1 == bt171.2.1) || (!(bt166.2.2.1 == bt171.2.2.1)))) a1_0 a1_1 a1_2) else (lockgatelaw4_SuperReads.j1 kj5 a2 a3 true a1_0 a1_1 a1_2)))))))) = some r := by rw [if_neg (show ¬ (false = true) by decide)] at H; exact H
        clear H
        have H := H1
        clear H1
        replace H := Option.bind_eq_some_iff.mp H
        obtain ⟨⟨t166, t167, t168, t169⟩, A110, H⟩ := H
        replace H : ((lockgateref1_ReadSuper.f kj5 l0).bind fun bt171 => ((lockgatelaw4_num.f t169).bind fun t176 => (if ((t176 == 0) != bt171.2.2.2) = true then (lockgatelaw4_SuperReads.j1 kj5 a2 a3 true a1_0 a1_1 a1_2) else (if bt171.2.2.2 = true then (lockgatelaw4_SuperReads.j1 kj5 a2 a3 (!(t166 == bt171.1) || (!(t167 == bt171.2.1) || (!(t168 == bt171.2.2.1)))) a1_0 a1_1 a1_2) else ((lockgatelaw4_num.f t169).bind fun t177 => (if t177 = 4 then (lockgatelaw4_SuperReads.j1 kj5 a2 a3 (!(t166 == bt171.1) || (!(t167 == bt171.2.1) || (!(t168 == bt171.2.2.1)))) a1_0 a1_1 a1_2) else (lockgatelaw4_SuperReads.j1 kj5 a2 a3 true a1_0 a1_1 a1_2))))))) = some r := H
        have A11 := Aside0.mk A110
        clear A110
        replace H := Option.bind_eq_some_iff.mp H
        obtain ⟨⟨t171, t172, t173, t174⟩, A120, H⟩ := H
        replace H : ((lockgatelaw4_num.f t169).bind fun t176 => (if ((t176 == 0) != t174) = true then (lockgatelaw4_SuperReads.j1 kj5 a2 a3 true a1_0 a1_1 a1_2) else (if t174 = true then (lockgatelaw4_SuperReads.j1 kj5 a2 a3 (!(t166 == t171) || (!(t167 == t172) || (!(t168 == t173)))) a1_0 a1_1 a1_2) else ((lockgatelaw4_num.f t169).bind fun t177 => (if t177 = 4 then (lockgatelaw4_SuperReads.j1 kj5 a2 a3 (!(t166 == t171) || (!(t167 == t172) || (!(t168 == t173)))) a1_0 a1_1 a1_2) else (lockgatelaw4_SuperReads.j1 kj5 a2 a3 true a1_0 a1_1 a1_2)))))) = some r := H
        have A12 := Aside0.mk A120
        clear A120
        have HC13 := Aside0.mk H
        clear H
        go_upto_region 6 with (first | ((with_reducible refine gate_callee (f := 10) rfl ?_); refine goesL_ (some 29) rfl rfl Try.func10 (by kernel_rfl) rfl #[.slice A0 l0.length c0] rfl (by (try simp only [List.map_toArray, List.map_cons, List.map_nil]); first | done | rfl | (simp only [List.length_drop, List.length_take]; rfl)) ?_; (with_reducible refine (super_Read.calls kj5 _ _ l0 t166 t167 t168 t169 _ ?side1 ?side2 A11.out).mono ?_); (case side1 => repeat (first | exact (Kd.C_below HR0.out HB.out) | (with_reducible refine Kd.C_alloc ?_ _) | (with_reducible refine Kd.C_drewN ?_ _) | (with_reducible refine Kd.C_drew ?_))); (case side2 => exact HC0.out); rintro e w14 ⟨rfl, hb⟩; refine ⟨_, rfl, ?_⟩; have n0_ := Aside0.mk (blk_below (g := gb164) (o := .cells #[.int .i64 a1_0, .int .i64 a1_1, .int .i64 a1_2] 23 (0, 0)) (by (with_reducible repeat (first | refine blk_drewN ?_ _ | refine blk_drew ?_ | refine blk_alloc ?_ _)); exact BK164.out) hb); have n1_ := Aside0.mk (below_step (by repeat (first | (with_reducible first | exact HB.out | apply below_alloc | apply pw_below_drewN | apply below_drew1 | refine below_set ?_ GE164.out) | exact HB.out)) hb); clear BK164; clear HB; have BK164 := n0_; have HB := n1_; clear n0_ n1_; (try clear hb); (try clear hb2); (try clear hk); (try clear hi)) | ((with_reducible refine gate_dst (N := 10) rfl ?_); (try (refine gate_guard (by rfl) ?_; dsimp only)); refine box_event ?hg (N := 10) ?hd (cs := #[.int .i64 0, .int .i64 0, .int .i64 0]) (t := 23) ?hr ?_; (case hd => rfl); (case hg => rfl); (case hr => first | (go_simp; done) | (go_simp; rfl)); intro gb170 hg w15 hbox hb; have n0_ := Aside0.mk (blk_below (g := gb164) (o := .cells #[.int .i64 a1_0, .int .i64 a1_1, .int .i64 a1_2] 23 (0, 0)) (by (with_reducible repeat (first | refine blk_drewN ?_ _ | refine blk_drew ?_ | refine blk_alloc ?_ _)); exact BK164.out) hb); have n1_ := Aside0.mk (below_step (by repeat (first | (with_reducible first | exact HB.out | apply below_alloc | apply pw_below_drewN | apply below_drew1 | refine below_set ?_ GE164.out) | exact HB.out)) hb); have n2_ := Aside0.mk (hbox); have n3_ := Aside0.mk ((by rw [hg]; exact (below_size (by repeat (first | (with_reducible first | exact HB.out | apply below_alloc | apply pw_below_drewN | apply below_drew1 | refine below_set ?_ GE164.out) | exact HB.out))) : w.heap.size ≤ gb170)); have n4_ := Aside0.mk ((by rw [hg]; exact (below_size (by repeat (first | (with_reducible first | exact HB.out | apply below_alloc | apply pw_below_drewN | apply below_drew1 | refine below_set ?_ GE164.out) | exact HB.out))) : w.heap.size ≤ gb170)); have n5_ := Aside0.mk ((by rw [hg]; exact Nat.ne_of_lt (blk_lt (g := gb164) (o := .cells #[.int .i64 a1_0, .int .i64 a1_1, .int .i64 a1_2] 23 (0, 0)) (by (with_reducible repeat (first | refine blk_drewN ?_ _ | refine blk_drew ?_ | refine blk_alloc ?_ _)); exact BK164.out)) : gb164 ≠ gb170)); have n6_ := Aside0.mk ((by rw [hg]; exact Nat.ne_of_gt (blk_lt (g := gb164) (o := .cells #[.int .i64 a1_0, .int .i64 a1_1, .int .i64 a1_2] 23 (0, 0)) (by (with_reducible repeat (first | refine blk_drewN ?_ _ | refine blk_drew ?_ | refine blk_alloc ?_ _)); exact BK164.out)) : gb170 ≠ gb164)); clear BK164; clear HB; have BK164 := n0_; have HB := n1_; have BK170 := n2_; have GW170 := n3_; have GE170 := n4_; have NB164_170 := n5_; have NB170_164 := n6_; clear n0_ n1_ n2_ n3_ n4_ n5_ n6_; clear hb hbox hg; have hnb16 := NB170_164.out; have hnc16 := NB164_170.out; have hcz17_0 : w15.cell? ⟨gb170, 0, none⟩ = some (.int .i64 0) := (blk_cell BK170.out 0).trans rfl; have hcz17_1 : w15.cell? ⟨gb170, 1, none⟩ = some (.int .i64 0) := (blk_cell BK170.out 1).trans rfl; have hcz17_2 : w15.cell? ⟨gb170, 2, none⟩ = some (.int .i64 0) := (blk_cell BK170.out 2).trans rfl; have hfz17_0 := blk_frozen BK170.out 0; have hfz17_1 := blk_frozen BK170.out 1; have hfz17_2 := blk_frozen BK170.out 2) | ((with_reducible refine gate_callee (f := 12) rfl ?_); refine goesL_ (some 34) rfl rfl Try.func12 (by kernel_rfl) rfl #[.slice A0 l0.length c0] rfl (by (try simp only [List.map_toArray, List.map_cons, List.map_nil]); first | done | rfl | (simp only [List.length_drop, List.length_take]; rfl)) ?_; (with_reducible refine (lockgateref1_ReadSuper.calls kj5 _ _ l0 t171 t172 t173 t174 _ ?side1 ?side2 A12.out).mono ?_); (case side1 => exact Kd.C_below HR0.out (by repeat (first | (with_reducible first | exact HB.out | apply below_alloc | apply pw_below_drewN | apply below_drew1 | refine below_set ?_ GE164.out | refine below_set ?_ GE170.out) | exact HB.out))); (case side2 => exact HC0.out); rintro e w18 ⟨rfl, hb⟩; refine ⟨_, rfl, ?_⟩; have n0_ := Aside0.mk (blk_below (g := gb164) (o := .cells #[.int .i64 a1_0, .int .i64 a1_1, .int .i64 a1_2] 23 (0, 0)) (by (with_reducible repeat (first | refine blk_drewN ?_ _ | refine blk_drew ?_ | refine blk_alloc ?_ _)); refine blk_far ?_ NB164_170.out _; (with_reducible repeat (first | refine blk_drewN ?_ _ | refine blk_drew ?_ | refine blk_alloc ?_ _)); refine blk_far ?_ NB164_170.out _; (with_reducible repeat (first | refine blk_drewN ?_ _ | refine blk_drew ?_ | refine blk_alloc ?_ _)); refine blk_far ?_ NB164_170.out _; (with_reducible repeat (first | refine blk_drewN ?_ _ | refine blk_drew ?_ | refine blk_alloc ?_ _)); exact BK164.out) hb); have n1_ := Aside0.mk (blk_below (g := gb170) (o := .cells #[.int .i64 t166, .int .i64 t167, .int .i64 t168] 23 (0, 0)) (by (with_reducible repeat (first | refine blk_drewN ?_ _ | refine blk_drew ?_ | refine blk_alloc ?_ _)); refine blk_put (cs := #[.int .i64 t166, .int .i64 t167, .int .i64 0]) ?_ 2 _ rfl; (with_reducible repeat (first | refine blk_drewN ?_ _ | refine blk_drew ?_ | refine blk_alloc ?_ _)); refine blk_put (cs := #[.int .i64 t166, .int .i64 0, .int .i64 0]) ?_ 1 _ rfl; (with_reducible repeat (first | refine blk_drewN ?_ _ | refine blk_drew ?_ | refine blk_alloc ?_ _)); refine blk_put (cs := #[.int .i64 0, .int .i64 0, .int .i64 0]) ?_ 0 _ rfl; (with_reducible repeat (first | refine blk_drewN ?_ _ | refine blk_drew ?_ | refine blk_alloc ?_ _)); exact BK170.out) hb); have n2_ := Aside0.mk (below_step (by repeat (first | (with_reducible first | exact HB.out | apply below_alloc | apply pw_below_drewN | apply below_drew1 | refine below_set ?_ GE164.out | refine below_set ?_ GE170.out) | exact HB.out)) hb); clear BK164; clear BK170; clear HB; have BK164 := n0_; have BK170 := n1_; have HB := n2_; clear n0_ n1_ n2_; (try clear hb); (try clear hb2); (try clear hk); (try clear hi)) | ((with_reducible refine gate_dst (N := 12) rfl ?_); (try (refine gate_guard (by rfl) ?_; dsimp only)); refine box_event ?hg (N := 12) ?hd (cs := #[.int .i64 0, .int .i64 0, .int .i64 0]) (t := 23) ?hr ?_; (case hd => rfl); (case hg => rfl); (case hr => first | (go_simp; done) | (go_simp; rfl)); intro gb175 hg w19 hbox hb; have n0_ := Aside0.mk (blk_below (g := gb164) (o := .cells #[.int .i64 a1_0, .int .i64 a1_1, .int .i64 a1_2] 23 (0, 0)) (by (with_reducible repeat (first | refine blk_drewN ?_ _ | refine blk_drew ?_ | refine blk_alloc ?_ _)); exact BK164.out) hb); have n1_ := Aside0.mk (blk_below (g := gb170) (o := .cells #[.int .i64 t166, .int .i64 t167, .int .i64 t168] 23 (0, 0)) (by (with_reducible repeat (first | refine blk_drewN ?_ _ | refine blk_drew ?_ | refine blk_alloc ?_ _)); exact BK170.out) hb); have n2_ := Aside0.mk (below_step (by repeat (first | (with_reducible first | exact HB.out | apply below_alloc | apply pw_below_drewN | apply below_drew1 | refine below_set ?_ GE164.out | refine below_set ?_ GE170.out) | exact HB.out)) hb); have n3_ := Aside0.mk (hbox); have n4_ := Aside0.mk ((by rw [hg]; exact (below_size (by repeat (first | (with_reducible first | exact HB.out | apply below_alloc | apply pw_below_drewN | apply below_drew1 | refine below_set ?_ GE164.out | refine below_set ?_ GE170.out) | exact HB.out))) : w.heap.size ≤ gb175)); have n5_ := Aside0.mk ((by rw [hg]; exact (below_size (by repeat (first | (with_reducible first | exact HB.out | apply below_alloc | apply pw_below_drewN | apply below_drew1 | refine below_set ?_ GE164.out | refine below_set ?_ GE170.out) | exact HB.out))) : w.heap.size ≤ gb175)); have n6_ := Aside0.mk ((by rw [hg]; exact Nat.ne_of_lt (blk_lt (g := gb164) (o := .cells #[.int .i64 a1_0, .int .i64 a1_1, .int .i64 a1_2] 23 (0, 0)) (by (with_reducible repeat (first | refine blk_drewN ?_ _ | refine blk_drew ?_ | refine blk_alloc ?_ _)); exact BK164.out)) : gb164 ≠ gb175)); have n7_ := Aside0.mk ((by rw [hg]; exact Nat.ne_of_gt (blk_lt (g := gb164) (o := .cells #[.int .i64 a1_0, .int .i64 a1_1, .int .i64 a1_2] 23 (0, 0)) (by (with_reducible repeat (first | refine blk_drewN ?_ _ | refine blk_drew ?_ | refine blk_alloc ?_ _)); exact BK164.out)) : gb175 ≠ gb164)); have n8_ := Aside0.mk ((by rw [hg]; exact Nat.ne_of_lt (blk_lt (g := gb170) (o := .cells #[.int .i64 t166, .int .i64 t167, .int .i64 t168] 23 (0, 0)) (by (with_reducible repeat (first | refine blk_drewN ?_ _ | refine blk_drew ?_ | refine blk_alloc ?_ _)); exact BK170.out)) : gb170 ≠ gb175)); have n9_ := Aside0.mk ((by rw [hg]; exact Nat.ne_of_gt (blk_lt (g := gb170) (o := .cells #[.int .i64 t166, .int .i64 t167, .int .i64 t168] 23 (0, 0)) (by (with_reducible repeat (first | refine blk_drewN ?_ _ | refine blk_drew ?_ | refine blk_alloc ?_ _)); exact BK170.out)) : gb175 ≠ gb170)); clear BK164; clear BK170; clear HB; have BK164 := n0_; have BK170 := n1_; have HB := n2_; have BK175 := n3_; have GW175 := n4_; have GE175 := n5_; have NB164_175 := n6_; have NB175_164 := n7_; have NB170_175 := n8_; have NB175_170 := n9_; clear n0_ n1_ n2_ n3_ n4_ n5_ n6_ n7_ n8_ n9_; clear hb hbox hg; have hnb20 := NB175_164.out; have hnc20 := NB164_175.out; have hnb21 := NB175_170.out; have hnc21 := NB170_175.out; have hcz22_0 : w19.cell? ⟨gb175, 0, none⟩ = some (.int .i64 0) := (blk_cell BK175.out 0).trans rfl; have hcz22_1 : w19.cell? ⟨gb175, 1, none⟩ = some (.int .i64 0) := (blk_cell BK175.out 1).trans rfl; have hcz22_2 : w19.cell? ⟨gb175, 2, none⟩ = some (.int .i64 0) := (blk_cell BK175.out 2).trans rfl; have hfz22_0 := blk_frozen BK175.out 0; have hfz22_1 := blk_frozen BK175.out 1; have hfz22_2 := blk_frozen BK175.out 2))
        (try simp only [Act.put, List.setIfInBounds_toArray, List.set_cons_zero, List.set_cons_succ])
        go_cut [55] (fun v55 wc => ∃ (kq : Nat) (x55_12 : Bool), v55 = .bool x55_12 ∧ Aside0 (lockgatelaw4_SuperReads.j1 kq a2 a3 x55_12 a1_0 a1_1 a1_2 = some r) ∧ Aside0 (kq ≤ kj5) ∧ Aside0 (wc.heap[gb164]? = some (.cells #[.int .i64 a1_0, .int .i64 a1_1, .int .i64 a1_2] 23 (0, 0))) ∧ Aside0 (wc.heap[gb170]? = some (.cells #[.int .i64 t166, .int .i64 t167, .int .i64 t168] 23 (0, 0))) ∧ Aside0 (wc.heap[gb175]? = some (.cells #[.int .i64 t171, .int .i64 t172, .int .i64 t173] 23 (0, 0))) ∧ Aside0 (Below w.heap.size w wc))
        case first =>
          have H := HC13.out
          clear HC13
          replace H := Option.bind_eq_some_iff.mp H
          obtain ⟨t176, A230, H⟩ := H
          replace H : (if ((t176 == 0) != t174) = true then (lockgatelaw4_SuperReads.j1 kj5 a2 a3 true a1_0 a1_1 a1_2) else (if t174 = true then (lockgatelaw4_SuperReads.j1 kj5 a2 a3 (!(t166 == t171) || (!(t167 == t172) || (!(t168 == t173)))) a1_0 a1_1 a1_2) else ((lockgatelaw4_num.f t169).bind fun t177 => (if t177 = 4 then (lockgatelaw4_SuperReads.j1 kj5 a2 a3 (!(t166 == t171) || (!(t167 == t172) || (!(t168 == t173)))) a1_0 a1_1 a1_2) else (lockgatelaw4_SuperReads.j1 kj5 a2 a3 true a1_0 a1_1 a1_2))))) = some r := H
          have A23 := Aside0.mk A230
          clear A230
          by_cases c24 : ((t176 == 0) != t174) = true
          · rw [if_pos c24] at H
            have c24b0 : ((t176 == 0) != t174) = true := c24
            (try (have c24b1 : decide ((t176 == 0) = t174) = false := by simpa using c24))
            (try (have c24b2 : ((t176 == 0) == t174) = false := by simpa using c24))
            (try (have c24b3 : ¬ ((t176 == 0) = t174) := by simpa using c24))
            clear c24
            (first | rw [c24b0] | (simp only [i64_w, i32_w]; rw [c24b0]) | skip)
            have H' := Aside0.mk H
            clear H
            go_wp2_with (first | ((with_reducible refine gate_callee (f := 9) rfl ?_); refine goesL_ (some 38) rfl rfl Try.func9 (by kernel_rfl) rfl #[.int .i64 t169] rfl (by (try simp only [List.map_toArray, List.map_cons, List.map_nil]); first | done | rfl | (simp only [List.length_drop, List.length_take]; rfl)) ?_; (with_reducible refine (lockgatelaw4_num.calls t169 t176 _ A23.out).mono ?_); rintro e w' ⟨rfl, ⟨nd, rfl⟩⟩; refine ⟨_, rfl, ?_⟩))
            go_meet
            case rel => exact ⟨_, (true), (by first | rfl | (simp; done) | (simp [*]; done)), H', ⟨by have := HJ5.out; first | omega | exact Nat.le_refl _⟩, ⟨by (with_reducible repeat (first | refine blk_drewN ?_ _ | refine blk_drew ?_ | refine blk_alloc ?_ _)); refine blk_far ?_ NB164_175.out _; (with_reducible repeat (first | refine blk_drewN ?_ _ | refine blk_drew ?_ | refine blk_alloc ?_ _)); refine blk_far ?_ NB164_175.out _; (with_reducible repeat (first | refine blk_drewN ?_ _ | refine blk_drew ?_ | refine blk_alloc ?_ _)); refine blk_far ?_ NB164_175.out _; (with_reducible repeat (first | refine blk_drewN ?_ _ | refine blk_drew ?_ | refine blk_alloc ?_ _)); exact BK164.out⟩, ⟨by (with_reducible repeat (first | refine blk_drewN ?_ _ | refine blk_drew ?_ | refine blk_alloc ?_ _)); refine blk_far ?_ NB170_175.out _; (with_reducible repeat (first | refine blk_drewN ?_ _ | refine blk_drew ?_ | refine blk_alloc ?_ _)); refine blk_far ?_ NB170_175.out _; (with_reducible repeat (first | refine blk_drewN ?_ _ | refine blk_drew ?_ | refine blk_alloc ?_ _)); refine blk_far ?_ NB170_175.out _; (with_reducible repeat (first | refine blk_drewN ?_ _ | refine blk_drew ?_ | refine blk_alloc ?_ _)); exact BK170.out⟩, ⟨by (with_reducible repeat (first | refine blk_drewN ?_ _ | refine blk_drew ?_ | refine blk_alloc ?_ _)); refine blk_put (cs := #[.int .i64 t171, .int .i64 t172, .int .i64 0]) ?_ 2 _ rfl; (with_reducible repeat (first | refine blk_drewN ?_ _ | refine blk_drew ?_ | refine blk_alloc ?_ _)); refine blk_put (cs := #[.int .i64 t171, .int .i64 0, .int .i64 0]) ?_ 1 _ rfl; (with_reducible repeat (first | refine blk_drewN ?_ _ | refine blk_drew ?_ | refine blk_alloc ?_ _)); refine blk_put (cs := #[.int .i64 0, .int .i64 0, .int .i64 0]) ?_ 0 _ rfl; (with_reducible repeat (first | refine blk_drewN ?_ _ | refine blk_drew ?_ | refine blk_alloc ?_ _)); exact BK175.out⟩, ⟨by repeat (first | (with_reducible first | exact HB.out | apply below_alloc | apply pw_below_drewN | apply below_drew1 | refine below_set ?_ GE164.out | refine below_set ?_ GE170.out | refine below_set ?_ GE175.out) | exact HB.out)⟩⟩
          · rw [if_neg c24] at H
            have c24b0 : ((t176 == 0) != t174) = false := by simpa using c24
            (try (have c24b1 : decide ((t176 == 0) = t174) = true := by simpa using c24))
            (try (have c24b2 : ((t176 == 0) == t174) = true := by simpa using c24))
            clear c24
            (first | rw [c24b0] | (simp only [i64_w, i32_w]; rw [c24b0]) | skip)
            by_cases c25 : t174 = true
            · subst c25
              have H1 : (lockgatelaw4_SuperReads.j1 kj5 a2 a3 (!(t166 == t171) || (!(t167 == t172) || (!(t168 == t173)))) a1_0 a1_1 a1_2) = some r := by rw [if_pos rfl] at H; exact H
              clear H
              have H := H1
              clear H1
              have H' := Aside0.mk H
              clear H
              go_wp2_with (first | ((with_reducible refine gate_callee (f := 9) rfl ?_); refine goesL_ (some 38) rfl rfl Try.func9 (by kernel_rfl) rfl #[.int .i64 t169] rfl (by (try simp only [List.map_toArray, List.map_cons, List.map_nil]); first | done | rfl | (simp only [List.length_drop, List.length_take]; rfl)) ?_; (with_reducible refine (lockgatelaw4_num.calls t169 t176 _ A23.out).mono ?_); rintro e w' ⟨rfl, ⟨nd, rfl⟩⟩; refine ⟨_, rfl, ?_⟩; have hnb26 := NB170_164.out; have hnc26 := NB164_170.out; have hnb27 := NB170_175.out; have hnc27 := NB175_170.out; have hcz28_0 : w19.cell? ⟨gb170, 0, none⟩ = some (.int .i64 t166) := (blk_cell BK170.out 0).trans rfl; have hcz28_1 : w19.cell? ⟨gb170, 1, none⟩ = some (.int .i64 t167) := (blk_cell BK170.out 1).trans rfl; have hcz28_2 : w19.cell? ⟨gb170, 2, none⟩ = some (.int .i64 t168) := (blk_cell BK170.out 2).trans rfl; have hfz28_0 := blk_frozen BK170.out 0; have hfz28_1 := blk_frozen BK170.out 1; have hfz28_2 := blk_frozen BK170.out 2; have hnb29 := NB175_164.out; have hnc29 := NB164_175.out; have hcz30_0 : w19.cell? ⟨gb175, 0, none⟩ = some (.int .i64 0) := (blk_cell BK175.out 0).trans rfl; have hcz30_1 : w19.cell? ⟨gb175, 1, none⟩ = some (.int .i64 0) := (blk_cell BK175.out 1).trans rfl; have hcz30_2 : w19.cell? ⟨gb175, 2, none⟩ = some (.int .i64 0) := (blk_cell BK175.out 2).trans rfl; have hfz30_0 := blk_frozen BK175.out 0; have hfz30_1 := blk_frozen BK175.out 1; have hfz30_2 := blk_frozen BK175.out 2))
              go_meet
              case rel => exact ⟨_, ((!(t166 == t171) || (!(t167 == t172) || (!(t168 == t173))))), (by first | rfl | (simp; done) | (simp [*]; done)), H', ⟨by have := HJ5.out; first | omega | exact Nat.le_refl _⟩, ⟨by (with_reducible repeat (first | refine blk_drewN ?_ _ | refine blk_drew ?_ | refine blk_alloc ?_ _)); refine blk_far ?_ NB164_175.out _; (with_reducible repeat (first | refine blk_drewN ?_ _ | refine blk_drew ?_ | refine blk_alloc ?_ _)); refine blk_far ?_ NB164_175.out _; (with_reducible repeat (first | refine blk_drewN ?_ _ | refine blk_drew ?_ | refine blk_alloc ?_ _)); refine blk_far ?_ NB164_175.out _; (with_reducible repeat (first | refine blk_drewN ?_ _ | refine blk_drew ?_ | refine blk_alloc ?_ _)); exact BK164.out⟩, ⟨by (with_reducible repeat (first | refine blk_drewN ?_ _ | refine blk_drew ?_ | refine blk_alloc ?_ _)); refine blk_far ?_ NB170_175.out _; (with_reducible repeat (first | refine blk_drewN ?_ _ | refine blk_drew ?_ | refine blk_alloc ?_ _)); refine blk_far ?_ NB170_175.out _; (with_reducible repeat (first | refine blk_drewN ?_ _ | refine blk_drew ?_ | refine blk_alloc ?_ _)); refine blk_far ?_ NB170_175.out _; (with_reducible repeat (first | refine blk_drewN ?_ _ | refine blk_drew ?_ | refine blk_alloc ?_ _)); exact BK170.out⟩, ⟨by (with_reducible repeat (first | refine blk_drewN ?_ _ | refine blk_drew ?_ | refine blk_alloc ?_ _)); refine blk_put (cs := #[.int .i64 t171, .int .i64 t172, .int .i64 0]) ?_ 2 _ rfl; (with_reducible repeat (first | refine blk_drewN ?_ _ | refine blk_drew ?_ | refine blk_alloc ?_ _)); refine blk_put (cs := #[.int .i64 t171, .int .i64 0, .int .i64 0]) ?_ 1 _ rfl; (with_reducible repeat (first | refine blk_drewN ?_ _ | refine blk_drew ?_ | refine blk_alloc ?_ _)); refine blk_put (cs := #[.int .i64 0, .int .i64 0, .int .i64 0]) ?_ 0 _ rfl; (with_reducible repeat (first | refine blk_drewN ?_ _ | refine blk_drew ?_ | refine blk_alloc ?_ _)); exact BK175.out⟩, ⟨by repeat (first | (with_reducible first | exact HB.out | apply below_alloc | apply pw_below_drewN | apply below_drew1 | refine below_set ?_ GE164.out | refine below_set ?_ GE170.out | refine below_set ?_ GE175.out) | exact HB.out)⟩⟩
            · replace c25 := Bool.eq_false_iff.mpr c25
              subst c25
              have H1 : ((lockgatelaw4_num.f t169).bind fun t177 => (if t177 = 4 then (lockgatelaw4_SuperReads.j1 kj5 a2 a3 (!(t166 == t171) || (!(t167 == t172) || (!(t168 == t173)))) a1_0 a1_1 a1_2) else (lockgatelaw4_SuperReads.j1 kj5 a2 a3 true a1_0 a1_1 a1_2))) = some r := by rw [if_neg (show ¬ (false = true) by decide)] at H; exact H
              clear H
              have H := H1
              clear H1
              replace H := Option.bind_eq_some_iff.mp H
              obtain ⟨t177, A310, H⟩ := H
              replace H : (if t177 = 4 then (lockgatelaw4_SuperReads.j1 kj5 a2 a3 (!(t166 == t171) || (!(t167 == t172) || (!(t168 == t173)))) a1_0 a1_1 a1_2) else (lockgatelaw4_SuperReads.j1 kj5 a2 a3 true a1_0 a1_1 a1_2)) = some r := H
              have A31 := Aside0.mk A310
              clear A310
              by_cases c32 : t177 = 4
              · rw [if_pos c32] at H
                have c32b0 : (t177 == 4) = true := beq_iff_eq.mpr c32
                have c32b1 : (t177 != 4) = false := bne_eq_false_iff_eq.mpr c32
                clear c32
                have H' := Aside0.mk H
                clear H
                go_wp2_with (first | ((with_reducible refine gate_callee (f := 9) rfl ?_); refine goesL_ (some 38) rfl rfl Try.func9 (by kernel_rfl) rfl #[.int .i64 t169] rfl (by (try simp only [List.map_toArray, List.map_cons, List.map_nil]); first | done | rfl | (simp only [List.length_drop, List.length_take]; rfl)) ?_; (with_reducible refine (lockgatelaw4_num.calls t169 t176 _ A23.out).mono ?_); rintro e w' ⟨rfl, ⟨nd, rfl⟩⟩; refine ⟨_, rfl, ?_⟩) | (go_at_call 9; (with_reducible refine (lockgatelaw4_num.calls t169 t177 _ A31.out).mono ?_); rintro e w' ⟨rfl, ⟨nd, rfl⟩⟩; have hnb33 := NB170_164.out; have hnc33 := NB164_170.out; have hnb34 := NB170_175.out; have hnc34 := NB175_170.out; have hcz35_0 : w19.cell? ⟨gb170, 0, none⟩ = some (.int .i64 t166) := (blk_cell BK170.out 0).trans rfl; have hcz35_1 : w19.cell? ⟨gb170, 1, none⟩ = some (.int .i64 t167) := (blk_cell BK170.out 1).trans rfl; have hcz35_2 : w19.cell? ⟨gb170, 2, none⟩ = some (.int .i64 t168) := (blk_cell BK170.out 2).trans rfl; have hfz35_0 := blk_frozen BK170.out 0; have hfz35_1 := blk_frozen BK170.out 1; have hfz35_2 := blk_frozen BK170.out 2; have hnb36 := NB175_164.out; have hnc36 := NB164_175.out; have hcz37_0 : w19.cell? ⟨gb175, 0, none⟩ = some (.int .i64 0) := (blk_cell BK175.out 0).trans rfl; have hcz37_1 : w19.cell? ⟨gb175, 1, none⟩ = some (.int .i64 0) := (blk_cell BK175.out 1).trans rfl; have hcz37_2 : w19.cell? ⟨gb175, 2, none⟩ = some (.int .i64 0) := (blk_cell BK175.out 2).trans rfl; have hfz37_0 := blk_frozen BK175.out 0; have hfz37_1 := blk_frozen BK175.out 1; have hfz37_2 := blk_frozen BK175.out 2))
                go_meet
                case rel => exact ⟨_, ((!(t166 == t171) || (!(t167 == t172) || (!(t168 == t173))))), (by first | rfl | (simp; done) | (simp [*]; done)), H', ⟨by have := HJ5.out; first | omega | exact Nat.le_refl _⟩, ⟨by (with_reducible repeat (first | refine blk_drewN ?_ _ | refine blk_drew ?_ | refine blk_alloc ?_ _)); refine blk_far ?_ NB164_175.out _; (with_reducible repeat (first | refine blk_drewN ?_ _ | refine blk_drew ?_ | refine blk_alloc ?_ _)); refine blk_far ?_ NB164_175.out _; (with_reducible repeat (first | refine blk_drewN ?_ _ | refine blk_drew ?_ | refine blk_alloc ?_ _)); refine blk_far ?_ NB164_175.out _; (with_reducible repeat (first | refine blk_drewN ?_ _ | refine blk_drew ?_ | refine blk_alloc ?_ _)); exact BK164.out⟩, ⟨by (with_reducible repeat (first | refine blk_drewN ?_ _ | refine blk_drew ?_ | refine blk_alloc ?_ _)); refine blk_far ?_ NB170_175.out _; (with_reducible repeat (first | refine blk_drewN ?_ _ | refine blk_drew ?_ | refine blk_alloc ?_ _)); refine blk_far ?_ NB170_175.out _; (with_reducible repeat (first | refine blk_drewN ?_ _ | refine blk_drew ?_ | refine blk_alloc ?_ _)); refine blk_far ?_ NB170_175.out _; (with_reducible repeat (first | refine blk_drewN ?_ _ | refine blk_drew ?_ | refine blk_alloc ?_ _)); exact BK170.out⟩, ⟨by (with_reducible repeat (first | refine blk_drewN ?_ _ | refine blk_drew ?_ | refine blk_alloc ?_ _)); refine blk_put (cs := #[.int .i64 t171, .int .i64 t172, .int .i64 0]) ?_ 2 _ rfl; (with_reducible repeat (first | refine blk_drewN ?_ _ | refine blk_drew ?_ | refine blk_alloc ?_ _)); refine blk_put (cs := #[.int .i64 t171, .int .i64 0, .int .i64 0]) ?_ 1 _ rfl; (with_reducible repeat (first | refine blk_drewN ?_ _ | refine blk_drew ?_ | refine blk_alloc ?_ _)); refine blk_put (cs := #[.int .i64 0, .int .i64 0, .int .i64 0]) ?_ 0 _ rfl; (with_reducible repeat (first | refine blk_drewN ?_ _ | refine blk_drew ?_ | refine blk_alloc ?_ _)); exact BK175.out⟩, ⟨by repeat (first | (with_reducible first | exact HB.out | apply below_alloc | apply pw_below_drewN | apply below_drew1 | refine below_set ?_ GE164.out | refine below_set ?_ GE170.out | refine below_set ?_ GE175.out) | exact HB.out)⟩⟩
              · rw [if_neg c32] at H
                have c32b0 : (t177 == 4) = false := beq_eq_false_iff_ne.mpr c32
                have c32b1 : (t177 != 4) = true := bne_iff_ne.mpr c32
                have H' := Aside0.mk H
                clear H
                go_wp2_with (first | ((with_reducible refine gate_callee (f := 9) rfl ?_); refine goesL_ (some 38) rfl rfl Try.func9 (by kernel_rfl) rfl #[.int .i64 t169] rfl (by (try simp only [List.map_toArray, List.map_cons, List.map_nil]); first | done | rfl | (simp only [List.length_drop, List.length_take]; rfl)) ?_; (with_reducible refine (lockgatelaw4_num.calls t169 t176 _ A23.out).mono ?_); rintro e w' ⟨rfl, ⟨nd, rfl⟩⟩; refine ⟨_, rfl, ?_⟩) | (go_at_call 9; (with_reducible refine (lockgatelaw4_num.calls t169 t177 _ A31.out).mono ?_); rintro e w' ⟨rfl, ⟨nd, rfl⟩⟩))
                go_meet
                case rel => exact ⟨_, (true), (by first | rfl | (simp; done) | (simp [*]; done)), H', ⟨by have := HJ5.out; first | omega | exact Nat.le_refl _⟩, ⟨by (with_reducible repeat (first | refine blk_drewN ?_ _ | refine blk_drew ?_ | refine blk_alloc ?_ _)); refine blk_far ?_ NB164_175.out _; (with_reducible repeat (first | refine blk_drewN ?_ _ | refine blk_drew ?_ | refine blk_alloc ?_ _)); refine blk_far ?_ NB164_175.out _; (with_reducible repeat (first | refine blk_drewN ?_ _ | refine blk_drew ?_ | refine blk_alloc ?_ _)); refine blk_far ?_ NB164_175.out _; (with_reducible repeat (first | refine blk_drewN ?_ _ | refine blk_drew ?_ | refine blk_alloc ?_ _)); exact BK164.out⟩, ⟨by (with_reducible repeat (first | refine blk_drewN ?_ _ | refine blk_drew ?_ | refine blk_alloc ?_ _)); refine blk_far ?_ NB170_175.out _; (with_reducible repeat (first | refine blk_drewN ?_ _ | refine blk_drew ?_ | refine blk_alloc ?_ _)); refine blk_far ?_ NB170_175.out _; (with_reducible repeat (first | refine blk_drewN ?_ _ | refine blk_drew ?_ | refine blk_alloc ?_ _)); refine blk_far ?_ NB170_175.out _; (with_reducible repeat (first | refine blk_drewN ?_ _ | refine blk_drew ?_ | refine blk_alloc ?_ _)); exact BK170.out⟩, ⟨by (with_reducible repeat (first | refine blk_drewN ?_ _ | refine blk_drew ?_ | refine blk_alloc ?_ _)); refine blk_put (cs := #[.int .i64 t171, .int .i64 t172, .int .i64 0]) ?_ 2 _ rfl; (with_reducible repeat (first | refine blk_drewN ?_ _ | refine blk_drew ?_ | refine blk_alloc ?_ _)); refine blk_put (cs := #[.int .i64 t171, .int .i64 0, .int .i64 0]) ?_ 1 _ rfl; (with_reducible repeat (first | refine blk_drewN ?_ _ | refine blk_drew ?_ | refine blk_alloc ?_ _)); refine blk_put (cs := #[.int .i64 0, .int .i64 0, .int .i64 0]) ?_ 0 _ rfl; (with_reducible repeat (first | refine blk_drewN ?_ _ | refine blk_drew ?_ | refine blk_alloc ?_ _)); exact BK175.out⟩, ⟨by repeat (first | (with_reducible first | exact HB.out | apply below_alloc | apply pw_below_drewN | apply below_drew1 | refine below_set ?_ GE164.out | refine below_set ?_ GE170.out | refine below_set ?_ GE175.out) | exact HB.out)⟩⟩
        case rest =>
          clear HC13
          try clear c1
          try clear c2
          try clear p2
          try clear c3
          try clear c4
          try clear c6
          try clear c9
          try clear c10
          try clear c12
          try clear c16
          try clear c20
          try clear c21
          try clear c24
          try clear c24b0
          try clear c24b1
          try clear c24b2
          try clear c25
          try clear c26
          try clear c27
          try clear c29
          try clear c32
          try clear c32b0
          try clear c32b1
          try clear c33
          try clear c34
          try clear c36
          try clear hcz17_0
          try clear hcz17_1
          try clear hcz17_2
          try clear hcz22_0
          try clear hcz22_1
          try clear hcz22_2
          try clear hcz28_0
          try clear hcz28_1
          try clear hcz28_2
          try clear hcz30_0
          try clear hcz30_1
          try clear hcz30_2
          try clear hcz35_0
          try clear hcz35_1
          try clear hcz35_2
          try clear hcz37_0
          try clear hcz37_1
          try clear hcz37_2
          try clear hfz17_0
          try clear hfz17_1
          try clear hfz17_2
          try clear hfz22_0
          try clear hfz22_1
          try clear hfz22_2
          try clear hfz28_0
          try clear hfz28_1
          try clear hfz28_2
          try clear hfz30_0
          try clear hfz30_1
          try clear hfz30_2
          try clear hfz35_0
          try clear hfz35_1
          try clear hfz35_2
          try clear hfz37_0
          try clear hfz37_1
          try clear hfz37_2
          try clear p2
          obtain ⟨kq, x55_12, rfl, HA, HJ12, BK164, BK170, BK175, HB⟩ := hcut
          cases kq with
          | zero => exact absurd HA.out (by simp [lockgatelaw4_SuperReads.j1])
          | succ kj12 =>
            have H := HA.out
            clear HA
            simp only [lockgatelaw4_SuperReads.j1] at H
            by_cases c38 : x55_12 = true
            · subst c38
              have H1 : (some false) = some r := by rw [if_pos rfl] at H; exact H
              clear H
              have H := H1
              clear H1
              obtain rfl := Option.some.inj H
              go_wp2
              go_ret
              exact ⟨by first | rfl | (simp [errW_none, errW_some] <;> rfl) | (simp [*, errW_none, errW_some] <;> rfl), by repeat (first | (with_reducible first | exact HB.out | apply below_alloc | apply pw_below_drewN | apply below_drew1 | refine below_set ?_ GE164.out | refine below_set ?_ GE170.out | refine below_set ?_ GE175.out) | exact HB.out)⟩
            · replace c38 := Bool.eq_false_iff.mpr c38
              subst c38
              have H1 : ((lockgateref1_Good.f a1_0 a1_1 a1_2).bind fun t178 => (if t178 = true then (if a2 < 0 then (lockgatelaw4_SuperReads.j2 kj12 a2 a3 true a1_0 a1_1 a1_2) else (if a2 ≥ 1024 then (lockgatelaw4_SuperReads.j2 kj12 a2 a3 true a1_0 a1_1 a1_2) else (lockgatelaw4_SuperReads.j2 kj12 a2 a3 (a3 == 0) a1_0 a1_1 a1_2))) else (lockgatelaw4_SuperReads.j2 kj12 a2 a3 true a1_0 a1_1 a1_2))) = some r := by rw [if_neg (show ¬ (false = true) by decide)] at H; exact H
              clear H
              have H := H1
              clear H1
              replace H := Option.bind_eq_some_iff.mp H
              obtain ⟨t178, A390, H⟩ := H
              replace H : (if t178 = true then (if a2 < 0 then (lockgatelaw4_SuperReads.j2 kj12 a2 a3 true a1_0 a1_1 a1_2) else (if a2 ≥ 1024 then (lockgatelaw4_SuperReads.j2 kj12 a2 a3 true a1_0 a1_1 a1_2) else (lockgatelaw4_SuperReads.j2 kj12 a2 a3 (a3 == 0) a1_0 a1_1 a1_2))) else (lockgatelaw4_SuperReads.j2 kj12 a2 a3 true a1_0 a1_1 a1_2)) = some r := H
              have A39 := Aside0.mk A390
              clear A390
              have HC40 := Aside0.mk H
              clear H
              have hnb41 := NB164_170.out
              have hnc41 := NB170_164.out
              have hnb42 := NB164_175.out
              have hnc42 := NB175_164.out
              have hcz43_0 : wc.cell? ⟨gb164, 0, none⟩ = some (.int .i64 a1_0) := (blk_cell BK164.out 0).trans rfl
              have hcz43_1 : wc.cell? ⟨gb164, 1, none⟩ = some (.int .i64 a1_1) := (blk_cell BK164.out 1).trans rfl
              have hcz43_2 : wc.cell? ⟨gb164, 2, none⟩ = some (.int .i64 a1_2) := (blk_cell BK164.out 2).trans rfl
              have hfz43_0 := blk_frozen BK164.out 0
              have hfz43_1 := blk_frozen BK164.out 1
              have hfz43_2 := blk_frozen BK164.out 2
              go_upto_region 9 with (first | ((with_reducible refine gate_callee (f := 7) rfl ?_); refine goesL_ (some 57) rfl rfl Try.func7 (by kernel_rfl) rfl #[.agg #[.int .i64 a1_0, .int .i64 a1_1, .int .i64 a1_2]] rfl (by (try simp only [List.map_toArray, List.map_cons, List.map_nil]); first | done | rfl | (simp only [List.length_drop, List.length_take]; rfl)) ?_; (with_reducible refine (lockgateref1_Good.calls a1_0 a1_1 a1_2 t178 _ A39.out).mono ?_); rintro e w44 ⟨rfl, hb⟩; refine ⟨_, rfl, ?_⟩; have n0_ := Aside0.mk (blk_below (g := gb164) (o := .cells #[.int .i64 a1_0, .int .i64 a1_1, .int .i64 a1_2] 23 (0, 0)) (by (with_reducible repeat (first | refine blk_drewN ?_ _ | refine blk_drew ?_ | refine blk_alloc ?_ _)); exact BK164.out) hb); have n1_ := Aside0.mk (blk_below (g := gb170) (o := .cells #[.int .i64 t166, .int .i64 t167, .int .i64 t168] 23 (0, 0)) (by (with_reducible repeat (first | refine blk_drewN ?_ _ | refine blk_drew ?_ | refine blk_alloc ?_ _)); exact BK170.out) hb); have n2_ := Aside0.mk (blk_below (g := gb175) (o := .cells #[.int .i64 t171, .int .i64 t172, .int .i64 t173] 23 (0, 0)) (by (with_reducible repeat (first | refine blk_drewN ?_ _ | refine blk_drew ?_ | refine blk_alloc ?_ _)); exact BK175.out) hb); have n3_ := Aside0.mk (below_step (by repeat (first | (with_reducible first | exact HB.out | apply below_alloc | apply pw_below_drewN | apply below_drew1 | refine below_set ?_ GE164.out | refine below_set ?_ GE170.out | refine below_set ?_ GE175.out) | exact HB.out)) hb); clear BK164; clear BK170; clear BK175; clear HB; have BK164 := n0_; have BK170 := n1_; have BK175 := n2_; have HB := n3_; clear n0_ n1_ n2_ n3_; (try clear hb); (try clear hb2); (try clear hk); (try clear hi)))
              (try simp only [Act.put, List.setIfInBounds_toArray, List.set_cons_zero, List.set_cons_succ])
              go_cut [71] (fun v71 wc => ∃ (kq : Nat) (x71_39 : Bool), v71 = .bool x71_39 ∧ Aside0 (lockgatelaw4_SuperReads.j2 kq a2 a3 x71_39 a1_0 a1_1 a1_2 = some r) ∧ Aside0 (kq ≤ kj12) ∧ Aside0 (wc.heap[gb164]? = some (.cells #[.int .i64 a1_0, .int .i64 a1_1, .int .i64 a1_2] 23 (0, 0))) ∧ Aside0 (wc.heap[gb170]? = some (.cells #[.int .i64 t166, .int .i64 t167, .int .i64 t168] 23 (0, 0))) ∧ Aside0 (wc.heap[gb175]? = some (.cells #[.int .i64 t171, .int .i64 t172, .int .i64 t173] 23 (0, 0))) ∧ Aside0 (Below w.heap.size w wc))
              case first =>
                have H := HC40.out
                clear HC40
                by_cases c45 : t178 = true
                · subst c45
                  have H1 : (if a2 < 0 then (lockgatelaw4_SuperReads.j2 kj12 a2 a3 true a1_0 a1_1 a1_2) else (if a2 ≥ 1024 then (lockgatelaw4_SuperReads.j2 kj12 a2 a3 true a1_0 a1_1 a1_2) else (lockgatelaw4_SuperReads.j2 kj12 a2 a3 (a3 == 0) a1_0 a1_1 a1_2))) = some r := by rw [if_pos rfl] at H; exact H
                  clear H
                  have H := H1
                  clear H1
                  by_cases c46 : a2 < 0
                  · rw [if_pos c46] at H
                    have c46b0 : decide (a2 < 0) = true := decide_eq_true c46
                    clear c46
                    (first | rw [c46b0] | (simp only [i64_w, i32_w]; rw [c46b0]) | skip)
                    have H' := Aside0.mk H
                    clear H
                    go_wp2
                    go_meet
                    case rel => exact ⟨_, (true), (by first | rfl | (simp; done) | (simp [*]; done)), H', ⟨by have := HJ5.out; have := HJ12.out; first | omega | exact Nat.le_refl _⟩, ⟨by (with_reducible repeat (first | refine blk_drewN ?_ _ | refine blk_drew ?_ | refine blk_alloc ?_ _)); exact BK164.out⟩, ⟨by (with_reducible repeat (first | refine blk_drewN ?_ _ | refine blk_drew ?_ | refine blk_alloc ?_ _)); exact BK170.out⟩, ⟨by (with_reducible repeat (first | refine blk_drewN ?_ _ | refine blk_drew ?_ | refine blk_alloc ?_ _)); exact BK175.out⟩, ⟨by repeat (first | (with_reducible first | exact HB.out | apply below_alloc | apply pw_below_drewN | apply below_drew1 | refine below_set ?_ GE164.out | refine below_set ?_ GE170.out | refine below_set ?_ GE175.out) | exact HB.out)⟩⟩
                  · rw [if_neg c46] at H
                    have c46b0 : decide (a2 < 0) = false := decide_eq_false c46
                    clear c46
                    (first | rw [c46b0] | (simp only [i64_w, i32_w]; rw [c46b0]) | skip)
                    by_cases c47 : a2 ≥ 1024
                    · rw [if_pos c47] at H
                      have c47b0 : decide (1024 ≤ a2) = true := decide_eq_true c47
                      clear c47
                      have H' := Aside0.mk H
                      clear H
                      go_wp2
                      go_meet
                      case rel => exact ⟨_, (true), (by first | rfl | (simp; done) | (simp [*]; done)), H', ⟨by have := HJ5.out; have := HJ12.out; first | omega | exact Nat.le_refl _⟩, ⟨by (with_reducible repeat (first | refine blk_drewN ?_ _ | refine blk_drew ?_ | refine blk_alloc ?_ _)); exact BK164.out⟩, ⟨by (with_reducible repeat (first | refine blk_drewN ?_ _ | refine blk_drew ?_ | refine blk_alloc ?_ _)); exact BK170.out⟩, ⟨by (with_reducible repeat (first | refine blk_drewN ?_ _ | refine blk_drew ?_ | refine blk_alloc ?_ _)); exact BK175.out⟩, ⟨by repeat (first | (with_reducible first | exact HB.out | apply below_alloc | apply pw_below_drewN | apply below_drew1 | refine below_set ?_ GE164.out | refine below_set ?_ GE170.out | refine below_set ?_ GE175.out) | exact HB.out)⟩⟩
                    · rw [if_neg c47] at H
                      have c47b0 : decide (1024 ≤ a2) = false := decide_eq_false c47
                      clear c47
                      have H' := Aside0.mk H
                      clear H
                      go_wp2
                      go_meet
                      case rel => exact ⟨_, ((a3 == 0)), (by first | rfl | (simp; done) | (simp [*]; done)), H', ⟨by have := HJ5.out; have := HJ12.out; first | omega | exact Nat.le_refl _⟩, ⟨by (with_reducible repeat (first | refine blk_drewN ?_ _ | refine blk_drew ?_ | refine blk_alloc ?_ _)); exact BK164.out⟩, ⟨by (with_reducible repeat (first | refine blk_drewN ?_ _ | refine blk_drew ?_ | refine blk_alloc ?_ _)); exact BK170.out⟩, ⟨by (with_reducible repeat (first | refine blk_drewN ?_ _ | refine blk_drew ?_ | refine blk_alloc ?_ _)); exact BK175.out⟩, ⟨by repeat (first | (with_reducible first | exact HB.out | apply below_alloc | apply pw_below_drewN | apply below_drew1 | refine below_set ?_ GE164.out | refine below_set ?_ GE170.out | refine below_set ?_ GE175.out) | exact HB.out)⟩⟩
                · replace c45 := Bool.eq_false_iff.mpr c45
                  subst c45
                  have H1 : (lockgatelaw4_SuperReads.j2 kj12 a2 a3 true a1_0 a1_1 a1_2) = some r := by rw [if_neg (show ¬ (false = true) by decide)] at H; exact H
                  clear H
                  have H := H1
                  clear H1
                  have H' := Aside0.mk H
                  clear H
                  go_wp2
                  go_meet
                  case rel => exact ⟨_, (true), (by first | rfl | (simp; done) | (simp [*]; done)), H', ⟨by have := HJ5.out; have := HJ12.out; first | omega | exact Nat.le_refl _⟩, ⟨by (with_reducible repeat (first | refine blk_drewN ?_ _ | refine blk_drew ?_ | refine blk_alloc ?_ _)); exact BK164.out⟩, ⟨by (with_reducible repeat (first | refine blk_drewN ?_ _ | refine blk_drew ?_ | refine blk_alloc ?_ _)); exact BK170.out⟩, ⟨by (with_reducible repeat (first | refine blk_drewN ?_ _ | refine blk_drew ?_ | refine blk_alloc ?_ _)); exact BK175.out⟩, ⟨by repeat (first | (with_reducible first | exact HB.out | apply below_alloc | apply pw_below_drewN | apply below_drew1 | refine below_set ?_ GE164.out | refine below_set ?_ GE170.out | refine below_set ?_ GE175.out) | exact HB.out)⟩⟩
              case rest =>
                clear HC40
                try clear c1
                try clear c2
                try clear p2
                try clear c3
                try clear c4
                try clear c6
                try clear c7
                try clear c9
                try clear c10
                try clear c12
                try clear c16
                try clear c20
                try clear c21
                try clear c24
                try clear c24b0
                try clear c24b1
                try clear c24b2
                try clear c25
                try clear c26
                try clear c27
                try clear c29
                try clear c32
                try clear c32b0
                try clear c32b1
                try clear c33
                try clear c34
                try clear c36
                try clear c38
                try clear c41
                try clear c42
                try clear c45
                try clear c46
                try clear c46b0
                try clear c47
                try clear c47b0
                try clear hcz17_0
                try clear hcz17_1
                try clear hcz17_2
                try clear hcz22_0
                try clear hcz22_1
                try clear hcz22_2
                try clear hcz28_0
                try clear hcz28_1
                try clear hcz28_2
                try clear hcz30_0
                try clear hcz30_1
                try clear hcz30_2
                try clear hcz35_0
                try clear hcz35_1
                try clear hcz35_2
                try clear hcz37_0
                try clear hcz37_1
                try clear hcz37_2
                try clear hcz43_0
                try clear hcz43_1
                try clear hcz43_2
                try clear hfz17_0
                try clear hfz17_1
                try clear hfz17_2
                try clear hfz22_0
                try clear hfz22_1
                try clear hfz22_2
                try clear hfz28_0
                try clear hfz28_1
                try clear hfz28_2
                try clear hfz30_0
                try clear hfz30_1
                try clear hfz30_2
                try clear hfz35_0
                try clear hfz35_1
                try clear hfz35_2
                try clear hfz37_0
                try clear hfz37_1
                try clear hfz37_2
                try clear hfz43_0
                try clear hfz43_1
                try clear hfz43_2
                try clear p2
                obtain ⟨kq, x71_39, rfl, HA, HJ39, BK164, BK170, BK175, HB⟩ := hcut
                cases kq with
                | zero => exact absurd HA.out (by simp [lockgatelaw4_SuperReads.j2])
                | succ kj39 =>
                  have H := HA.out
                  clear HA
                  simp only [lockgatelaw4_SuperReads.j2] at H
                  by_cases c48 : x71_39 = true
                  · subst c48
                    have H1 : (some true) = some r := by rw [if_pos rfl] at H; exact H
                    clear H
                    have H := H1
                    clear H1
                    obtain rfl := Option.some.inj H
                    go_wp2
                    go_ret
                    exact ⟨by first | rfl | (simp [errW_none, errW_some] <;> rfl) | (simp [*, errW_none, errW_some] <;> rfl), by repeat (first | (with_reducible first | exact HB.out | apply below_alloc | apply pw_below_drewN | apply below_drew1 | refine below_set ?_ GE164.out | refine below_set ?_ GE170.out | refine below_set ?_ GE175.out) | exact HB.out)⟩
                  · replace c48 := Bool.eq_false_iff.mpr c48
                    subst c48
                    have H1 : ((lockgateref1_PackSuper.f kj39 a1_0 a1_1 a1_2).bind fun t179 => (if 0 ≤ a2 then (if a2 < (t179.length : Int) then ((super_Read.f kj39 (t179.set (a2 : Int).toNat (Go.bits .xor .u8 (rd t179 a2) a3))).bind fun bt184 => ((lockgatelaw4_num.f bt184.2.2.2).bind fun t189 => (some (t189 == 4)))) else (none)) else (none))) = some r := by rw [if_neg (show ¬ (false = true) by decide)] at H; exact H
                    clear H
                    have H := H1
                    clear H1
                    replace H := Option.bind_eq_some_iff.mp H
                    obtain ⟨t179, A490, H⟩ := H
                    replace H : (if 0 ≤ a2 then (if a2 < (t179.length : Int) then ((super_Read.f kj39 (t179.set (a2 : Int).toNat (Go.bits .xor .u8 (rd t179 a2) a3))).bind fun bt184 => ((lockgatelaw4_num.f bt184.2.2.2).bind fun t189 => (some (t189 == 4)))) else (none)) else (none)) = some r := H
                    have A49 := Aside0.mk A490
                    clear A490
                    by_cases c50 : 0 ≤ a2
                    · rw [if_pos c50] at H
                      have c50b0 : decide (0 ≤ a2) = true := decide_eq_true c50
                      clear c50
                      by_cases c51 : a2 < (t179.length : Int)
                      · rw [if_pos c51] at H
                        have c51b0 : decide (a2 < (t179.length : Int)) = true := decide_eq_true c51
                        clear c51
                        obtain ⟨y183, hy183⟩ : ∃ y_ : List Int, y_ = (t179.set (a2 : Int).toNat (Go.bits .xor .u8 (rd t179 a2) a3)) := ⟨_, rfl⟩
                        replace H : ((super_Read.f kj39 y183).bind fun bt184 => ((lockgatelaw4_num.f bt184.2.2.2).bind fun t189 => (some (t189 == 4)))) = some r := by first | (rw [hy183]; with_reducible exact H) | (have H2_ := (Option.bind_some _ _).symm.trans H; rw [hy183]; with_reducible exact H2_) | (have H2_ := (Option.bind_some _ _).symm.trans H; with_reducible exact H2_) | with_reducible exact H | (rw [hy183]; exact H) | exact H
                        have Ny183 := Aside0.mk hy183
                        clear hy183
                        replace H := Option.bind_eq_some_iff.mp H
                        obtain ⟨⟨t184, t185, t186, t187⟩, A530, H⟩ := H
                        replace H : ((lockgatelaw4_num.f t187).bind fun t189 => (some (t189 == 4))) = some r := H
                        have A53 := Aside0.mk A530
                        clear A530
                        replace H := Option.bind_eq_some_iff.mp H
                        obtain ⟨t189, A540, H⟩ := H
                        replace H : (some (t189 == 4)) = some r := H
                        have A54 := Aside0.mk A540
                        clear A540
                        obtain rfl := Option.some.inj H
                        have hnb55 := NB164_170.out
                        have hnc55 := NB170_164.out
                        have hnb56 := NB164_175.out
                        have hnc56 := NB175_164.out
                        have hcz57_0 : wc.cell? ⟨gb164, 0, none⟩ = some (.int .i64 a1_0) := (blk_cell BK164.out 0).trans rfl
                        have hcz57_1 : wc.cell? ⟨gb164, 1, none⟩ = some (.int .i64 a1_1) := (blk_cell BK164.out 1).trans rfl
                        have hcz57_2 : wc.cell? ⟨gb164, 2, none⟩ = some (.int .i64 a1_2) := (blk_cell BK164.out 2).trans rfl
                        have hfz57_0 := blk_frozen BK164.out 0
                        have hfz57_1 := blk_frozen BK164.out 1
                        have hfz57_2 := blk_frozen BK164.out 2
                        go_wp2_with (first | ((with_reducible refine gate_callee (f := 11) rfl ?_); refine goesL_ (some 73) rfl rfl Try.func11 (by kernel_rfl) rfl #[.agg #[.int .i64 a1_0, .int .i64 a1_1, .int .i64 a1_2]] rfl (by (try simp only [List.map_toArray, List.map_cons, List.map_nil]); first | done | rfl | (simp only [List.length_drop, List.length_take]; rfl)) ?_; (with_reducible refine (lockgateref1_PackSuper.calls kj39 a1_0 a1_1 a1_2 t179 _ A49.out).mono ?_); rintro e w58 ⟨v180, rfl, ho0, hb⟩; refine ⟨_, rfl, ?_⟩; have n0_ := Aside0.mk (Kd.R_lower ho0 (below_size (by repeat (first | (with_reducible first | exact HB.out | apply below_alloc | apply pw_below_drewN | apply below_drew1 | refine below_set ?_ GE164.out | refine below_set ?_ GE170.out | refine below_set ?_ GE175.out) | exact HB.out)))); have n1_ := Aside0.mk (blk_below (g := gb164) (o := .cells #[.int .i64 a1_0, .int .i64 a1_1, .int .i64 a1_2] 23 (0, 0)) (by (with_reducible repeat (first | refine blk_drewN ?_ _ | refine blk_drew ?_ | refine blk_alloc ?_ _)); exact BK164.out) hb); have n2_ := Aside0.mk (blk_below (g := gb170) (o := .cells #[.int .i64 t166, .int .i64 t167, .int .i64 t168] 23 (0, 0)) (by (with_reducible repeat (first | refine blk_drewN ?_ _ | refine blk_drew ?_ | refine blk_alloc ?_ _)); exact BK170.out) hb); have n3_ := Aside0.mk (blk_below (g := gb175) (o := .cells #[.int .i64 t171, .int .i64 t172, .int .i64 t173] 23 (0, 0)) (by (with_reducible repeat (first | refine blk_drewN ?_ _ | refine blk_drew ?_ | refine blk_alloc ?_ _)); exact BK175.out) hb); have n4_ := Aside0.mk (below_step (by repeat (first | (with_reducible first | exact HB.out | apply below_alloc | apply pw_below_drewN | apply below_drew1 | refine below_set ?_ GE164.out | refine below_set ?_ GE170.out | refine below_set ?_ GE175.out) | exact HB.out)) hb); clear BK164; clear BK170; clear BK175; clear HB; have HO181 := n0_; have BK164 := n1_; have BK170 := n2_; have BK175 := n3_; have HB := n4_; clear n0_ n1_ n2_ n3_ n4_; (try clear hb); (try clear hb2); (try clear hk); (try clear hi); (try clear ho0); obtain ⟨Ao59, co59, eo59⟩ := Kd.R_slice HO181.out; subst eo59; have p182 : 0 ≤ (a2 : Int) := of_decide_eq_true (by first | (with_reducible assumption) | assumption); have q182 : a2 < (t179.length : Int) := of_decide_eq_true (by first | (with_reducible assumption) | assumption); obtain ⟨ad182, e182, hx182_0⟩ := Kd.at_int (Kd.R_reads' HO181.out).2.2 a2 p182 q182; cases e182; replace p182 := eq_true p182; replace q182 := eq_true q182; have p52 : 0 ≤ (a2 : Int) := of_decide_eq_true (by first | (with_reducible assumption) | assumption); have q52 : (a2 : Int) < ((t179.length : Int) : Int) := of_decide_eq_true (by first | (with_reducible assumption) | assumption); obtain ⟨go52, co52, eo52, gb52, gl52, cl52, HG52⟩ := Kd.R_form HO181.out (by omega); (first | cases eo52 | (injection eo52 with ea_ en_ ec_; (first | subst ea_ | (injection ea_ with ea_; subst ea_)); subst ec_; clear en_)); have GB52 := Aside0.mk gb52; have GG52 := Aside0.mk HG52; clear gb52 gl52 HG52; (first | simp only [add_plain] at hx182_0 | skip); obtain ⟨hx52_0, hf52_0⟩ := Kd.R_celln 0 HO181.out (a2 : Int) p52 q52; replace p52 := eq_true p52; replace q52 := eq_true q52; obtain ⟨hy60_, hz60_⟩ := Kd.R_celln 0 HO181.out (a2 : Int) (of_decide_eq_true (by first | (with_reducible assumption) | assumption)) (of_decide_eq_true (by first | (with_reducible assumption) | assumption)); have HP60 := Kd.R_putg HO181.out (a2 : Int) (Go.bits .xor .u8 (rd t179 a2) a3)) | ((with_reducible refine gate_store (t := 5) (p := 82) rfl ?_); refine store_event (t := 5) (p := 82) (v := ?vo_w61) (w1 := (w58.setCell ⟨go52, (a2 : Int).toNat, none⟩ (.int .u8 (Go.bits .xor .u8 (rd t179 a2) a3)))) ?hg ?ho ?hn ?hr ?_; (case ho => rfl); (case hg => rfl); (case hn => rfl); (case hr => first | (go_simp; done) | (go_simp; rfl)); intro w61 hw; have hg : w58.grownBy w61 (some go52) := (by rw [hw]; exact HP60.2); have hp_ : Kd.R (Kd.int .u8) 5 w61 w.heap.size (fun _ => True) (.slice (some ⟨go52, 0, none⟩) t179.length co59) y183 := (by rw [hw, Ny183.out]; exact HP60.1); clear HP60; have n0_ := Aside0.mk (blk_grown (g := gb164) (o := .cells #[.int .i64 a1_0, .int .i64 a1_1, .int .i64 a1_2] 23 (0, 0)) (by (with_reducible repeat (first | refine blk_drewN ?_ _ | refine blk_drew ?_ | refine blk_alloc ?_ _)); exact BK164.out) hg (Kd.R_ne HO181.out BK164.out (by decide))); have n1_ := Aside0.mk (blk_grown (g := gb170) (o := .cells #[.int .i64 t166, .int .i64 t167, .int .i64 t168] 23 (0, 0)) (by (with_reducible repeat (first | refine blk_drewN ?_ _ | refine blk_drew ?_ | refine blk_alloc ?_ _)); exact BK170.out) hg (Kd.R_ne HO181.out BK170.out (by decide))); have n2_ := Aside0.mk (blk_grown (g := gb175) (o := .cells #[.int .i64 t171, .int .i64 t172, .int .i64 t173] 23 (0, 0)) (by (with_reducible repeat (first | refine blk_drewN ?_ _ | refine blk_drew ?_ | refine blk_alloc ?_ _)); exact BK175.out) hg (Kd.R_ne HO181.out BK175.out (by decide))); have n3_ := Aside0.mk (hp_); have n4_ := Aside0.mk ((by rw [hw]; exact below_set (HB.out) GB52.out : Below w.heap.size w w61)); clear BK164; clear BK170; clear BK175; clear HO181; clear HB; have BK164 := n0_; have BK170 := n1_; have BK175 := n2_; have HO181 := n3_; have HB := n4_; clear n0_ n1_ n2_ n3_ n4_; clear hg hw hp_) | ((with_reducible refine gate_callee (f := 10) rfl ?_); refine goesL_ (some 85) rfl rfl Try.func10 (by kernel_rfl) rfl #[.slice (some ⟨go52, 0, none⟩) y183.length co59] rfl (by (try simp only [List.map_toArray, List.map_cons, List.map_nil]); first | done | (rw [show y183.length = t179.length from (Kd.R_reads' HO181.out).1.symm] <;> rfl) | rfl | (simp only [List.length_drop, List.length_take]; rfl)) ?_; (with_reducible refine (super_Read.calls kj39 _ _ y183 t184 t185 t186 t187 _ ?side1 ?side2 A53.out).mono ?_); (case side1 => repeat (first | exact (Kd.R_reads' HO181.out).2.2 | (with_reducible refine Kd.C_alloc ?_ _) | (with_reducible refine Kd.C_drewN ?_ _) | (with_reducible refine Kd.C_drew ?_))); (case side2 => rw [show y183.length = t179.length from (Kd.R_reads' HO181.out).1.symm]; exact (Kd.R_reads' HO181.out).2.1); rintro e w62 ⟨rfl, hb⟩; refine ⟨_, rfl, ?_⟩; have n0_ := Aside0.mk (Kd.R_below (by (with_reducible repeat (first | apply Kd.R_alloc | apply Kd.R_drewN | apply Kd.R_drew)); exact HO181.out) hb); have n1_ := Aside0.mk (blk_below (g := gb164) (o := .cells #[.int .i64 a1_0, .int .i64 a1_1, .int .i64 a1_2] 23 (0, 0)) (by (with_reducible repeat (first | refine blk_drewN ?_ _ | refine blk_drew ?_ | refine blk_alloc ?_ _)); exact BK164.out) hb); have n2_ := Aside0.mk (blk_below (g := gb170) (o := .cells #[.int .i64 t166, .int .i64 t167, .int .i64 t168] 23 (0, 0)) (by (with_reducible repeat (first | refine blk_drewN ?_ _ | refine blk_drew ?_ | refine blk_alloc ?_ _)); exact BK170.out) hb); have n3_ := Aside0.mk (blk_below (g := gb175) (o := .cells #[.int .i64 t171, .int .i64 t172, .int .i64 t173] 23 (0, 0)) (by (with_reducible repeat (first | refine blk_drewN ?_ _ | refine blk_drew ?_ | refine blk_alloc ?_ _)); exact BK175.out) hb); have n4_ := Aside0.mk (below_step (by repeat (first | (with_reducible first | exact HB.out | apply below_alloc | apply pw_below_drewN | apply below_drew1 | refine below_set ?_ GE164.out | refine below_set ?_ GE170.out | refine below_set ?_ GE175.out) | exact HB.out)) hb); clear HO181; clear BK164; clear BK170; clear BK175; clear HB; have HO181 := n0_; have BK164 := n1_; have BK170 := n2_; have BK175 := n3_; have HB := n4_; clear n0_ n1_ n2_ n3_ n4_; (try clear hb); (try clear hb2); (try clear hk); (try clear hi)) | ((with_reducible refine gate_dst (N := 16) rfl ?_); (try (refine gate_guard (by rfl) ?_; dsimp only)); refine box_event ?hg (N := 16) ?hd (cs := #[.int .i64 0, .int .i64 0, .int .i64 0]) (t := 23) ?hr ?_; (case hd => rfl); (case hg => rfl); (case hr => first | (go_simp; done) | (go_simp; rfl)); intro gb188 hg w63 hbox hb; have n0_ := Aside0.mk (Kd.R_below (by (with_reducible repeat (first | apply Kd.R_alloc | apply Kd.R_drewN | apply Kd.R_drew)); exact HO181.out) hb); have n1_ := Aside0.mk (blk_below (g := gb164) (o := .cells #[.int .i64 a1_0, .int .i64 a1_1, .int .i64 a1_2] 23 (0, 0)) (by (with_reducible repeat (first | refine blk_drewN ?_ _ | refine blk_drew ?_ | refine blk_alloc ?_ _)); exact BK164.out) hb); have n2_ := Aside0.mk (blk_below (g := gb170) (o := .cells #[.int .i64 t166, .int .i64 t167, .int .i64 t168] 23 (0, 0)) (by (with_reducible repeat (first | refine blk_drewN ?_ _ | refine blk_drew ?_ | refine blk_alloc ?_ _)); exact BK170.out) hb); have n3_ := Aside0.mk (blk_below (g := gb175) (o := .cells #[.int .i64 t171, .int .i64 t172, .int .i64 t173] 23 (0, 0)) (by (with_reducible repeat (first | refine blk_drewN ?_ _ | refine blk_drew ?_ | refine blk_alloc ?_ _)); exact BK175.out) hb); have n4_ := Aside0.mk (below_step (by repeat (first | (with_reducible first | exact HB.out | apply below_alloc | apply pw_below_drewN | apply below_drew1 | refine below_set ?_ GE164.out | refine below_set ?_ GE170.out | refine below_set ?_ GE175.out) | exact HB.out)) hb); have n5_ := Aside0.mk (hbox); have n6_ := Aside0.mk ((by rw [hg]; exact (below_size (by repeat (first | (with_reducible first | exact HB.out | apply below_alloc | apply pw_below_drewN | apply below_drew1 | refine below_set ?_ GE164.out | refine below_set ?_ GE170.out | refine below_set ?_ GE175.out) | exact HB.out))) : w.heap.size ≤ gb188)); have n7_ := Aside0.mk ((by rw [hg]; exact (below_size (by repeat (first | (with_reducible first | exact HB.out | apply below_alloc | apply pw_below_drewN | apply below_drew1 | refine below_set ?_ GE164.out | refine below_set ?_ GE170.out | refine below_set ?_ GE175.out) | exact HB.out))) : w.heap.size ≤ gb188)); have n8_ := Aside0.mk ((by rw [hg]; exact Nat.ne_of_lt (blk_lt (g := gb164) (o := .cells #[.int .i64 a1_0, .int .i64 a1_1, .int .i64 a1_2] 23 (0, 0)) (by (with_reducible repeat (first | refine blk_drewN ?_ _ | refine blk_drew ?_ | refine blk_alloc ?_ _)); exact BK164.out)) : gb164 ≠ gb188)); have n9_ := Aside0.mk ((by rw [hg]; exact Nat.ne_of_gt (blk_lt (g := gb164) (o := .cells #[.int .i64 a1_0, .int .i64 a1_1, .int .i64 a1_2] 23 (0, 0)) (by (with_reducible repeat (first | refine blk_drewN ?_ _ | refine blk_drew ?_ | refine blk_alloc ?_ _)); exact BK164.out)) : gb188 ≠ gb164)); have n10_ := Aside0.mk ((by rw [hg]; exact Nat.ne_of_lt (blk_lt (g := gb170) (o := .cells #[.int .i64 t166, .int .i64 t167, .int .i64 t168] 23 (0, 0)) (by (with_reducible repeat (first | refine blk_drewN ?_ _ | refine blk_drew ?_ | refine blk_alloc ?_ _)); exact BK170.out)) : gb170 ≠ gb188)); have n11_ := Aside0.mk ((by rw [hg]; exact Nat.ne_of_gt (blk_lt (g := gb170) (o := .cells #[.int .i64 t166, .int .i64 t167, .int .i64 t168] 23 (0, 0)) (by (with_reducible repeat (first | refine blk_drewN ?_ _ | refine blk_drew ?_ | refine blk_alloc ?_ _)); exact BK170.out)) : gb188 ≠ gb170)); have n12_ := Aside0.mk ((by rw [hg]; exact Nat.ne_of_lt (blk_lt (g := gb175) (o := .cells #[.int .i64 t171, .int .i64 t172, .int .i64 t173] 23 (0, 0)) (by (with_reducible repeat (first | refine blk_drewN ?_ _ | refine blk_drew ?_ | refine blk_alloc ?_ _)); exact BK175.out)) : gb175 ≠ gb188)); have n13_ := Aside0.mk ((by rw [hg]; exact Nat.ne_of_gt (blk_lt (g := gb175) (o := .cells #[.int .i64 t171, .int .i64 t172, .int .i64 t173] 23 (0, 0)) (by (with_reducible repeat (first | refine blk_drewN ?_ _ | refine blk_drew ?_ | refine blk_alloc ?_ _)); exact BK175.out)) : gb188 ≠ gb175)); clear HO181; clear BK164; clear BK170; clear BK175; clear HB; have HO181 := n0_; have BK164 := n1_; have BK170 := n2_; have BK175 := n3_; have HB := n4_; have BK188 := n5_; have GW188 := n6_; have GE188 := n7_; have NB164_188 := n8_; have NB188_164 := n9_; have NB170_188 := n10_; have NB188_170 := n11_; have NB175_188 := n12_; have NB188_175 := n13_; clear n0_ n1_ n2_ n3_ n4_ n5_ n6_ n7_ n8_ n9_ n10_ n11_ n12_ n13_; clear hb hbox hg; have hnb64 := NB188_164.out; have hnc64 := NB164_188.out; have hnb65 := NB188_170.out; have hnc65 := NB170_188.out; have hnb66 := NB188_175.out; have hnc66 := NB175_188.out; have hcz67_0 : w63.cell? ⟨gb188, 0, none⟩ = some (.int .i64 0) := (blk_cell BK188.out 0).trans rfl; have hcz67_1 : w63.cell? ⟨gb188, 1, none⟩ = some (.int .i64 0) := (blk_cell BK188.out 1).trans rfl; have hcz67_2 : w63.cell? ⟨gb188, 2, none⟩ = some (.int .i64 0) := (blk_cell BK188.out 2).trans rfl; have hfz67_0 := blk_frozen BK188.out 0; have hfz67_1 := blk_frozen BK188.out 1; have hfz67_2 := blk_frozen BK188.out 2) | ((with_reducible refine gate_callee (f := 9) rfl ?_); refine goesL_ (some 89) rfl rfl Try.func9 (by kernel_rfl) rfl #[.int .i64 t187] rfl (by (try simp only [List.map_toArray, List.map_cons, List.map_nil]); first | done | rfl | (simp only [List.length_drop, List.length_take]; rfl)) ?_; (with_reducible refine (lockgatelaw4_num.calls t187 t189 _ A54.out).mono ?_); rintro e w' ⟨rfl, ⟨nd, rfl⟩⟩; refine ⟨_, rfl, ?_⟩))
                        go_ret
                        exact ⟨by first | rfl | (simp [errW_none, errW_some] <;> rfl) | (simp [*, errW_none, errW_some] <;> rfl), by repeat (first | (with_reducible first | exact HB.out | apply below_alloc | apply pw_below_drewN | apply below_drew1 | refine below_set ?_ GE164.out | refine below_set ?_ GE170.out | refine below_set ?_ GE175.out | refine below_set ?_ GE188.out) | exact HB.out)⟩
                      · rw [if_neg c51] at H
                        exact absurd H (by simp)
                    · rw [if_neg c50] at H
                      exact absurd H (by simp)

end Go.Proofs.Ythlpcfjnpagokaa.PSuperReads
