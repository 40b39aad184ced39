-- written by the session's program wip/print/patch.py (a turned copy of the print) over contracts that the session proved by hand
import Derived.Test.YthhhklihggpldaaPEntryReadsx0
import Derived.Test.YthhhklihggpldaaPEntryReadsx1
import Derived.Test.YthhhklihggpldaaPEntryReadsx2
import Derived.Test.YthhhklihggpldaaPEntryReadsx3
import Derived.Test.YthhhklihggpldaaPEntryReadsx5
namespace Go.Proofs.Ythhhklihggpldaa.PEntryReads
open Go.Proofs.Ythhhklihggpldaa.Given
open Go.RowKit Go.Proofs.YthhhklihggpldaaW.PrintWords Go.Proofs.YthhhklihggpldaaW.PrintLast Go.Proofs.YthhhklihggpldaaW.PrintMore
attribute [local go_sem] max2_int min2_int max_two min_two max_three min_three max_four min_four   -- for this text's walks alone
set_option linter.unusedVariables false
set_option linter.unusedSimpArgs false

attribute [local go_sem high] eqA28
/-! ### lockgatelaw6_EntryReads: function 5 -/
mutual
def lockgatelaw6_EntryReads.j0 : Nat → List Int → Bool → Bool → Option (Bool)
  | 0, _, _, _ => none
  | k + 1, x0, x3, x17 => if x17 = true then (some x3) else (if ([] : List Int).length + x0.length < 140737488355328 then ((entry_Read.f k (([] : List Int) ++ x0)).bind fun bt162 => ((lockgateref1_ReadEntry.f k x0).bind fun bt166 => ((lockgatelaw6_num.f bt162.2.2).bind fun t170 => (if ((t170 == 0) != bt166.2.2) = true then (lockgatelaw6_EntryReads.j1 k x0 bt166.2.2 true bt162.1 bt162.2.1) else (if bt166.2.2 = true then (lockgatelaw6_EntryReads.j1 k x0 bt166.2.2 (!(bt162.1 == bt166.1) || (!(bt162.2.1.toList == bt166.2.1.toList))) bt162.1 bt162.2.1) else ((lockgatelaw6_num.f bt162.2.2).bind fun t171 => (if t171 = 5 then (lockgatelaw6_EntryReads.j1 k x0 bt166.2.2 (!(bt162.1 == bt166.1) || (!(bt162.2.1.toList == bt166.2.1.toList))) bt162.1 bt162.2.1) else (lockgatelaw6_EntryReads.j1 k x0 bt166.2.2 true bt162.1 bt162.2.1)))))))) else (none))
def lockgatelaw6_EntryReads.j1 : Nat → List Int → Bool → Bool → Int → ByteArray → Option (Bool)
  | 0, _, _, _, _, _ => none
  | k + 1, x0, x7, x48, x166000, x166001 => if x48 = true then (some false) else (if x7 = true then ((entry_Pack.f x166000 x166001).bind fun bt172 => ((lockgatelaw6_num.f bt172.2).bind fun t176 => (if t176 = 0 then (some ((strOfNums bt172.1).toList == (strOfNums x0).toList)) else (some false)))) else (some true))
end
def lockgatelaw6_EntryReads.f (k : Nat) (l0 : List Int) : Option (Bool) := (lockgatelaw6_alive.f).bind fun t158 => (if t158 = true then (lockgatelaw6_EntryReads.j0 k l0 t158 (decide ((l0.length : Int) > 500))) else (lockgatelaw6_EntryReads.j0 k l0 t158 true))
theorem lockgatelaw6_EntryReads.mono_l : ∀ k, (∀ y0 y1 y2, LeO (lockgatelaw6_EntryReads.j0 k y0 y1 y2) (lockgatelaw6_EntryReads.j0 (k + 1) y0 y1 y2)) ∧ (∀ y0 y1 y2 y3 y4, LeO (lockgatelaw6_EntryReads.j1 k y0 y1 y2 y3 y4) (lockgatelaw6_EntryReads.j1 (k + 1) y0 y1 y2 y3 y4))
  | 0 => ⟨fun _ _ _ r h => by simp [lockgatelaw6_EntryReads.j0] at h, fun _ _ _ _ _ r h => by simp [lockgatelaw6_EntryReads.j1] at h⟩
  | k + 1 => by
    obtain ⟨ih0, ih1⟩ := lockgatelaw6_EntryReads.mono_l k
    refine ⟨?_, ?_⟩
    · intro y0 y1 y2
      unfold lockgatelaw6_EntryReads.j0
      repeat' first
      | (with_reducible exact ih0 _ _ _)
      | (with_reducible exact ih1 _ _ _ _ _)
      | (with_reducible exact entry_Read.mono _ _)
      | (with_reducible exact lockgateref1_ReadEntry.mono _ _)
      | (with_reducible exact LeO.refl _)
      | (with_reducible exact LeO.none _)
      | (with_reducible refine LeO.ite ?_ ?_)
      | (with_reducible refine LeO.bind ?_ (fun _ => ?_))
      | exact ih0 _ _ _
      | exact ih1 _ _ _ _ _
      | exact entry_Read.mono _ _
      | exact lockgateref1_ReadEntry.mono _ _
      | exact LeO.none _
      | refine LeO.ite ?_ ?_
      | refine LeO.bind ?_ (fun _ => ?_)
    · intro y0 y1 y2 y3 y4
      unfold lockgatelaw6_EntryReads.j1
      repeat' first
      | (with_reducible exact ih0 _ _ _)
      | (with_reducible exact ih1 _ _ _ _ _)
      | (with_reducible exact entry_Read.mono _ _)
      | (with_reducible exact lockgateref1_ReadEntry.mono _ _)
      | (with_reducible exact LeO.refl _)
      | (with_reducible exact LeO.none _)
      | (with_reducible refine LeO.ite ?_ ?_)
      | (with_reducible refine LeO.bind ?_ (fun _ => ?_))
      | exact ih0 _ _ _
      | exact ih1 _ _ _ _ _
      | exact entry_Read.mono _ _
      | exact lockgateref1_ReadEntry.mono _ _
      | exact LeO.none _
      | refine LeO.ite ?_ ?_
      | refine LeO.bind ?_ (fun _ => ?_)
theorem lockgatelaw6_EntryReads.mono : ∀ a0 k, LeO (lockgatelaw6_EntryReads.f k a0) (lockgatelaw6_EntryReads.f (k + 1) a0) := by
  intro a0 k
  obtain ⟨ih0, ih1⟩ := lockgatelaw6_EntryReads.mono_l k
  unfold lockgatelaw6_EntryReads.f
  repeat' first
      | (with_reducible exact ih0 _ _ _)
      | (with_reducible exact ih1 _ _ _ _ _)
      | (with_reducible exact entry_Read.mono _ _)
      | (with_reducible exact lockgateref1_ReadEntry.mono _ _)
      | (with_reducible exact LeO.refl _)
      | (with_reducible exact LeO.none _)
      | (with_reducible refine LeO.ite ?_ ?_)
      | (with_reducible refine LeO.bind ?_ (fun _ => ?_))
      | exact ih0 _ _ _
      | exact ih1 _ _ _ _ _
      | exact entry_Read.mono _ _
      | exact lockgateref1_ReadEntry.mono _ _
      | exact LeO.none _
      | refine LeO.ite ?_ ?_
      | refine LeO.bind ?_ (fun _ => ?_)
set_option maxHeartbeats 8000000 in
set_option maxRecDepth 100000 in
theorem lockgatelaw6_EntryReads.calls (k : Nat) (A0 : Option Addr) (c0 : Nat) (l0 : List Int) (r : Bool) (w : World) (hr0 : Kd.C (Kd.int .u8) w A0 l0.length l0) (hc0 : l0.length ≤ c0) (h : lockgatelaw6_EntryReads.f k l0 = some r) :
    Calls Try.prog 5 #[.slice A0 l0.length c0] w fun e w' => e = .returned (.bool r) ∧ Below w.heap.size w w' := by
  have hu28 := Try.underlying28
  have HR0 := Aside0.mk hr0
  have HC0 := Aside0.mk hc0
  clear hr0 hc0
  have HB := Aside0.mk (Below.refl w.heap.size w)
  have H : ((lockgatelaw6_alive.f).bind fun t158 => (if t158 = true then (lockgatelaw6_EntryReads.j0 k l0 t158 (decide ((l0.length : Int) > 500))) else (lockgatelaw6_EntryReads.j0 k l0 t158 true))) = some r := h
  clear h
  replace H := Option.bind_eq_some_iff.mp H
  obtain ⟨t158, A20, H⟩ := H
  replace H : (if t158 = true then (lockgatelaw6_EntryReads.j0 k l0 t158 (decide ((l0.length : Int) > 500))) else (lockgatelaw6_EntryReads.j0 k l0 t158 true)) = some r := H
  have A2 := Aside0.mk A20
  clear A20
  have HC3 := Aside0.mk H
  clear H
  go_enter Try.func5, Try.ntmps5
  go_upto_region 2 with (first | ((with_reducible refine gate_callee (f := 8) rfl ?_); refine goesL_ (some 10) rfl rfl Try.func8 (by kernel_rfl) rfl #[] rfl (by (try simp only [List.map_toArray, List.map_cons, List.map_nil]); first | done | rfl | (simp only [List.length_drop, List.length_take]; rfl)) ?_; (with_reducible refine (lockgatelaw6_alive.calls  t158 _ A2.out).mono ?_); rintro e w4 ⟨rfl, hb⟩; refine ⟨_, rfl, ?_⟩; have n0_ := Aside0.mk (below_step (by repeat (first | (with_reducible first | exact HB.out | apply below_alloc | apply pw_below_drewN | apply below_drew1) | exact HB.out)) hb); clear HB; have HB := n0_; clear n0_; (try clear hb); (try clear hb2); (try clear hk); (try clear hi)))
  (try simp only [Act.put, List.setIfInBounds_toArray, List.set_cons_zero, List.set_cons_succ])
  go_cut [17] (fun v17 wc => ∃ (kq : Nat) (x17_2 : Bool), v17 = .bool x17_2 ∧ Aside0 (lockgatelaw6_EntryReads.j0 kq l0 t158 x17_2 = some r) ∧ Aside0 (kq ≤ k) ∧ Aside0 (Below w.heap.size w wc))
  case first =>
    have H := HC3.out
    clear HC3
    by_cases c5 : t158 = true
    · subst c5
      have H1 : (lockgatelaw6_EntryReads.j0 k l0 true (decide ((l0.length : Int) > 500))) = some r := by rw [if_pos rfl] at H; exact H
      clear H
      have H := H1
      clear H1
      have H' := Aside0.mk H
      clear H
      go_wp2
      go_meet
      case rel => exact ⟨_, (decide ((l0.length : Int) > 500)), (by first | rfl | (simp; done) | (simp [*]; done)), H', ⟨by first | omega | exact Nat.le_refl _⟩, ⟨by repeat (first | (with_reducible first | exact HB.out | apply below_alloc | apply pw_below_drewN | apply below_drew1) | exact HB.out)⟩⟩
    · replace c5 := Bool.eq_false_iff.mpr c5
      subst c5
      have H1 : (lockgatelaw6_EntryReads.j0 k l0 false true) = some r := by rw [if_neg (show ¬ (false = true) by decide)] at H; exact H
      clear H
      have H := H1
      clear H1
      have H' := Aside0.mk H
      clear H
      go_wp2
      go_meet
      case rel => exact ⟨_, (true), (by first | rfl | (simp; done) | (simp [*]; done)), H', ⟨by first | omega | exact Nat.le_refl _⟩, ⟨by repeat (first | (with_reducible first | exact HB.out | apply below_alloc | apply pw_below_drewN | apply below_drew1) | exact HB.out)⟩⟩
  case rest =>
    clear HC3
    try clear p2
    try clear c5
    obtain ⟨kq, x17_2, rfl, HA, HJ2, HB⟩ := hcut
    cases kq with
    | zero => exact absurd HA.out (by simp [lockgatelaw6_EntryReads.j0])
    | succ kj2 =>
      have H := HA.out
      clear HA
      simp only [lockgatelaw6_EntryReads.j0] at H
      by_cases c6 : x17_2 = true
      · subst c6
        have H1 : (some t158) = some r := by rw [if_pos rfl] at H; exact H
        clear H
        have H := H1
        clear H1
        obtain rfl := Option.some.inj H
        go_wp2
        go_ret
        exact ⟨by first | rfl | (simp [errW_none, errW_some] <;> rfl) | (simp [*, errW_none, errW_some] <;> rfl), by repeat (first | (with_reducible first | exact HB.out | apply below_alloc | apply pw_below_drewN | apply below_drew1) | exact HB.out)⟩
      · replace c6 := Bool.eq_false_iff.mpr c6
        subst c6
        have H1 : (if ([] : List Int).length + l0.length < 140737488355328 then ((entry_Read.f kj2 (([] : List Int) ++ l0)).bind fun bt162 => ((lockgateref1_ReadEntry.f kj2 l0).bind fun bt166 => ((lockgatelaw6_num.f bt162.2.2).bind fun t170 => (if ((t170 == 0) != bt166.2.2) = true then (lockgatelaw6_EntryReads.j1 kj2 l0 bt166.2.2 true bt162.1 bt162.2.1) else (if bt166.2.2 = true then (lockgatelaw6_EntryReads.j1 kj2 l0 bt166.2.2 (!(bt162.1 == bt166.1) || (!(bt162.2.1.toList == bt166.2.1.toList))) bt162.1 bt162.2.1) else ((lockgatelaw6_num.f bt162.2.2).bind fun t171 => (if t171 = 5 then (lockgatelaw6_EntryReads.j1 kj2 l0 bt166.2.2 (!(bt162.1 == bt166.1) || (!(bt162.2.1.toList == bt166.2.1.toList))) bt162.1 bt162.2.1) else (lockgatelaw6_EntryReads.j1 kj2 l0 bt166.2.2 true bt162.1 bt162.2.1)))))))) else (none)) = some r := by rw [if_neg (show ¬ (false = true) by decide)] at H; exact H
        clear H
        have H := H1
        clear H1
        by_cases c7 : ([] : List Int).length + l0.length < 140737488355328
        · rw [if_pos c7] at H
          have LMc7 := Aside0.mk c7
          clear c7
          obtain ⟨y159, hy159⟩ : ∃ y_ : List Int, y_ = (([] : List Int) ++ l0) := ⟨_, rfl⟩
          replace H : ((entry_Read.f kj2 y159).bind fun bt162 => ((lockgateref1_ReadEntry.f kj2 l0).bind fun bt166 => ((lockgatelaw6_num.f bt162.2.2).bind fun t170 => (if ((t170 == 0) != bt166.2.2) = true then (lockgatelaw6_EntryReads.j1 kj2 l0 bt166.2.2 true bt162.1 bt162.2.1) else (if bt166.2.2 = true then (lockgatelaw6_EntryReads.j1 kj2 l0 bt166.2.2 (!(bt162.1 == bt166.1) || (!(bt162.2.1.toList == bt166.2.1.toList))) bt162.1 bt162.2.1) else ((lockgatelaw6_num.f bt162.2.2).bind fun t171 => (if t171 = 5 then (lockgatelaw6_EntryReads.j1 kj2 l0 bt166.2.2 (!(bt162.1 == bt166.1) || (!(bt162.2.1.toList == bt166.2.1.toList))) bt162.1 bt162.2.1) else (lockgatelaw6_EntryReads.j1 kj2 l0 bt166.2.2 true bt162.1 bt162.2.1)))))))) = some r := by first | (rw [hy159]; with_reducible exact H) | (have H2_ := (Option.bind_some _ _).symm.trans H; rw [hy159]; with_reducible exact H2_) | (have H2_ := (Option.bind_some _ _).symm.trans H; with_reducible exact H2_) | with_reducible exact H | (rw [hy159]; exact H) | exact H
          have Ny159 := Aside0.mk hy159
          clear hy159
          replace H := Option.bind_eq_some_iff.mp H
          obtain ⟨⟨t162, t163, t164⟩, A80, H⟩ := H
          replace H : ((lockgateref1_ReadEntry.f kj2 l0).bind fun bt166 => ((lockgatelaw6_num.f t164).bind fun t170 => (if ((t170 == 0) != bt166.2.2) = true then (lockgatelaw6_EntryReads.j1 kj2 l0 bt166.2.2 true t162 t163) else (if bt166.2.2 = true then (lockgatelaw6_EntryReads.j1 kj2 l0 bt166.2.2 (!(t162 == bt166.1) || (!(t163.toList == bt166.2.1.toList))) t162 t163) else ((lockgatelaw6_num.f t164).bind fun t171 => (if t171 = 5 then (lockgatelaw6_EntryReads.j1 kj2 l0 bt166.2.2 (!(t162 == bt166.1) || (!(t163.toList == bt166.2.1.toList))) t162 t163) else (lockgatelaw6_EntryReads.j1 kj2 l0 bt166.2.2 true t162 t163))))))) = some r := H
          have A8 := Aside0.mk A80
          clear A80
          replace H := Option.bind_eq_some_iff.mp H
          obtain ⟨⟨t166, t167, t168⟩, A90, H⟩ := H
          replace H : ((lockgatelaw6_num.f t164).bind fun t170 => (if ((t170 == 0) != t168) = true then (lockgatelaw6_EntryReads.j1 kj2 l0 t168 true t162 t163) else (if t168 = true then (lockgatelaw6_EntryReads.j1 kj2 l0 t168 (!(t162 == t166) || (!(t163.toList == t167.toList))) t162 t163) else ((lockgatelaw6_num.f t164).bind fun t171 => (if t171 = 5 then (lockgatelaw6_EntryReads.j1 kj2 l0 t168 (!(t162 == t166) || (!(t163.toList == t167.toList))) t162 t163) else (lockgatelaw6_EntryReads.j1 kj2 l0 t168 true t162 t163)))))) = some r := H
          have A9 := Aside0.mk A90
          clear A90
          have HC10 := Aside0.mk H
          clear H
          go_upto_region 6 with (first | ((with_reducible refine gate_builtin (b := .append) (xs := #[.const (.slice none 0 0), .tmp 20]) rfl ?_); (try (refine gate_guard (by rfl) ?_; dsimp only)); at_builtin; refine Kd.R_append_rows (Kd.int .u8) (w0 := w) w.heap.size rfl (.const (.slice none 0 0)) (.tmp 20) 23 5 (.int .u8 0) 1 rfl Try.underlying23 info5 rfl (by decide) (by omega) (.slice none 0 0) ([] : List Int) l0 _ _ _ (fun _ => True) (fun _ => False) rfl rfl ?aO ?aR (fun _ _ h => h) (fun _ h => h.elim) ?aF ?aB ?aS ?aL ?_; (case aR => repeat (first | exact (Kd.C_below HR0.out HB.out) | (with_reducible refine Kd.C_alloc ?_ _) | (with_reducible refine Kd.C_drewN ?_ _) | (with_reducible refine Kd.C_drew ?_))); (case aB => exact (by repeat (first | (with_reducible first | exact HB.out | apply below_alloc | apply pw_below_drewN | apply below_drew1) | exact HB.out))); (case aF => exact (fun _ _ => trivial)); (case aO => exact ((Kd.R_nil _ _ _ _ (fun _ => True)))); (case aS => exact (below_size (by repeat (first | (with_reducible first | exact HB.out | apply below_alloc | apply pw_below_drewN | apply below_drew1) | exact HB.out)))); (case aL => have := LMc7.out; omega); intro v160 w11 ho hb hg hat; rw [← Ny159.out] at ho; have n0_ := Aside0.mk (hb); have n1_ := Aside0.mk (ho); clear HB; have HB := n0_; have HO161 := n1_; clear n0_ n1_; clear ho hb hg hat; obtain ⟨Ao12, co12, eo12⟩ := Kd.R_slice HO161.out; subst eo12) | ((with_reducible refine gate_callee (f := 14) rfl ?_); refine goesL_ (some 22) rfl rfl Try.func14 (by kernel_rfl) rfl #[.slice Ao12 y159.length co12] rfl (by (try simp only [List.map_toArray, List.map_cons, List.map_nil]); first | done | rfl | (simp only [List.length_drop, List.length_take]; rfl)) ?_; (with_reducible refine (entry_Read.calls kj2 _ _ y159 t162 t163 t164 _ ?side1 ?side2 A8.out).mono ?_); (case side1 => repeat (first | exact (Kd.R_reads' HO161.out).2.2 | (with_reducible refine Kd.C_alloc ?_ _) | (with_reducible refine Kd.C_drewN ?_ _) | (with_reducible refine Kd.C_drew ?_))); (case side2 => exact (Kd.R_reads' HO161.out).2.1); rintro e w13 ⟨rfl, hb⟩; refine ⟨_, rfl, ?_⟩; have n0_ := Aside0.mk (Kd.R_below (by (with_reducible repeat (first | apply Kd.R_alloc | apply Kd.R_drewN | apply Kd.R_drew)); exact HO161.out) hb); have n1_ := Aside0.mk (below_step (by repeat (first | (with_reducible first | exact HB.out | apply below_alloc | apply pw_below_drewN | apply below_drew1) | exact HB.out)) hb); clear HO161; clear HB; have HO161 := n0_; have HB := n1_; clear n0_ n1_; (try clear hb); (try clear hb2); (try clear hk); (try clear hi)) | ((with_reducible refine gate_dst (N := 4) rfl ?_); (try (refine gate_guard (by rfl) ?_; dsimp only)); refine box_event ?hg (N := 4) ?hd (cs := #[.int .i64 0, .string (⟨#[]⟩ : ByteArray)]) (t := 28) ?hr ?_; (case hd => rfl); (case hg => rfl); (case hr => first | (go_simp; done) | (go_simp; rfl)); intro gb165 hg w14 hbox hb; have n0_ := Aside0.mk (Kd.R_below (by (with_reducible repeat (first | apply Kd.R_alloc | apply Kd.R_drewN | apply Kd.R_drew)); exact HO161.out) hb); have n1_ := Aside0.mk (below_step (by repeat (first | (with_reducible first | exact HB.out | apply below_alloc | apply pw_below_drewN | apply below_drew1) | exact HB.out)) hb); have n2_ := Aside0.mk (hbox); have n3_ := Aside0.mk ((by rw [hg]; exact (below_size (by repeat (first | (with_reducible first | exact HB.out | apply below_alloc | apply pw_below_drewN | apply below_drew1) | exact HB.out))) : w.heap.size ≤ gb165)); have n4_ := Aside0.mk ((by rw [hg]; exact (below_size (by repeat (first | (with_reducible first | exact HB.out | apply below_alloc | apply pw_below_drewN | apply below_drew1) | exact HB.out))) : w.heap.size ≤ gb165)); clear HO161; clear HB; have HO161 := n0_; have HB := n1_; have BK165 := n2_; have GW165 := n3_; have GE165 := n4_; clear n0_ n1_ n2_ n3_ n4_; clear hb hbox hg; have hcz15_0 : w14.cell? ⟨gb165, 0, none⟩ = some (.int .i64 0) := (blk_cell BK165.out 0).trans rfl; have hcz15_1 : w14.cell? ⟨gb165, 1, none⟩ = some (.string (⟨#[]⟩ : ByteArray)) := (blk_cell BK165.out 1).trans rfl; have hfz15_0 := blk_frozen BK165.out 0; have hfz15_1 := blk_frozen BK165.out 1) | ((with_reducible refine gate_callee (f := 15) rfl ?_); refine goesL_ (some 27) rfl rfl Try.func15 (by kernel_rfl) rfl #[.slice A0 l0.length c0] rfl (by (try simp only [List.map_toArray, List.map_cons, List.map_nil]); first | done | rfl | (simp only [List.length_drop, List.length_take]; rfl)) ?_; (with_reducible refine (lockgateref1_ReadEntry.calls kj2 _ _ l0 t166 t167 t168 _ ?side1 ?side2 A9.out).mono ?_); (case side1 => exact Kd.C_below HR0.out (by repeat (first | (with_reducible first | exact HB.out | apply below_alloc | apply pw_below_drewN | apply below_drew1 | refine below_set ?_ GE165.out) | exact HB.out))); (case side2 => exact HC0.out); rintro e w16 ⟨rfl, hb⟩; refine ⟨_, rfl, ?_⟩; have n0_ := Aside0.mk (Kd.R_below (by (with_reducible repeat (first | apply Kd.R_alloc | apply Kd.R_drewN | apply Kd.R_drew)); exact (Kd.R_mono (Kd.R_far (p := ⟨gb165, 1, none⟩) (Kd.R_far (p := ⟨gb165, 0, none⟩) (Kd.R_types HO161.out BK165.out (by decide)) (fun _ hk => hk.2) (.int .i64 t162)) (fun _ hk => hk.2) (.string t163)) (fun _ h_ => h_.1))) hb); have n1_ := Aside0.mk (blk_below (g := gb165) (o := .cells #[.int .i64 t162, .string t163] 28 (0, 0)) (by (with_reducible repeat (first | refine blk_drewN ?_ _ | refine blk_drew ?_ | refine blk_alloc ?_ _)); refine blk_put (cs := #[.int .i64 t162, .string (⟨#[]⟩ : ByteArray)]) ?_ 1 _ rfl; (with_reducible repeat (first | refine blk_drewN ?_ _ | refine blk_drew ?_ | refine blk_alloc ?_ _)); refine blk_put (cs := #[.int .i64 0, .string (⟨#[]⟩ : ByteArray)]) ?_ 0 _ rfl; (with_reducible repeat (first | refine blk_drewN ?_ _ | refine blk_drew ?_ | refine blk_alloc ?_ _)); exact BK165.out) hb); have n2_ := Aside0.mk (below_step (by repeat (first | (with_reducible first | exact HB.out | apply below_alloc | apply pw_below_drewN | apply below_drew1 | refine below_set ?_ GE165.out) | exact HB.out)) hb); clear HO161; clear BK165; clear HB; have HO161 := n0_; have BK165 := n1_; have HB := n2_; clear n0_ n1_ n2_; (try clear hb); (try clear hb2); (try clear hk); (try clear hi)) | ((with_reducible refine gate_dst (N := 6) rfl ?_); (try (refine gate_guard (by rfl) ?_; dsimp only)); refine box_event ?hg (N := 6) ?hd (cs := #[.int .i64 0, .string (⟨#[]⟩ : ByteArray)]) (t := 28) ?hr ?_; (case hd => rfl); (case hg => rfl); (case hr => first | (go_simp; done) | (go_simp; rfl)); intro gb169 hg w17 hbox hb; have n0_ := Aside0.mk (Kd.R_below (by (with_reducible repeat (first | apply Kd.R_alloc | apply Kd.R_drewN | apply Kd.R_drew)); exact HO161.out) hb); have n1_ := Aside0.mk (blk_below (g := gb165) (o := .cells #[.int .i64 t162, .string t163] 28 (0, 0)) (by (with_reducible repeat (first | refine blk_drewN ?_ _ | refine blk_drew ?_ | refine blk_alloc ?_ _)); exact BK165.out) hb); have n2_ := Aside0.mk (below_step (by repeat (first | (with_reducible first | exact HB.out | apply below_alloc | apply pw_below_drewN | apply below_drew1 | refine below_set ?_ GE165.out) | exact HB.out)) hb); have n3_ := Aside0.mk (hbox); have n4_ := Aside0.mk ((by rw [hg]; exact (below_size (by repeat (first | (with_reducible first | exact HB.out | apply below_alloc | apply pw_below_drewN | apply below_drew1 | refine below_set ?_ GE165.out) | exact HB.out))) : w.heap.size ≤ gb169)); have n5_ := Aside0.mk ((by rw [hg]; exact (below_size (by repeat (first | (with_reducible first | exact HB.out | apply below_alloc | apply pw_below_drewN | apply below_drew1 | refine below_set ?_ GE165.out) | exact HB.out))) : w.heap.size ≤ gb169)); have n6_ := Aside0.mk ((by rw [hg]; exact Nat.ne_of_lt (blk_lt (g := gb165) (o := .cells #[.int .i64 t162, .string t163] 28 (0, 0)) (by (with_reducible repeat (first | refine blk_drewN ?_ _ | refine blk_drew ?_ | refine blk_alloc ?_ _)); exact BK165.out)) : gb165 ≠ gb169)); have n7_ := Aside0.mk ((by rw [hg]; exact Nat.ne_of_gt (blk_lt (g := gb165) (o := .cells #[.int .i64 t162, .string t163] 28 (0, 0)) (by (with_reducible repeat (first | refine blk_drewN ?_ _ | refine blk_drew ?_ | refine blk_alloc ?_ _)); exact BK165.out)) : gb169 ≠ gb165)); clear HO161; clear BK165; clear HB; have HO161 := n0_; have BK165 := n1_; have HB := n2_; have BK169 := n3_; have GW169 := n4_; have GE169 := n5_; have NB165_169 := n6_; have NB169_165 := n7_; clear n0_ n1_ n2_ n3_ n4_ n5_ n6_ n7_; clear hb hbox hg; have hnb18 := NB169_165.out; have hnc18 := NB165_169.out; have hcz19_0 : w17.cell? ⟨gb169, 0, none⟩ = some (.int .i64 0) := (blk_cell BK169.out 0).trans rfl; have hcz19_1 : w17.cell? ⟨gb169, 1, none⟩ = some (.string (⟨#[]⟩ : ByteArray)) := (blk_cell BK169.out 1).trans rfl; have hfz19_0 := blk_frozen BK169.out 0; have hfz19_1 := blk_frozen BK169.out 1))
          (try simp only [Act.put, List.setIfInBounds_toArray, List.set_cons_zero, List.set_cons_succ])
          go_cut [48] (fun v48 wc => ∃ (kq : Nat) (x48_9 : Bool), v48 = .bool x48_9 ∧ Aside0 (lockgatelaw6_EntryReads.j1 kq l0 t168 x48_9 t162 t163 = some r) ∧ Aside0 (kq ≤ kj2) ∧ Aside0 (wc.heap[gb165]? = some (.cells #[.int .i64 t162, .string t163] 28 (0, 0))) ∧ Aside0 (wc.heap[gb169]? = some (.cells #[.int .i64 t166, .string t167] 28 (0, 0))) ∧ Aside0 (Below w.heap.size w wc))
          case first =>
            have H := HC10.out
            clear HC10
            replace H := Option.bind_eq_some_iff.mp H
            obtain ⟨t170, A200, H⟩ := H
            replace H : (if ((t170 == 0) != t168) = true then (lockgatelaw6_EntryReads.j1 kj2 l0 t168 true t162 t163) else (if t168 = true then (lockgatelaw6_EntryReads.j1 kj2 l0 t168 (!(t162 == t166) || (!(t163.toList == t167.toList))) t162 t163) else ((lockgatelaw6_num.f t164).bind fun t171 => (if t171 = 5 then (lockgatelaw6_EntryReads.j1 kj2 l0 t168 (!(t162 == t166) || (!(t163.toList == t167.toList))) t162 t163) else (lockgatelaw6_EntryReads.j1 kj2 l0 t168 true t162 t163))))) = some r := H
            have A20 := Aside0.mk A200
            clear A200
            by_cases c21 : ((t170 == 0) != t168) = true
            · rw [if_pos c21] at H
              have c21b0 : ((t170 == 0) != t168) = true := c21
              (try (have c21b1 : decide ((t170 == 0) = t168) = false := by simpa using c21))
              (try (have c21b2 : ((t170 == 0) == t168) = false := by simpa using c21))
              (try (have c21b3 : ¬ ((t170 == 0) = t168) := by simpa using c21))
              clear c21
              (first | rw [c21b0] | (simp only [i64_w, i32_w]; rw [c21b0]) | skip)
              have H' := Aside0.mk H
              clear H
              go_wp2_with (first | ((with_reducible refine gate_callee (f := 11) rfl ?_); refine goesL_ (some 31) rfl rfl Try.func11 (by kernel_rfl) rfl #[.int .i64 t164] rfl (by (try simp only [List.map_toArray, List.map_cons, List.map_nil]); first | done | rfl | (simp only [List.length_drop, List.length_take]; rfl)) ?_; (with_reducible refine (lockgatelaw6_num.calls t164 t170 _ A20.out).mono ?_); rintro e w' ⟨rfl, ⟨nd, rfl⟩⟩; refine ⟨_, rfl, ?_⟩))
              go_meet
              case rel => exact ⟨_, (true), (by first | rfl | (simp; done) | (simp [*]; done)), H', ⟨by have := HJ2.out; first | omega | exact Nat.le_refl _⟩, ⟨by (with_reducible repeat (first | refine blk_drewN ?_ _ | refine blk_drew ?_ | refine blk_alloc ?_ _)); refine blk_far ?_ NB165_169.out _; (with_reducible repeat (first | refine blk_drewN ?_ _ | refine blk_drew ?_ | refine blk_alloc ?_ _)); refine blk_far ?_ NB165_169.out _; (with_reducible repeat (first | refine blk_drewN ?_ _ | refine blk_drew ?_ | refine blk_alloc ?_ _)); exact BK165.out⟩, ⟨by (with_reducible repeat (first | refine blk_drewN ?_ _ | refine blk_drew ?_ | refine blk_alloc ?_ _)); refine blk_put (cs := #[.int .i64 t166, .string (⟨#[]⟩ : ByteArray)]) ?_ 1 _ rfl; (with_reducible repeat (first | refine blk_drewN ?_ _ | refine blk_drew ?_ | refine blk_alloc ?_ _)); refine blk_put (cs := #[.int .i64 0, .string (⟨#[]⟩ : ByteArray)]) ?_ 0 _ rfl; (with_reducible repeat (first | refine blk_drewN ?_ _ | refine blk_drew ?_ | refine blk_alloc ?_ _)); exact BK169.out⟩, ⟨by repeat (first | (with_reducible first | exact HB.out | apply below_alloc | apply pw_below_drewN | apply below_drew1 | refine below_set ?_ GE165.out | refine below_set ?_ GE169.out) | exact HB.out)⟩⟩
            · rw [if_neg c21] at H
              have c21b0 : ((t170 == 0) != t168) = false := by simpa using c21
              (try (have c21b1 : decide ((t170 == 0) = t168) = true := by simpa using c21))
              (try (have c21b2 : ((t170 == 0) == t168) = true := by simpa using c21))
              clear c21
              (first | rw [c21b0] | (simp only [i64_w, i32_w]; rw [c21b0]) | skip)
              by_cases c22 : t168 = true
              · subst c22
                have H1 : (lockgatelaw6_EntryReads.j1 kj2 l0 true (!(t162 == t166) || (!(t163.toList == t167.toList))) t162 t163) = some r := by rw [if_pos rfl] at H; exact H
                clear H
                have H := H1
                clear H1
                have H' := Aside0.mk H
                clear H
                go_wp2_with (first | ((with_reducible refine gate_callee (f := 11) rfl ?_); refine goesL_ (some 31) rfl rfl Try.func11 (by kernel_rfl) rfl #[.int .i64 t164] rfl (by (try simp only [List.map_toArray, List.map_cons, List.map_nil]); first | done | rfl | (simp only [List.length_drop, List.length_take]; rfl)) ?_; (with_reducible refine (lockgatelaw6_num.calls t164 t170 _ A20.out).mono ?_); rintro e w' ⟨rfl, ⟨nd, rfl⟩⟩; refine ⟨_, rfl, ?_⟩; have hnb23 := NB165_169.out; have hnc23 := NB169_165.out; have hcz24_0 : w17.cell? ⟨gb165, 0, none⟩ = some (.int .i64 t162) := (blk_cell BK165.out 0).trans rfl; have hcz24_1 : w17.cell? ⟨gb165, 1, none⟩ = some (.string t163) := (blk_cell BK165.out 1).trans rfl; have hfz24_0 := blk_frozen BK165.out 0; have hfz24_1 := blk_frozen BK165.out 1; have hcz25_0 : w17.cell? ⟨gb169, 0, none⟩ = some (.int .i64 0) := (blk_cell BK169.out 0).trans rfl; have hcz25_1 : w17.cell? ⟨gb169, 1, none⟩ = some (.string (⟨#[]⟩ : ByteArray)) := (blk_cell BK169.out 1).trans rfl; have hfz25_0 := blk_frozen BK169.out 0; have hfz25_1 := blk_frozen BK169.out 1))
                go_meet
                case rel => exact ⟨_, ((!(t162 == t166) || (!(t163.toList == t167.toList)))), (by first | rfl | (simp; done) | (simp [*]; done)), H', ⟨by have := HJ2.out; first | omega | exact Nat.le_refl _⟩, ⟨by (with_reducible repeat (first | refine blk_drewN ?_ _ | refine blk_drew ?_ | refine blk_alloc ?_ _)); refine blk_far ?_ NB165_169.out _; (with_reducible repeat (first | refine blk_drewN ?_ _ | refine blk_drew ?_ | refine blk_alloc ?_ _)); refine blk_far ?_ NB165_169.out _; (with_reducible repeat (first | refine blk_drewN ?_ _ | refine blk_drew ?_ | refine blk_alloc ?_ _)); exact BK165.out⟩, ⟨by (with_reducible repeat (first | refine blk_drewN ?_ _ | refine blk_drew ?_ | refine blk_alloc ?_ _)); refine blk_put (cs := #[.int .i64 t166, .string (⟨#[]⟩ : ByteArray)]) ?_ 1 _ rfl; (with_reducible repeat (first | refine blk_drewN ?_ _ | refine blk_drew ?_ | refine blk_alloc ?_ _)); refine blk_put (cs := #[.int .i64 0, .string (⟨#[]⟩ : ByteArray)]) ?_ 0 _ rfl; (with_reducible repeat (first | refine blk_drewN ?_ _ | refine blk_drew ?_ | refine blk_alloc ?_ _)); exact BK169.out⟩, ⟨by repeat (first | (with_reducible first | exact HB.out | apply below_alloc | apply pw_below_drewN | apply below_drew1 | refine below_set ?_ GE165.out | refine below_set ?_ GE169.out) | exact HB.out)⟩⟩
              · replace c22 := Bool.eq_false_iff.mpr c22
                subst c22
                have H1 : ((lockgatelaw6_num.f t164).bind fun t171 => (if t171 = 5 then (lockgatelaw6_EntryReads.j1 kj2 l0 false (!(t162 == t166) || (!(t163.toList == t167.toList))) t162 t163) else (lockgatelaw6_EntryReads.j1 kj2 l0 false true t162 t163))) = some r := by rw [if_neg (show ¬ (false = true) by decide)] at H; exact H
                clear H
                have H := H1
                clear H1
                replace H := Option.bind_eq_some_iff.mp H
                obtain ⟨t171, A260, H⟩ := H
                replace H : (if t171 = 5 then (lockgatelaw6_EntryReads.j1 kj2 l0 false (!(t162 == t166) || (!(t163.toList == t167.toList))) t162 t163) else (lockgatelaw6_EntryReads.j1 kj2 l0 false true t162 t163)) = some r := H
                have A26 := Aside0.mk A260
                clear A260
                by_cases c27 : t171 = 5
                · rw [if_pos c27] at H
                  have c27b0 : (t171 == 5) = true := beq_iff_eq.mpr c27
                  have c27b1 : (t171 != 5) = false := bne_eq_false_iff_eq.mpr c27
                  clear c27
                  have H' := Aside0.mk H
                  clear H
                  go_wp2_with (first | ((with_reducible refine gate_callee (f := 11) rfl ?_); refine goesL_ (some 31) rfl rfl Try.func11 (by kernel_rfl) rfl #[.int .i64 t164] rfl (by (try simp only [List.map_toArray, List.map_cons, List.map_nil]); first | done | rfl | (simp only [List.length_drop, List.length_take]; rfl)) ?_; (with_reducible refine (lockgatelaw6_num.calls t164 t170 _ A20.out).mono ?_); rintro e w' ⟨rfl, ⟨nd, rfl⟩⟩; refine ⟨_, rfl, ?_⟩) | (go_at_call 11; (with_reducible refine (lockgatelaw6_num.calls t164 t171 _ A26.out).mono ?_); rintro e w' ⟨rfl, ⟨nd, rfl⟩⟩; have hnb28 := NB165_169.out; have hnc28 := NB169_165.out; have hcz29_0 : w17.cell? ⟨gb165, 0, none⟩ = some (.int .i64 t162) := (blk_cell BK165.out 0).trans rfl; have hcz29_1 : w17.cell? ⟨gb165, 1, none⟩ = some (.string t163) := (blk_cell BK165.out 1).trans rfl; have hfz29_0 := blk_frozen BK165.out 0; have hfz29_1 := blk_frozen BK165.out 1; have hcz30_0 : w17.cell? ⟨gb169, 0, none⟩ = some (.int .i64 0) := (blk_cell BK169.out 0).trans rfl; have hcz30_1 : w17.cell? ⟨gb169, 1, none⟩ = some (.string (⟨#[]⟩ : ByteArray)) := (blk_cell BK169.out 1).trans rfl; have hfz30_0 := blk_frozen BK169.out 0; have hfz30_1 := blk_frozen BK169.out 1))
                  go_meet
                  case rel => exact ⟨_, ((!(t162 == t166) || (!(t163.toList == t167.toList)))), (by first | rfl | (simp; done) | (simp [*]; done)), H', ⟨by have := HJ2.out; first | omega | exact Nat.le_refl _⟩, ⟨by (with_reducible repeat (first | refine blk_drewN ?_ _ | refine blk_drew ?_ | refine blk_alloc ?_ _)); refine blk_far ?_ NB165_169.out _; (with_reducible repeat (first | refine blk_drewN ?_ _ | refine blk_drew ?_ | refine blk_alloc ?_ _)); refine blk_far ?_ NB165_169.out _; (with_reducible repeat (first | refine blk_drewN ?_ _ | refine blk_drew ?_ | refine blk_alloc ?_ _)); exact BK165.out⟩, ⟨by (with_reducible repeat (first | refine blk_drewN ?_ _ | refine blk_drew ?_ | refine blk_alloc ?_ _)); refine blk_put (cs := #[.int .i64 t166, .string (⟨#[]⟩ : ByteArray)]) ?_ 1 _ rfl; (with_reducible repeat (first | refine blk_drewN ?_ _ | refine blk_drew ?_ | refine blk_alloc ?_ _)); refine blk_put (cs := #[.int .i64 0, .string (⟨#[]⟩ : ByteArray)]) ?_ 0 _ rfl; (with_reducible repeat (first | refine blk_drewN ?_ _ | refine blk_drew ?_ | refine blk_alloc ?_ _)); exact BK169.out⟩, ⟨by repeat (first | (with_reducible first | exact HB.out | apply below_alloc | apply pw_below_drewN | apply below_drew1 | refine below_set ?_ GE165.out | refine below_set ?_ GE169.out) | exact HB.out)⟩⟩
                · rw [if_neg c27] at H
                  have c27b0 : (t171 == 5) = false := beq_eq_false_iff_ne.mpr c27
                  have c27b1 : (t171 != 5) = true := bne_iff_ne.mpr c27
                  have H' := Aside0.mk H
                  clear H
                  go_wp2_with (first | ((with_reducible refine gate_callee (f := 11) rfl ?_); refine goesL_ (some 31) rfl rfl Try.func11 (by kernel_rfl) rfl #[.int .i64 t164] rfl (by (try simp only [List.map_toArray, List.map_cons, List.map_nil]); first | done | rfl | (simp only [List.length_drop, List.length_take]; rfl)) ?_; (with_reducible refine (lockgatelaw6_num.calls t164 t170 _ A20.out).mono ?_); rintro e w' ⟨rfl, ⟨nd, rfl⟩⟩; refine ⟨_, rfl, ?_⟩) | (go_at_call 11; (with_reducible refine (lockgatelaw6_num.calls t164 t171 _ A26.out).mono ?_); rintro e w' ⟨rfl, ⟨nd, rfl⟩⟩))
                  go_meet
                  case rel => exact ⟨_, (true), (by first | rfl | (simp; done) | (simp [*]; done)), H', ⟨by have := HJ2.out; first | omega | exact Nat.le_refl _⟩, ⟨by (with_reducible repeat (first | refine blk_drewN ?_ _ | refine blk_drew ?_ | refine blk_alloc ?_ _)); refine blk_far ?_ NB165_169.out _; (with_reducible repeat (first | refine blk_drewN ?_ _ | refine blk_drew ?_ | refine blk_alloc ?_ _)); refine blk_far ?_ NB165_169.out _; (with_reducible repeat (first | refine blk_drewN ?_ _ | refine blk_drew ?_ | refine blk_alloc ?_ _)); exact BK165.out⟩, ⟨by (with_reducible repeat (first | refine blk_drewN ?_ _ | refine blk_drew ?_ | refine blk_alloc ?_ _)); refine blk_put (cs := #[.int .i64 t166, .string (⟨#[]⟩ : ByteArray)]) ?_ 1 _ rfl; (with_reducible repeat (first | refine blk_drewN ?_ _ | refine blk_drew ?_ | refine blk_alloc ?_ _)); refine blk_put (cs := #[.int .i64 0, .string (⟨#[]⟩ : ByteArray)]) ?_ 0 _ rfl; (with_reducible repeat (first | refine blk_drewN ?_ _ | refine blk_drew ?_ | refine blk_alloc ?_ _)); exact BK169.out⟩, ⟨by repeat (first | (with_reducible first | exact HB.out | apply below_alloc | apply pw_below_drewN | apply below_drew1 | refine below_set ?_ GE165.out | refine below_set ?_ GE169.out) | exact HB.out)⟩⟩
          case rest =>
            clear HC10
            try clear c1
            try clear c2
            try clear p2
            try clear c5
            try clear c6
            try clear c7
            try clear c8
            try clear c11
            try clear c14
            try clear c15
            try clear c18
            try clear c21
            try clear c21b0
            try clear c21b1
            try clear c21b2
            try clear c22
            try clear c23
            try clear c27
            try clear c27b0
            try clear c27b1
            try clear c28
            try clear hcz15_0
            try clear hcz15_1
            try clear hcz19_0
            try clear hcz19_1
            try clear hcz24_0
            try clear hcz24_1
            try clear hcz25_0
            try clear hcz25_1
            try clear hcz29_0
            try clear hcz29_1
            try clear hcz30_0
            try clear hcz30_1
            try clear hfz15_0
            try clear hfz15_1
            try clear hfz19_0
            try clear hfz19_1
            try clear hfz24_0
            try clear hfz24_1
            try clear hfz25_0
            try clear hfz25_1
            try clear hfz29_0
            try clear hfz29_1
            try clear hfz30_0
            try clear hfz30_1
            try clear p2
            obtain ⟨kq, x48_9, rfl, HA, HJ9, BK165, BK169, HB⟩ := hcut
            cases kq with
            | zero => exact absurd HA.out (by simp [lockgatelaw6_EntryReads.j1])
            | succ kj9 =>
              have H := HA.out
              clear HA
              simp only [lockgatelaw6_EntryReads.j1] at H
              by_cases c31 : x48_9 = true
              · subst c31
                have H1 : (some false) = some r := by rw [if_pos rfl] at H; exact H
                clear H
                have H := H1
                clear H1
                obtain rfl := Option.some.inj H
                go_wp2
                go_ret
                exact ⟨by first | rfl | (simp [errW_none, errW_some] <;> rfl) | (simp [*, errW_none, errW_some] <;> rfl), by repeat (first | (with_reducible first | exact HB.out | apply below_alloc | apply pw_below_drewN | apply below_drew1 | refine below_set ?_ GE165.out | refine below_set ?_ GE169.out) | exact HB.out)⟩
              · replace c31 := Bool.eq_false_iff.mpr c31
                subst c31
                have H1 : (if t168 = true then ((entry_Pack.f t162 t163).bind fun bt172 => ((lockgatelaw6_num.f bt172.2).bind fun t176 => (if t176 = 0 then (some ((strOfNums bt172.1).toList == (strOfNums l0).toList)) else (some false)))) else (some true)) = some r := by rw [if_neg (show ¬ (false = true) by decide)] at H; exact H
                clear H
                have H := H1
                clear H1
                by_cases c32 : t168 = true
                · subst c32
                  have H1 : ((entry_Pack.f t162 t163).bind fun bt172 => ((lockgatelaw6_num.f bt172.2).bind fun t176 => (if t176 = 0 then (some ((strOfNums bt172.1).toList == (strOfNums l0).toList)) else (some false)))) = some r := by rw [if_pos rfl] at H; exact H
                  clear H
                  have H := H1
                  clear H1
                  replace H := Option.bind_eq_some_iff.mp H
                  obtain ⟨⟨t172, t175⟩, A330, H⟩ := H
                  replace H : ((lockgatelaw6_num.f t175).bind fun t176 => (if t176 = 0 then (some ((strOfNums t172).toList == (strOfNums l0).toList)) else (some false))) = some r := H
                  have A33 := Aside0.mk A330
                  clear A330
                  replace H := Option.bind_eq_some_iff.mp H
                  obtain ⟨t176, A340, H⟩ := H
                  replace H : (if t176 = 0 then (some ((strOfNums t172).toList == (strOfNums l0).toList)) else (some false)) = some r := H
                  have A34 := Aside0.mk A340
                  clear A340
                  by_cases c35 : t176 = 0
                  · rw [if_pos c35] at H
                    have c35b0 : (t176 == 0) = true := beq_iff_eq.mpr c35
                    have c35b1 : (t176 != 0) = false := bne_eq_false_iff_eq.mpr c35
                    clear c35
                    obtain rfl := Option.some.inj H
                    have hnb36 := NB165_169.out
                    have hnc36 := NB169_165.out
                    have hcz37_0 : wc.cell? ⟨gb165, 0, none⟩ = some (.int .i64 t162) := (blk_cell BK165.out 0).trans rfl
                    have hcz37_1 : wc.cell? ⟨gb165, 1, none⟩ = some (.string t163) := (blk_cell BK165.out 1).trans rfl
                    have hfz37_0 := blk_frozen BK165.out 0
                    have hfz37_1 := blk_frozen BK165.out 1
                    go_wp2_with (first | ((with_reducible refine gate_callee (f := 9) rfl ?_); refine goesL_ (some 53) rfl rfl Try.func9 (by kernel_rfl) rfl #[.agg #[.int .i64 t162, .string t163]] rfl (by (try simp only [List.map_toArray, List.map_cons, List.map_nil]); first | done | rfl | (simp only [List.length_drop, List.length_take]; rfl)) ?_; (with_reducible refine (entry_Pack.calls t162 t163 t172 t175 _ A33.out).mono ?_); rintro e w38 ⟨v173, rfl, ho0, hb⟩; refine ⟨_, rfl, ?_⟩; have n0_ := Aside0.mk (Kd.R_lower ho0 (below_size (by repeat (first | (with_reducible first | exact HB.out | apply below_alloc | apply pw_below_drewN | apply below_drew1 | refine below_set ?_ GE165.out | refine below_set ?_ GE169.out) | exact HB.out)))); have n1_ := Aside0.mk (blk_below (g := gb165) (o := .cells #[.int .i64 t162, .string t163] 28 (0, 0)) (by (with_reducible repeat (first | refine blk_drewN ?_ _ | refine blk_drew ?_ | refine blk_alloc ?_ _)); exact BK165.out) hb); have n2_ := Aside0.mk (blk_below (g := gb169) (o := .cells #[.int .i64 t166, .string t167] 28 (0, 0)) (by (with_reducible repeat (first | refine blk_drewN ?_ _ | refine blk_drew ?_ | refine blk_alloc ?_ _)); exact BK169.out) hb); have n3_ := Aside0.mk (below_step (by repeat (first | (with_reducible first | exact HB.out | apply below_alloc | apply pw_below_drewN | apply below_drew1 | refine below_set ?_ GE165.out | refine below_set ?_ GE169.out) | exact HB.out)) hb); clear BK165; clear BK169; clear HB; have HO174 := n0_; have BK165 := n1_; have BK169 := n2_; have HB := n3_; clear n0_ n1_ n2_ n3_; (try clear hb); (try clear hb2); (try clear hk); (try clear hi); (try clear ho0)) | ((with_reducible refine gate_callee (f := 11) rfl ?_); refine goesL_ (some 57) rfl rfl Try.func11 (by kernel_rfl) rfl #[.int .i64 t175] rfl (by (try simp only [List.map_toArray, List.map_cons, List.map_nil]); first | done | rfl | (simp only [List.length_drop, List.length_take]; rfl)) ?_; (with_reducible refine (lockgatelaw6_num.calls t175 t176 _ A34.out).mono ?_); rintro e w' ⟨rfl, ⟨nd, rfl⟩⟩; refine ⟨_, rfl, ?_⟩; have hcv39 := own_string (P := Try.prog) Try.underlying23 Try.underlying5 Try.underlying9 (Kd.own_of_R (Kd.R_drewN HO174.out nd)); have hcv40 := Kd.C_string (P := Try.prog) (A := A0) (c := c0) Try.underlying23 Try.underlying5 Try.underlying9 (Kd.C_drewN (Kd.C_below HR0.out HB.out) nd)))
                    go_ret
                    exact ⟨by first | rfl | (simp [errW_none, errW_some] <;> rfl) | (simp [*, errW_none, errW_some] <;> rfl), by repeat (first | (with_reducible first | exact HB.out | apply below_alloc | apply pw_below_drewN | apply below_drew1 | refine below_set ?_ GE165.out | refine below_set ?_ GE169.out) | exact HB.out)⟩
                  · rw [if_neg c35] at H
                    have c35b0 : (t176 == 0) = false := beq_eq_false_iff_ne.mpr c35
                    have c35b1 : (t176 != 0) = true := bne_iff_ne.mpr c35
                    obtain rfl := Option.some.inj H
                    have hnb41 := NB165_169.out
                    have hnc41 := NB169_165.out
                    have hcz42_0 : wc.cell? ⟨gb165, 0, none⟩ = some (.int .i64 t162) := (blk_cell BK165.out 0).trans rfl
                    have hcz42_1 : wc.cell? ⟨gb165, 1, none⟩ = some (.string t163) := (blk_cell BK165.out 1).trans rfl
                    have hfz42_0 := blk_frozen BK165.out 0
                    have hfz42_1 := blk_frozen BK165.out 1
                    go_wp2_with (first | ((with_reducible refine gate_callee (f := 9) rfl ?_); refine goesL_ (some 53) rfl rfl Try.func9 (by kernel_rfl) rfl #[.agg #[.int .i64 t162, .string t163]] rfl (by (try simp only [List.map_toArray, List.map_cons, List.map_nil]); first | done | rfl | (simp only [List.length_drop, List.length_take]; rfl)) ?_; (with_reducible refine (entry_Pack.calls t162 t163 t172 t175 _ A33.out).mono ?_); rintro e w43 ⟨v173, rfl, ho0, hb⟩; refine ⟨_, rfl, ?_⟩; have n0_ := Aside0.mk (Kd.R_lower ho0 (below_size (by repeat (first | (with_reducible first | exact HB.out | apply below_alloc | apply pw_below_drewN | apply below_drew1 | refine below_set ?_ GE165.out | refine below_set ?_ GE169.out) | exact HB.out)))); have n1_ := Aside0.mk (blk_below (g := gb165) (o := .cells #[.int .i64 t162, .string t163] 28 (0, 0)) (by (with_reducible repeat (first | refine blk_drewN ?_ _ | refine blk_drew ?_ | refine blk_alloc ?_ _)); exact BK165.out) hb); have n2_ := Aside0.mk (blk_below (g := gb169) (o := .cells #[.int .i64 t166, .string t167] 28 (0, 0)) (by (with_reducible repeat (first | refine blk_drewN ?_ _ | refine blk_drew ?_ | refine blk_alloc ?_ _)); exact BK169.out) hb); have n3_ := Aside0.mk (below_step (by repeat (first | (with_reducible first | exact HB.out | apply below_alloc | apply pw_below_drewN | apply below_drew1 | refine below_set ?_ GE165.out | refine below_set ?_ GE169.out) | exact HB.out)) hb); clear BK165; clear BK169; clear HB; have HO174 := n0_; have BK165 := n1_; have BK169 := n2_; have HB := n3_; clear n0_ n1_ n2_ n3_; (try clear hb); (try clear hb2); (try clear hk); (try clear hi); (try clear ho0)) | ((with_reducible refine gate_callee (f := 11) rfl ?_); refine goesL_ (some 57) rfl rfl Try.func11 (by kernel_rfl) rfl #[.int .i64 t175] rfl (by (try simp only [List.map_toArray, List.map_cons, List.map_nil]); first | done | rfl | (simp only [List.length_drop, List.length_take]; rfl)) ?_; (with_reducible refine (lockgatelaw6_num.calls t175 t176 _ A34.out).mono ?_); rintro e w' ⟨rfl, ⟨nd, rfl⟩⟩; refine ⟨_, rfl, ?_⟩))
                    go_ret
                    exact ⟨by first | rfl | (simp [errW_none, errW_some] <;> rfl) | (simp [*, errW_none, errW_some] <;> rfl), by repeat (first | (with_reducible first | exact HB.out | apply below_alloc | apply pw_below_drewN | apply below_drew1 | refine below_set ?_ GE165.out | refine below_set ?_ GE169.out) | exact HB.out)⟩
                · replace c32 := Bool.eq_false_iff.mpr c32
                  subst c32
                  have H1 : (some true) = some r := by rw [if_neg (show ¬ (false = true) by decide)] at H; exact H
                  clear H
                  have H := H1
                  clear H1
                  obtain rfl := Option.some.inj H
                  go_wp2
                  go_ret
                  exact ⟨by first | rfl | (simp [errW_none, errW_some] <;> rfl) | (simp [*, errW_none, errW_some] <;> rfl), by repeat (first | (with_reducible first | exact HB.out | apply below_alloc | apply pw_below_drewN | apply below_drew1 | refine below_set ?_ GE165.out | refine below_set ?_ GE169.out) | exact HB.out)⟩
        · rw [if_neg c7] at H
          exact absurd H (by simp)

/-- THE ONE PURE STATEMENT of lockgatelaw6_EntryReads: yours. -/
def lockgatelaw6_EntryReads.Pure : Prop := ∀ (l0 : List Int), l0.length ≤ maxLen → l0.length * 1 ≤ 140737488351232 → (∀ x ∈ l0, (Lit.int .u8 x).wf = true) → ∃ k, lockgatelaw6_EntryReads.f k l0 = some true
theorem lockgatelaw6_EntryReads.walk (P : lockgatelaw6_EntryReads.Pure) (a0 : Option Addr) (len0 cap0 : Nat) (z0 : List Int) (w : World) (w0 : (a0 = none ∧ len0 = 0 ∧ cap0 = 0 ∧ z0 = []) ∨ ∃ x, a0 = some x ∧ len0 ≤ cap0 ∧ cap0 ≤ maxLen ∧ z0.length = cap0 ∧ (∀ i, i < z0.length → w.cell? (x.add i) = some (.int .u8 (z0.getD i 0))) ∧ ∀ n ∈ z0, (Lit.int .u8 n).wf = true) (y0 : len0 * 1 ≤ 140737488351232) :
    Calls Try.prog 5 #[.slice a0 len0 cap0] w fun e w' => e = .returned (.bool true) ∧ Below w.heap.size w w' := by
  obtain ⟨l0, rfl, hr0, hm0, hw0, hc0⟩ := ReadsInt.ofRowC w0
  obtain ⟨k, h⟩ := P l0 hm0 y0 hw0
  refine (lockgatelaw6_EntryReads.calls k _ _ l0 true w (Kd.C_of_reads (d := (0 : Int)) (h1 := fun _ => rfl) hr0) hc0 h).mono ?_
  rintro e w' ⟨rfl, hd⟩
  exact ⟨rfl, hd⟩

end Go.Proofs.Ythhhklihggpldaa.PEntryReads
