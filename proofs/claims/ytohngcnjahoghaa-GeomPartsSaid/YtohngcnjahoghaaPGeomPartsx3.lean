-- written by the session's program wip/print/patch.py (a turned copy of the print) over contracts that the session proved by hand
import Derived.Test.YtohngcnjahoghaaPGeomPartsx0
import Derived.Test.YtohngcnjahoghaaPGeomPartsx1
import Derived.Test.YtohngcnjahoghaaPGeomPartsx2
namespace Go.Proofs.Ytohngcnjahoghaa.PGeomParts
open Go.Proofs.Ytohngcnjahoghaa.Given
open Go.RowKit Go.Proofs.YtohngcnjahoghaaW.PrintWords Go.Proofs.YtohngcnjahoghaaW.PrintLast Go.Proofs.YtohngcnjahoghaaW.PrintMore
attribute [local go_sem] max2_int min2_int max_two min_two max_three min_three max_four min_four   -- for this text's walks alone
set_option linter.unusedVariables false
set_option linter.unusedSimpArgs false

/-! ### lockgatelaw3_GeomParts: function 6 -/
mutual
def lockgatelaw3_GeomParts.j0 : Nat → Bool → Bool → Int → Int → Int → Option (Bool)
  | 0, _, _, _, _, _ => none
  | k + 1, x3, x37, x139000, x139001, x139002 => if x37 = true then (some x3) else ((geom_Total.f x139000 x139001 x139002).bind fun t141 => (if 0 ≤ t141 then (if (t141 : Int).toNat ≤ 35184372088832 then (lockgatelaw3_GeomParts.l0 k (List.replicate (t141 : Int).toNat 0) 0 x139000 x139001 x139002) else (none)) else (none)))
def lockgatelaw3_GeomParts.l0 : Nat → List Int → Int → Int → Int → Int → Option (Bool)
  | 0, _, _, _, _, _ => none
  | k + 1, x5, x6, x139000, x139001, x139002 => if x6 < x139000 then ((geom_Head.f k x139000 x139001 x139002 x6).bind fun bt145 => (if bt145.2 = true then (if bt145.1 < 1 then (some false) else (if bt145.1 ≥ (x5.length : Int) then (some false) else (if 0 ≤ bt145.1 then (if bt145.1 < (x5.length : Int) then (if (rd x5 bt145.1) = 0 then (lockgatelaw3_GeomParts.l0 k (x5.set (bt145.1 : Int).toNat 1) (wrap64 (x6 + 1)) x139000 x139001 x139002) else (some false)) else (none)) else (none)))) else (some false))) else (lockgatelaw3_GeomParts.l1 k x5 1 x139000 x139001 x139002)
def lockgatelaw3_GeomParts.l1 : Nat → List Int → Int → Int → Int → Int → Option (Bool)
  | 0, _, _, _, _, _ => none
  | k + 1, x5, x9, x139000, x139001, x139002 => (geom_Inodes.f x139000 x139001 x139002).bind fun t149 => (if x9 ≤ t149 then ((geom_InodeAt.f k x139000 x139001 x139002 x9).bind fun bt150 => ((geom_Group.f x139000 x139001 x139002 x9).bind fun bt153 => (if bt150.2.2 = true then (if bt153.2.2 = true then (if bt150.1 < 1 then (some false) else (if bt150.1 ≥ (x5.length : Int) then (some false) else (if 0 ≤ bt150.1 then (if bt150.1 < (x5.length : Int) then (if (rd x5 bt150.1) = 1 then (some false) else (if bt150.2.1 = (wrap64 ((Int.tmod (wrap64 (x9 - 1)) 16) * 64)) then (if (wrap64 ((wrap64 ((wrap64 (bt153.1 * 16)) * x139001)) + bt153.2.1)) = (wrap64 (x9 - 1)) then (lockgatelaw3_GeomParts.l1 k (x5.set (bt150.1 : Int).toNat 2) (wrap64 (x9 + 1)) x139000 x139001 x139002) else (some false)) else (some false))) else (none)) else (none)))) else (some false)) else (some false)))) else (lockgatelaw3_GeomParts.l2 k x5 0 x139000 x139001 x139002))
def lockgatelaw3_GeomParts.l2 : Nat → List Int → Int → Int → Int → Int → Option (Bool)
  | 0, _, _, _, _, _ => none
  | k + 1, x5, x16, x139000, x139001, x139002 => (geom_Blocks.f x139000 x139001 x139002).bind fun t158 => (if x16 < t158 then ((geom_Data.f k x139000 x139001 x139002 x16).bind fun bt159 => ((geom_DataOf.f k x139000 x139001 x139002 bt159.1).bind fun bt161 => (if bt159.2 = true then (if bt161.2 = true then (if bt161.1 = x16 then (if bt159.1 < 1 then (some false) else (if bt159.1 ≥ (x5.length : Int) then (some false) else (if 0 ≤ bt159.1 then (if bt159.1 < (x5.length : Int) then (if (rd x5 bt159.1) = 0 then (lockgatelaw3_GeomParts.l2 k (x5.set (bt159.1 : Int).toNat 3) (wrap64 (x16 + 1)) x139000 x139001 x139002) else (some false)) else (none)) else (none)))) else (some false)) else (some false)) else (some false)))) else (lockgatelaw3_GeomParts.l3 k x5 1 x139000 x139001 x139002))
def lockgatelaw3_GeomParts.l3 : Nat → List Int → Int → Int → Int → Int → Option (Bool)
  | 0, _, _, _, _, _ => none
  | k + 1, x5, x21, x139000, x139001, x139002 => if x21 < (x5.length : Int) then ((geom_DataOf.f k x139000 x139001 x139002 x21).bind fun bt165 => (if 0 ≤ x21 then (if (rd x5 x21) = 0 then (some false) else (if (bt165.2 != ((rd x5 x21) == 3)) = true then (some false) else (lockgatelaw3_GeomParts.l3 k x5 (wrap64 (x21 + 1)) x139000 x139001 x139002))) else (none))) else (if 0 < (x5.length : Int) then (some ((rd x5 0) == 0)) else (none))
end
def lockgatelaw3_GeomParts.f (k : Nat) (a0_0 : Int) (a0_1 : Int) (a0_2 : Int) : Option (Bool) := (lockgatelaw3_alive.f k).bind fun t139 => ((lockgateref1_Good.f a0_0 a0_1 a0_2).bind fun t140 => (if t139 = true then (if t140 = true then (lockgatelaw3_GeomParts.j0 k t139 (decide (a0_2 > 60)) a0_0 a0_1 a0_2) else (lockgatelaw3_GeomParts.j0 k t139 true a0_0 a0_1 a0_2)) else (lockgatelaw3_GeomParts.j0 k t139 true a0_0 a0_1 a0_2)))
theorem lockgatelaw3_GeomParts.mono_l : ∀ k, (∀ y0 y1 y2 y3 y4, LeO (lockgatelaw3_GeomParts.j0 k y0 y1 y2 y3 y4) (lockgatelaw3_GeomParts.j0 (k + 1) y0 y1 y2 y3 y4)) ∧ (∀ y0 y1 y2 y3 y4, LeO (lockgatelaw3_GeomParts.l0 k y0 y1 y2 y3 y4) (lockgatelaw3_GeomParts.l0 (k + 1) y0 y1 y2 y3 y4)) ∧ (∀ y0 y1 y2 y3 y4, LeO (lockgatelaw3_GeomParts.l1 k y0 y1 y2 y3 y4) (lockgatelaw3_GeomParts.l1 (k + 1) y0 y1 y2 y3 y4)) ∧ (∀ y0 y1 y2 y3 y4, LeO (lockgatelaw3_GeomParts.l2 k y0 y1 y2 y3 y4) (lockgatelaw3_GeomParts.l2 (k + 1) y0 y1 y2 y3 y4)) ∧ (∀ y0 y1 y2 y3 y4, LeO (lockgatelaw3_GeomParts.l3 k y0 y1 y2 y3 y4) (lockgatelaw3_GeomParts.l3 (k + 1) y0 y1 y2 y3 y4))
  | 0 => ⟨fun _ _ _ _ _ r h => by simp [lockgatelaw3_GeomParts.j0] at h, fun _ _ _ _ _ r h => by simp [lockgatelaw3_GeomParts.l0] at h, fun _ _ _ _ _ r h => by simp [lockgatelaw3_GeomParts.l1] at h, fun _ _ _ _ _ r h => by simp [lockgatelaw3_GeomParts.l2] at h, fun _ _ _ _ _ r h => by simp [lockgatelaw3_GeomParts.l3] at h⟩
  | k + 1 => by
    obtain ⟨ih0, ih1, ih2, ih3, ih4⟩ := lockgatelaw3_GeomParts.mono_l k
    refine ⟨?_, ?_, ?_, ?_, ?_⟩
    · intro y0 y1 y2 y3 y4
      unfold lockgatelaw3_GeomParts.j0
      repeat' first
      | (with_reducible exact ih0 _ _ _ _ _)
      | (with_reducible exact ih1 _ _ _ _ _)
      | (with_reducible exact ih2 _ _ _ _ _)
      | (with_reducible exact ih3 _ _ _ _ _)
      | (with_reducible exact ih4 _ _ _ _ _)
      | (with_reducible exact geom_Data.mono _ _ _ _ _)
      | (with_reducible exact geom_DataOf.mono _ _ _ _ _)
      | (with_reducible exact geom_Head.mono _ _ _ _ _)
      | (with_reducible exact geom_InodeAt.mono _ _ _ _ _)
      | (with_reducible exact lockgatelaw3_alive.mono _)
      | (with_reducible exact LeO.refl _)
      | (with_reducible exact LeO.none _)
      | (with_reducible refine LeO.ite ?_ ?_)
      | (with_reducible refine LeO.bind ?_ (fun _ => ?_))
      | exact ih0 _ _ _ _ _
      | exact ih1 _ _ _ _ _
      | exact ih2 _ _ _ _ _
      | exact ih3 _ _ _ _ _
      | exact ih4 _ _ _ _ _
      | exact geom_Data.mono _ _ _ _ _
      | exact geom_DataOf.mono _ _ _ _ _
      | exact geom_Head.mono _ _ _ _ _
      | exact geom_InodeAt.mono _ _ _ _ _
      | exact lockgatelaw3_alive.mono _
      | exact LeO.none _
      | refine LeO.ite ?_ ?_
      | refine LeO.bind ?_ (fun _ => ?_)
    · intro y0 y1 y2 y3 y4
      unfold lockgatelaw3_GeomParts.l0
      repeat' first
      | (with_reducible exact ih0 _ _ _ _ _)
      | (with_reducible exact ih1 _ _ _ _ _)
      | (with_reducible exact ih2 _ _ _ _ _)
      | (with_reducible exact ih3 _ _ _ _ _)
      | (with_reducible exact ih4 _ _ _ _ _)
      | (with_reducible exact geom_Data.mono _ _ _ _ _)
      | (with_reducible exact geom_DataOf.mono _ _ _ _ _)
      | (with_reducible exact geom_Head.mono _ _ _ _ _)
      | (with_reducible exact geom_InodeAt.mono _ _ _ _ _)
      | (with_reducible exact lockgatelaw3_alive.mono _)
      | (with_reducible exact LeO.refl _)
      | (with_reducible exact LeO.none _)
      | (with_reducible refine LeO.ite ?_ ?_)
      | (with_reducible refine LeO.bind ?_ (fun _ => ?_))
      | exact ih0 _ _ _ _ _
      | exact ih1 _ _ _ _ _
      | exact ih2 _ _ _ _ _
      | exact ih3 _ _ _ _ _
      | exact ih4 _ _ _ _ _
      | exact geom_Data.mono _ _ _ _ _
      | exact geom_DataOf.mono _ _ _ _ _
      | exact geom_Head.mono _ _ _ _ _
      | exact geom_InodeAt.mono _ _ _ _ _
      | exact lockgatelaw3_alive.mono _
      | exact LeO.none _
      | refine LeO.ite ?_ ?_
      | refine LeO.bind ?_ (fun _ => ?_)
    · intro y0 y1 y2 y3 y4
      unfold lockgatelaw3_GeomParts.l1
      repeat' first
      | (with_reducible exact ih0 _ _ _ _ _)
      | (with_reducible exact ih1 _ _ _ _ _)
      | (with_reducible exact ih2 _ _ _ _ _)
      | (with_reducible exact ih3 _ _ _ _ _)
      | (with_reducible exact ih4 _ _ _ _ _)
      | (with_reducible exact geom_Data.mono _ _ _ _ _)
      | (with_reducible exact geom_DataOf.mono _ _ _ _ _)
      | (with_reducible exact geom_Head.mono _ _ _ _ _)
      | (with_reducible exact geom_InodeAt.mono _ _ _ _ _)
      | (with_reducible exact lockgatelaw3_alive.mono _)
      | (with_reducible exact LeO.refl _)
      | (with_reducible exact LeO.none _)
      | (with_reducible refine LeO.ite ?_ ?_)
      | (with_reducible refine LeO.bind ?_ (fun _ => ?_))
      | exact ih0 _ _ _ _ _
      | exact ih1 _ _ _ _ _
      | exact ih2 _ _ _ _ _
      | exact ih3 _ _ _ _ _
      | exact ih4 _ _ _ _ _
      | exact geom_Data.mono _ _ _ _ _
      | exact geom_DataOf.mono _ _ _ _ _
      | exact geom_Head.mono _ _ _ _ _
      | exact geom_InodeAt.mono _ _ _ _ _
      | exact lockgatelaw3_alive.mono _
      | exact LeO.none _
      | refine LeO.ite ?_ ?_
      | refine LeO.bind ?_ (fun _ => ?_)
    · intro y0 y1 y2 y3 y4
      unfold lockgatelaw3_GeomParts.l2
      repeat' first
      | (with_reducible exact ih0 _ _ _ _ _)
      | (with_reducible exact ih1 _ _ _ _ _)
      | (with_reducible exact ih2 _ _ _ _ _)
      | (with_reducible exact ih3 _ _ _ _ _)
      | (with_reducible exact ih4 _ _ _ _ _)
      | (with_reducible exact geom_Data.mono _ _ _ _ _)
      | (with_reducible exact geom_DataOf.mono _ _ _ _ _)
      | (with_reducible exact geom_Head.mono _ _ _ _ _)
      | (with_reducible exact geom_InodeAt.mono _ _ _ _ _)
      | (with_reducible exact lockgatelaw3_alive.mono _)
      | (with_reducible exact LeO.refl _)
      | (with_reducible exact LeO.none _)
      | (with_reducible refine LeO.ite ?_ ?_)
      | (with_reducible refine LeO.bind ?_ (fun _ => ?_))
      | exact ih0 _ _ _ _ _
      | exact ih1 _ _ _ _ _
      | exact ih2 _ _ _ _ _
      | exact ih3 _ _ _ _ _
      | exact ih4 _ _ _ _ _
      | exact geom_Data.mono _ _ _ _ _
      | exact geom_DataOf.mono _ _ _ _ _
      | exact geom_Head.mono _ _ _ _ _
      | exact geom_InodeAt.mono _ _ _ _ _
      | exact lockgatelaw3_alive.mono _
      | exact LeO.none _
      | refine LeO.ite ?_ ?_
      | refine LeO.bind ?_ (fun _ => ?_)
    · intro y0 y1 y2 y3 y4
      unfold lockgatelaw3_GeomParts.l3
      repeat' first
      | (with_reducible exact ih0 _ _ _ _ _)
      | (with_reducible exact ih1 _ _ _ _ _)
      | (with_reducible exact ih2 _ _ _ _ _)
      | (with_reducible exact ih3 _ _ _ _ _)
      | (with_reducible exact ih4 _ _ _ _ _)
      | (with_reducible exact geom_Data.mono _ _ _ _ _)
      | (with_reducible exact geom_DataOf.mono _ _ _ _ _)
      | (with_reducible exact geom_Head.mono _ _ _ _ _)
      | (with_reducible exact geom_InodeAt.mono _ _ _ _ _)
      | (with_reducible exact lockgatelaw3_alive.mono _)
      | (with_reducible exact LeO.refl _)
      | (with_reducible exact LeO.none _)
      | (with_reducible refine LeO.ite ?_ ?_)
      | (with_reducible refine LeO.bind ?_ (fun _ => ?_))
      | exact ih0 _ _ _ _ _
      | exact ih1 _ _ _ _ _
      | exact ih2 _ _ _ _ _
      | exact ih3 _ _ _ _ _
      | exact ih4 _ _ _ _ _
      | exact geom_Data.mono _ _ _ _ _
      | exact geom_DataOf.mono _ _ _ _ _
      | exact geom_Head.mono _ _ _ _ _
      | exact geom_InodeAt.mono _ _ _ _ _
      | exact lockgatelaw3_alive.mono _
      | exact LeO.none _
      | refine LeO.ite ?_ ?_
      | refine LeO.bind ?_ (fun _ => ?_)
theorem lockgatelaw3_GeomParts.mono : ∀ a0 a1 a2 k, LeO (lockgatelaw3_GeomParts.f k a0 a1 a2) (lockgatelaw3_GeomParts.f (k + 1) a0 a1 a2) := by
  intro a0 a1 a2 k
  obtain ⟨ih0, ih1, ih2, ih3, ih4⟩ := lockgatelaw3_GeomParts.mono_l k
  unfold lockgatelaw3_GeomParts.f
  repeat' first
      | (with_reducible exact ih0 _ _ _ _ _)
      | (with_reducible exact ih1 _ _ _ _ _)
      | (with_reducible exact ih2 _ _ _ _ _)
      | (with_reducible exact ih3 _ _ _ _ _)
      | (with_reducible exact ih4 _ _ _ _ _)
      | (with_reducible exact geom_Data.mono _ _ _ _ _)
      | (with_reducible exact geom_DataOf.mono _ _ _ _ _)
      | (with_reducible exact geom_Head.mono _ _ _ _ _)
      | (with_reducible exact geom_InodeAt.mono _ _ _ _ _)
      | (with_reducible exact lockgatelaw3_alive.mono _)
      | (with_reducible exact LeO.refl _)
      | (with_reducible exact LeO.none _)
      | (with_reducible refine LeO.ite ?_ ?_)
      | (with_reducible refine LeO.bind ?_ (fun _ => ?_))
      | exact ih0 _ _ _ _ _
      | exact ih1 _ _ _ _ _
      | exact ih2 _ _ _ _ _
      | exact ih3 _ _ _ _ _
      | exact ih4 _ _ _ _ _
      | exact geom_Data.mono _ _ _ _ _
      | exact geom_DataOf.mono _ _ _ _ _
      | exact geom_Head.mono _ _ _ _ _
      | exact geom_InodeAt.mono _ _ _ _ _
      | exact lockgatelaw3_alive.mono _
      | exact LeO.none _
      | refine LeO.ite ?_ ?_
      | refine LeO.bind ?_ (fun _ => ?_)
set_option maxHeartbeats 8000000 in
set_option maxRecDepth 100000 in
theorem lockgatelaw3_GeomParts.calls (k : Nat) (a0_0 : Int) (a0_1 : Int) (a0_2 : Int) (r : Bool) (w : World) (h : lockgatelaw3_GeomParts.f k a0_0 a0_1 a0_2 = some r) :
    Calls Try.prog 6 #[.agg #[.int .i64 a0_0, .int .i64 a0_1, .int .i64 a0_2]] w fun e w' => e = .returned (.bool r) ∧ Below w.heap.size w w' := by
  have hu24 := Try.underlying24
  have HB := Aside0.mk (Below.refl w.heap.size w)
  have H : ((lockgatelaw3_alive.f k).bind fun t139 => ((lockgateref1_Good.f a0_0 a0_1 a0_2).bind fun t140 => (if t139 = true then (if t140 = true then (lockgatelaw3_GeomParts.j0 k t139 (decide (a0_2 > 60)) a0_0 a0_1 a0_2) else (lockgatelaw3_GeomParts.j0 k t139 true a0_0 a0_1 a0_2)) else (lockgatelaw3_GeomParts.j0 k t139 true a0_0 a0_1 a0_2)))) = some r := h
  clear h
  replace H := Option.bind_eq_some_iff.mp H
  obtain ⟨t139, A20, H⟩ := H
  replace H : ((lockgateref1_Good.f a0_0 a0_1 a0_2).bind fun t140 => (if t139 = true then (if t140 = true then (lockgatelaw3_GeomParts.j0 k t139 (decide (a0_2 > 60)) a0_0 a0_1 a0_2) else (lockgatelaw3_GeomParts.j0 k t139 true a0_0 a0_1 a0_2)) else (lockgatelaw3_GeomParts.j0 k t139 true a0_0 a0_1 a0_2))) = some r := H
  have A2 := Aside0.mk A20
  clear A20
  replace H := Option.bind_eq_some_iff.mp H
  obtain ⟨t140, A30, H⟩ := H
  replace H : (if t139 = true then (if t140 = true then (lockgatelaw3_GeomParts.j0 k t139 (decide (a0_2 > 60)) a0_0 a0_1 a0_2) else (lockgatelaw3_GeomParts.j0 k t139 true a0_0 a0_1 a0_2)) else (lockgatelaw3_GeomParts.j0 k t139 true a0_0 a0_1 a0_2)) = some r := H
  have A3 := Aside0.mk A30
  clear A30
  have HC4 := Aside0.mk H
  clear H
  go_enter Try.func6, Try.ntmps6
  go_upto_region 3 with (first | ((with_reducible refine gate_dst (N := 1) rfl ?_); (try (refine gate_guard (by rfl) ?_; dsimp only)); refine box_event ?hg (N := 1) ?hd (cs := #[.int .i64 a0_0, .int .i64 a0_1, .int .i64 a0_2]) (t := 24) ?hr ?_; (case hd => rfl); (case hg => rfl); (case hr => first | (go_simp; done) | (go_simp; rfl)); intro gb138 hg w5 hbox hb; have n0_ := Aside0.mk (below_step (by repeat (first | (with_reducible first | exact HB.out | apply below_alloc | apply pw_below_drewN | apply below_drew1) | exact HB.out)) hb); have n1_ := Aside0.mk (hbox); have n2_ := Aside0.mk ((by rw [hg]; exact (below_size (by repeat (first | (with_reducible first | exact HB.out | apply below_alloc | apply pw_below_drewN | apply below_drew1) | exact HB.out))) : w.heap.size ≤ gb138)); have n3_ := Aside0.mk ((by rw [hg]; exact (below_size (by repeat (first | (with_reducible first | exact HB.out | apply below_alloc | apply pw_below_drewN | apply below_drew1) | exact HB.out))) : w.heap.size ≤ gb138)); clear HB; have HB := n0_; have BK138 := n1_; have GW138 := n2_; have GE138 := n3_; clear n0_ n1_ n2_ n3_; clear hb hbox hg) | ((with_reducible refine gate_callee (f := 9) rfl ?_); refine goesL_ (some 24) rfl rfl Try.func9 (by kernel_rfl) rfl #[] rfl (by (try simp only [List.map_toArray, List.map_cons, List.map_nil]); first | done | rfl | (simp only [List.length_drop, List.length_take]; rfl)) ?_; (with_reducible refine (lockgatelaw3_alive.calls k  t139 _ A2.out).mono ?_); rintro e w6 ⟨rfl, hb⟩; refine ⟨_, rfl, ?_⟩; have n0_ := Aside0.mk (blk_below (g := gb138) (o := .cells #[.int .i64 a0_0, .int .i64 a0_1, .int .i64 a0_2] 24 (0, 0)) (by (with_reducible repeat (first | refine blk_drewN ?_ _ | refine blk_drew ?_ | refine blk_alloc ?_ _)); exact BK138.out) hb); have n1_ := Aside0.mk (below_step (by repeat (first | (with_reducible first | exact HB.out | apply below_alloc | apply pw_below_drewN | apply below_drew1 | refine below_set ?_ GE138.out) | exact HB.out)) hb); clear BK138; clear HB; have BK138 := n0_; have HB := n1_; clear n0_ n1_; (try clear hb); (try clear hb2); (try clear hk); (try clear hi); have hcz7_0 : w6.cell? ⟨gb138, 0, none⟩ = some (.int .i64 a0_0) := (blk_cell BK138.out 0).trans rfl; have hcz7_1 : w6.cell? ⟨gb138, 1, none⟩ = some (.int .i64 a0_1) := (blk_cell BK138.out 1).trans rfl; have hcz7_2 : w6.cell? ⟨gb138, 2, none⟩ = some (.int .i64 a0_2) := (blk_cell BK138.out 2).trans rfl; have hfz7_0 := blk_frozen BK138.out 0; have hfz7_1 := blk_frozen BK138.out 1; have hfz7_2 := blk_frozen BK138.out 2) | ((with_reducible refine gate_callee (f := 18) rfl ?_); refine goesL_ (some 26) rfl rfl Try.func18 (by kernel_rfl) rfl #[.agg #[.int .i64 a0_0, .int .i64 a0_1, .int .i64 a0_2]] rfl (by (try simp only [List.map_toArray, List.map_cons, List.map_nil]); first | done | rfl | (simp only [List.length_drop, List.length_take]; rfl)) ?_; (with_reducible refine (lockgateref1_Good.calls a0_0 a0_1 a0_2 t140 _ A3.out).mono ?_); rintro e w8 ⟨rfl, hb⟩; refine ⟨_, rfl, ?_⟩; have n0_ := Aside0.mk (blk_below (g := gb138) (o := .cells #[.int .i64 a0_0, .int .i64 a0_1, .int .i64 a0_2] 24 (0, 0)) (by (with_reducible repeat (first | refine blk_drewN ?_ _ | refine blk_drew ?_ | refine blk_alloc ?_ _)); exact BK138.out) hb); have n1_ := Aside0.mk (below_step (by repeat (first | (with_reducible first | exact HB.out | apply below_alloc | apply pw_below_drewN | apply below_drew1 | refine below_set ?_ GE138.out) | exact HB.out)) hb); clear BK138; clear HB; have BK138 := n0_; have HB := n1_; clear n0_ n1_; (try clear hb); (try clear hb2); (try clear hk); (try clear hi)))
  (try simp only [Act.put, List.setIfInBounds_toArray, List.set_cons_zero, List.set_cons_succ])
  go_cut [37] (fun v37 wc => ∃ (kq : Nat) (x37_3 : Bool), v37 = .bool x37_3 ∧ Aside0 (lockgatelaw3_GeomParts.j0 kq t139 x37_3 a0_0 a0_1 a0_2 = some r) ∧ Aside0 (kq ≤ k) ∧ Aside0 (wc.heap[gb138]? = some (.cells #[.int .i64 a0_0, .int .i64 a0_1, .int .i64 a0_2] 24 (0, 0))) ∧ Aside0 (Below w.heap.size w wc))
  case first =>
    have H := HC4.out
    clear HC4
    by_cases c9 : t139 = true
    · subst c9
      have H1 : (if t140 = true then (lockgatelaw3_GeomParts.j0 k true (decide (a0_2 > 60)) a0_0 a0_1 a0_2) else (lockgatelaw3_GeomParts.j0 k true true a0_0 a0_1 a0_2)) = some r := by rw [if_pos rfl] at H; exact H
      clear H
      have H := H1
      clear H1
      by_cases c10 : t140 = true
      · subst c10
        have H1 : (lockgatelaw3_GeomParts.j0 k true (decide (a0_2 > 60)) a0_0 a0_1 a0_2) = some r := by rw [if_pos rfl] at H; exact H
        clear H
        have H := H1
        clear H1
        have H' := Aside0.mk H
        clear H
        have hcz11_0 : w8.cell? ⟨gb138, 0, none⟩ = some (.int .i64 a0_0) := (blk_cell BK138.out 0).trans rfl
        have hcz11_1 : w8.cell? ⟨gb138, 1, none⟩ = some (.int .i64 a0_1) := (blk_cell BK138.out 1).trans rfl
        have hcz11_2 : w8.cell? ⟨gb138, 2, none⟩ = some (.int .i64 a0_2) := (blk_cell BK138.out 2).trans rfl
        have hfz11_0 := blk_frozen BK138.out 0
        have hfz11_1 := blk_frozen BK138.out 1
        have hfz11_2 := blk_frozen BK138.out 2
        go_wp2
        go_meet
        case rel => exact ⟨_, (decide (a0_2 > 60)), (by first | rfl | (simp; done) | (simp [*]; done)), H', ⟨by first | omega | exact Nat.le_refl _⟩, ⟨by (with_reducible repeat (first | refine blk_drewN ?_ _ | refine blk_drew ?_ | refine blk_alloc ?_ _)); exact BK138.out⟩, ⟨by repeat (first | (with_reducible first | exact HB.out | apply below_alloc | apply pw_below_drewN | apply below_drew1 | refine below_set ?_ GE138.out) | exact HB.out)⟩⟩
      · replace c10 := Bool.eq_false_iff.mpr c10
        subst c10
        have H1 : (lockgatelaw3_GeomParts.j0 k true true a0_0 a0_1 a0_2) = some r := by rw [if_neg (show ¬ (false = true) by decide)] at H; exact H
        clear H
        have H := H1
        clear H1
        have H' := Aside0.mk H
        clear H
        go_wp2
        go_meet
        case rel => exact ⟨_, (true), (by first | rfl | (simp; done) | (simp [*]; done)), H', ⟨by first | omega | exact Nat.le_refl _⟩, ⟨by (with_reducible repeat (first | refine blk_drewN ?_ _ | refine blk_drew ?_ | refine blk_alloc ?_ _)); exact BK138.out⟩, ⟨by repeat (first | (with_reducible first | exact HB.out | apply below_alloc | apply pw_below_drewN | apply below_drew1 | refine below_set ?_ GE138.out) | exact HB.out)⟩⟩
    · replace c9 := Bool.eq_false_iff.mpr c9
      subst c9
      have H1 : (lockgatelaw3_GeomParts.j0 k false true a0_0 a0_1 a0_2) = some r := by rw [if_neg (show ¬ (false = true) by decide)] at H; exact H
      clear H
      have H := H1
      clear H1
      have H' := Aside0.mk H
      clear H
      go_wp2
      go_meet
      case rel => exact ⟨_, (true), (by first | rfl | (simp; done) | (simp [*]; done)), H', ⟨by first | omega | exact Nat.le_refl _⟩, ⟨by (with_reducible repeat (first | refine blk_drewN ?_ _ | refine blk_drew ?_ | refine blk_alloc ?_ _)); exact BK138.out⟩, ⟨by repeat (first | (with_reducible first | exact HB.out | apply below_alloc | apply pw_below_drewN | apply below_drew1 | refine below_set ?_ GE138.out) | exact HB.out)⟩⟩
  case rest =>
    clear HC4
    try clear c1
    try clear p2
    try clear c6
    try clear c9
    try clear c10
    try clear hcz11_0
    try clear hcz11_1
    try clear hcz11_2
    try clear hcz7_0
    try clear hcz7_1
    try clear hcz7_2
    try clear hfz11_0
    try clear hfz11_1
    try clear hfz11_2
    try clear hfz7_0
    try clear hfz7_1
    try clear hfz7_2
    obtain ⟨kq, x37_3, rfl, HA, HJ3, BK138, HB⟩ := hcut
    cases kq with
    | zero => exact absurd HA.out (by simp [lockgatelaw3_GeomParts.j0])
    | succ kj3 =>
      have H := HA.out
      clear HA
      simp only [lockgatelaw3_GeomParts.j0] at H
      by_cases c12 : x37_3 = true
      · subst c12
        have H1 : (some t139) = some r := by rw [if_pos rfl] at H; exact H
        clear H
        have H := H1
        clear H1
        obtain rfl := Option.some.inj H
        go_wp2
        go_ret
        exact ⟨by first | rfl | (simp [errW_none, errW_some] <;> rfl) | (simp [*, errW_none, errW_some] <;> rfl), by repeat (first | (with_reducible first | exact HB.out | apply below_alloc | apply pw_below_drewN | apply below_drew1 | refine below_set ?_ GE138.out) | exact HB.out)⟩
      · replace c12 := Bool.eq_false_iff.mpr c12
        subst c12
        have H1 : ((geom_Total.f a0_0 a0_1 a0_2).bind fun t141 => (if 0 ≤ t141 then (if (t141 : Int).toNat ≤ 35184372088832 then (lockgatelaw3_GeomParts.l0 kj3 (List.replicate (t141 : Int).toNat 0) 0 a0_0 a0_1 a0_2) else (none)) else (none))) = some r := by rw [if_neg (show ¬ (false = true) by decide)] at H; exact H
        clear H
        have H := H1
        clear H1
        replace H := Option.bind_eq_some_iff.mp H
        obtain ⟨t141, A130, H⟩ := H
        replace H : (if 0 ≤ t141 then (if (t141 : Int).toNat ≤ 35184372088832 then (lockgatelaw3_GeomParts.l0 kj3 (List.replicate (t141 : Int).toNat 0) 0 a0_0 a0_1 a0_2) else (none)) else (none)) = some r := H
        have A13 := Aside0.mk A130
        clear A130
        by_cases c14 : 0 ≤ t141
        · rw [if_pos c14] at H
          have c14b0 := eq_true c14
          have c14b1 : decide (0 ≤ t141) = true := decide_eq_true c14
          clear c14
          by_cases c15 : (t141 : Int).toNat ≤ 35184372088832
          · rw [if_pos c15] at H
            have c15b0 := eq_true c15
            have c15b1 : decide ((t141 : Int).toNat ≤ 35184372088832) = true := decide_eq_true c15
            clear c15
            obtain ⟨y142, hy142⟩ : ∃ y_ : List Int, y_ = (List.replicate (t141 : Int).toNat 0) := ⟨_, rfl⟩
            replace H : (lockgatelaw3_GeomParts.l0 kj3 y142 0 a0_0 a0_1 a0_2) = some r := by first | (rw [hy142]; with_reducible exact H) | (have H2_ := (Option.bind_some _ _).symm.trans H; rw [hy142]; with_reducible exact H2_) | (have H2_ := (Option.bind_some _ _).symm.trans H; with_reducible exact H2_) | with_reducible exact H | (rw [hy142]; exact H) | exact H
            have Ny142 := Aside0.mk hy142
            clear hy142
            have H' := Aside0.mk H
            clear H
            have hcz16_0 : wc.cell? ⟨gb138, 0, none⟩ = some (.int .i64 a0_0) := (blk_cell BK138.out 0).trans rfl
            have hcz16_1 : wc.cell? ⟨gb138, 1, none⟩ = some (.int .i64 a0_1) := (blk_cell BK138.out 1).trans rfl
            have hcz16_2 : wc.cell? ⟨gb138, 2, none⟩ = some (.int .i64 a0_2) := (blk_cell BK138.out 2).trans rfl
            have hfz16_0 := blk_frozen BK138.out 0
            have hfz16_1 := blk_frozen BK138.out 1
            have hfz16_2 := blk_frozen BK138.out 2
            go_wp2_with (first | ((with_reducible refine gate_callee (f := 15) rfl ?_); refine goesL_ (some 40) rfl rfl Try.func15 (by kernel_rfl) rfl #[.agg #[.int .i64 a0_0, .int .i64 a0_1, .int .i64 a0_2]] rfl (by (try simp only [List.map_toArray, List.map_cons, List.map_nil]); first | done | rfl | (simp only [List.length_drop, List.length_take]; rfl)) ?_; (with_reducible refine (geom_Total.calls a0_0 a0_1 a0_2 t141 _ A13.out).mono ?_); rintro e w17 ⟨rfl, hb⟩; refine ⟨_, rfl, ?_⟩; have n0_ := Aside0.mk (blk_below (g := gb138) (o := .cells #[.int .i64 a0_0, .int .i64 a0_1, .int .i64 a0_2] 24 (0, 0)) (by (with_reducible repeat (first | refine blk_drewN ?_ _ | refine blk_drew ?_ | refine blk_alloc ?_ _)); exact BK138.out) hb); have n1_ := Aside0.mk (below_step (by repeat (first | (with_reducible first | exact HB.out | apply below_alloc | apply pw_below_drewN | apply below_drew1 | refine below_set ?_ GE138.out) | exact HB.out)) hb); clear BK138; clear HB; have BK138 := n0_; have HB := n1_; clear n0_ n1_; (try clear hb); (try clear hb2); (try clear hk); (try clear hi)) | ((with_reducible refine gate_dst (N := 41) rfl ?_); (try (refine gate_guard (by rfl) ?_; dsimp only)); refine Kd.R_make (Kd.int .i64) _ 3 rfl (N := 41) rfl 35 _ _ rfl t141 rfl rfl Try.underlying35 (.int .i64 0) 8 info3 rfl (by decide) (by omega) 0 (ok := fun _ => True) (okp := fun _ => True) rfl (fun _ hk => hk) trivial (of_decide_eq_true (by first | (with_reducible assumption) | assumption)) (Nat.le_trans (Nat.mul_le_mul_right _ (of_decide_eq_true (by first | (with_reducible assumption) | assumption) : t141.toNat ≤ 35184372088832)) (by omega)) (Below.refl _ _) (Nat.le_refl _) ?_; intro v143 w18 ho19 hb hg_ hnew_; clear hg_ hnew_; (first | rw [← Ny142.out] at ho19 | (simp only [Int.reduceToNat] at ho19; rw [← Ny142.out] at ho19)); have n0_ := Aside0.mk (Kd.R_lower ho19 (below_size (by repeat (first | (with_reducible first | exact HB.out | apply below_alloc | apply pw_below_drewN | apply below_drew1 | refine below_set ?_ GE138.out) | exact HB.out)))); have n1_ := Aside0.mk (blk_below (g := gb138) (o := .cells #[.int .i64 a0_0, .int .i64 a0_1, .int .i64 a0_2] 24 (0, 0)) (by (with_reducible repeat (first | refine blk_drewN ?_ _ | refine blk_drew ?_ | refine blk_alloc ?_ _)); exact BK138.out) hb); have n2_ := Aside0.mk (below_step (by repeat (first | (with_reducible first | exact HB.out | apply below_alloc | apply pw_below_drewN | apply below_drew1 | refine below_set ?_ GE138.out) | exact HB.out)) hb); clear BK138; clear HB; have HO144 := n0_; have BK138 := n1_; have HB := n2_; clear n0_ n1_ n2_; clear hb ho19))
            go_loopg [6] kj3 (fun kq v6 w' => ∃ (x5_2 : List Int) (x6_2 : Int), v6 = .int .i64 x6_2 ∧ Aside0 (lockgatelaw3_GeomParts.l0 kq x5_2 x6_2 a0_0 a0_1 a0_2 = some r) ∧ Aside0 (kq ≤ kj3) ∧ Aside0 (Kd.R (Kd.int .i64) 3 w' w.heap.size (fun _ => True) v143 x5_2) ∧ Aside0 (w'.heap[gb138]? = some (.cells #[.int .i64 a0_0, .int .i64 a0_1, .int .i64 a0_2] 24 (0, 0))) ∧ Aside0 (Below w.heap.size w w'))
            case atStart => exact ⟨(y142), (0), (by first | rfl | (simp; done) | (simp [*]; done)), H', ⟨Nat.le_refl _⟩, ⟨by (with_reducible repeat (first | apply Kd.R_alloc | apply Kd.R_drewN | apply Kd.R_drew)); exact HO144.out⟩, ⟨by (with_reducible repeat (first | refine blk_drewN ?_ _ | refine blk_drew ?_ | refine blk_alloc ?_ _)); exact BK138.out⟩, ⟨by repeat (first | (with_reducible first | exact HB.out | apply below_alloc | apply pw_below_drewN | apply below_drew1 | refine below_set ?_ GE138.out) | exact HB.out)⟩⟩
            case round =>
              clear H'
              try clear c1
              try clear p2
              try clear c6
              try clear c9
              try clear c10
              try clear c12
              try clear c14
              try clear c14b0
              try clear c14b1
              try clear c15
              try clear c15b0
              try clear c15b1
              try clear c18
              try clear hcz11_0
              try clear hcz11_1
              try clear hcz11_2
              try clear hcz16_0
              try clear hcz16_1
              try clear hcz16_2
              try clear hcz7_0
              try clear hcz7_1
              try clear hcz7_2
              try clear hfz11_0
              try clear hfz11_1
              try clear hfz11_2
              try clear hfz16_0
              try clear hfz16_1
              try clear hfz16_2
              try clear hfz7_0
              try clear hfz7_1
              try clear hfz7_2
              try clear p2
              obtain ⟨x5_2, x6_2, rfl, HA, HK2, HO_5, BK138, HB⟩ := hrel
              cases gk with
              | zero => exact absurd HA.out (by simp [lockgatelaw3_GeomParts.l0])
              | succ k2 =>
                have H := HA.out
                clear HA
                simp only [lockgatelaw3_GeomParts.l0] at H
                by_cases c20 : x6_2 < a0_0
                · rw [if_pos c20] at H
                  have c20b0 : decide (x6_2 < a0_0) = true := decide_eq_true c20
                  clear c20
                  replace H := Option.bind_eq_some_iff.mp H
                  obtain ⟨⟨t145, t146⟩, A210, H⟩ := H
                  replace H : (if t146 = true then (if t145 < 1 then (some false) else (if t145 ≥ (x5_2.length : Int) then (some false) else (if 0 ≤ t145 then (if t145 < (x5_2.length : Int) then (if (rd x5_2 t145) = 0 then (lockgatelaw3_GeomParts.l0 k2 (x5_2.set (t145 : Int).toNat 1) (wrap64 (x6_2 + 1)) a0_0 a0_1 a0_2) else (some false)) else (none)) else (none)))) else (some false)) = some r := H
                  have A21 := Aside0.mk A210
                  clear A210
                  by_cases c22 : t146 = true
                  · subst c22
                    have H1 : (if t145 < 1 then (some false) else (if t145 ≥ (x5_2.length : Int) then (some false) else (if 0 ≤ t145 then (if t145 < (x5_2.length : Int) then (if (rd x5_2 t145) = 0 then (lockgatelaw3_GeomParts.l0 k2 (x5_2.set (t145 : Int).toNat 1) (wrap64 (x6_2 + 1)) a0_0 a0_1 a0_2) else (some false)) else (none)) else (none)))) = some r := by rw [if_pos rfl] at H; exact H
                    clear H
                    have H := H1
                    clear H1
                    by_cases c23 : t145 < 1
                    · rw [if_pos c23] at H
                      have c23b0 : decide (t145 < 1) = true := decide_eq_true c23
                      clear c23
                      obtain rfl := Option.some.inj H
                      have hcz24_0 : wr.cell? ⟨gb138, 0, none⟩ = some (.int .i64 a0_0) := (blk_cell BK138.out 0).trans rfl
                      have hcz24_1 : wr.cell? ⟨gb138, 1, none⟩ = some (.int .i64 a0_1) := (blk_cell BK138.out 1).trans rfl
                      have hcz24_2 : wr.cell? ⟨gb138, 2, none⟩ = some (.int .i64 a0_2) := (blk_cell BK138.out 2).trans rfl
                      have hfz24_0 := blk_frozen BK138.out 0
                      have hfz24_1 := blk_frozen BK138.out 1
                      have hfz24_2 := blk_frozen BK138.out 2
                      go_wp2_with (first | ((with_reducible refine gate_callee (f := 12) rfl ?_); refine goesL_ (some 51) rfl rfl Try.func12 (by kernel_rfl) rfl #[.agg #[.int .i64 a0_0, .int .i64 a0_1, .int .i64 a0_2], .int .i64 x6_2] rfl (by (try simp only [List.map_toArray, List.map_cons, List.map_nil]); first | done | rfl | (simp only [List.length_drop, List.length_take]; rfl)) ?_; (with_reducible refine (geom_Head.calls k2 a0_0 a0_1 a0_2 x6_2 t145 true _ A21.out).mono ?_); rintro e w25 ⟨rfl, hb⟩; refine ⟨_, rfl, ?_⟩; have n0_ := Aside0.mk (Kd.R_below (by (with_reducible repeat (first | apply Kd.R_alloc | apply Kd.R_drewN | apply Kd.R_drew)); exact HO_5.out) hb); have n1_ := Aside0.mk (blk_below (g := gb138) (o := .cells #[.int .i64 a0_0, .int .i64 a0_1, .int .i64 a0_2] 24 (0, 0)) (by (with_reducible repeat (first | refine blk_drewN ?_ _ | refine blk_drew ?_ | refine blk_alloc ?_ _)); exact BK138.out) hb); have n2_ := Aside0.mk (below_step (by repeat (first | (with_reducible first | exact HB.out | apply below_alloc | apply pw_below_drewN | apply below_drew1 | refine below_set ?_ GE138.out) | exact HB.out)) hb); clear HO_5; clear BK138; clear HB; have HO_5 := n0_; have BK138 := n1_; have HB := n2_; clear n0_ n1_ n2_; (try clear hb); (try clear hb2); (try clear hk); (try clear hi)))
                      go_ret
                      exact ⟨by first | rfl | (simp [errW_none, errW_some] <;> rfl) | (simp [*, errW_none, errW_some] <;> rfl), by repeat (first | (with_reducible first | exact HB.out | apply below_alloc | apply pw_below_drewN | apply below_drew1 | refine below_set ?_ GE138.out) | exact HB.out)⟩
                    · rw [if_neg c23] at H
                      have c23b0 : decide (t145 < 1) = false := decide_eq_false c23
                      clear c23
                      by_cases c26 : t145 ≥ (x5_2.length : Int)
                      · rw [if_pos c26] at H
                        have c26b0 : decide ((x5_2.length : Int) ≤ t145) = true := decide_eq_true c26
                        clear c26
                        obtain rfl := Option.some.inj H
                        have hcz27_0 : wr.cell? ⟨gb138, 0, none⟩ = some (.int .i64 a0_0) := (blk_cell BK138.out 0).trans rfl
                        have hcz27_1 : wr.cell? ⟨gb138, 1, none⟩ = some (.int .i64 a0_1) := (blk_cell BK138.out 1).trans rfl
                        have hcz27_2 : wr.cell? ⟨gb138, 2, none⟩ = some (.int .i64 a0_2) := (blk_cell BK138.out 2).trans rfl
                        have hfz27_0 := blk_frozen BK138.out 0
                        have hfz27_1 := blk_frozen BK138.out 1
                        have hfz27_2 := blk_frozen BK138.out 2
                        go_wp2_with (first | ((with_reducible refine gate_callee (f := 12) rfl ?_); refine goesL_ (some 51) rfl rfl Try.func12 (by kernel_rfl) rfl #[.agg #[.int .i64 a0_0, .int .i64 a0_1, .int .i64 a0_2], .int .i64 x6_2] rfl (by (try simp only [List.map_toArray, List.map_cons, List.map_nil]); first | done | rfl | (simp only [List.length_drop, List.length_take]; rfl)) ?_; (with_reducible refine (geom_Head.calls k2 a0_0 a0_1 a0_2 x6_2 t145 true _ A21.out).mono ?_); rintro e w28 ⟨rfl, hb⟩; refine ⟨_, rfl, ?_⟩; have n0_ := Aside0.mk (Kd.R_below (by (with_reducible repeat (first | apply Kd.R_alloc | apply Kd.R_drewN | apply Kd.R_drew)); exact HO_5.out) hb); have n1_ := Aside0.mk (blk_below (g := gb138) (o := .cells #[.int .i64 a0_0, .int .i64 a0_1, .int .i64 a0_2] 24 (0, 0)) (by (with_reducible repeat (first | refine blk_drewN ?_ _ | refine blk_drew ?_ | refine blk_alloc ?_ _)); exact BK138.out) hb); have n2_ := Aside0.mk (below_step (by repeat (first | (with_reducible first | exact HB.out | apply below_alloc | apply pw_below_drewN | apply below_drew1 | refine below_set ?_ GE138.out) | exact HB.out)) hb); clear HO_5; clear BK138; clear HB; have HO_5 := n0_; have BK138 := n1_; have HB := n2_; clear n0_ n1_ n2_; (try clear hb); (try clear hb2); (try clear hk); (try clear hi); obtain ⟨Ao29, co29, eo29⟩ := Kd.R_slice HO_5.out; subst eo29))
                        go_ret
                        exact ⟨by first | rfl | (simp [errW_none, errW_some] <;> rfl) | (simp [*, errW_none, errW_some] <;> rfl), by repeat (first | (with_reducible first | exact HB.out | apply below_alloc | apply pw_below_drewN | apply below_drew1 | refine below_set ?_ GE138.out) | exact HB.out)⟩
                      · rw [if_neg c26] at H
                        have c26b0 : decide ((x5_2.length : Int) ≤ t145) = false := decide_eq_false c26
                        clear c26
                        by_cases c30 : 0 ≤ t145
                        · rw [if_pos c30] at H
                          have c30b0 : decide (0 ≤ t145) = true := decide_eq_true c30
                          clear c30
                          by_cases c31 : t145 < (x5_2.length : Int)
                          · rw [if_pos c31] at H
                            have c31b0 : decide (t145 < (x5_2.length : Int)) = true := decide_eq_true c31
                            clear c31
                            by_cases c32 : (rd x5_2 t145) = 0
                            · rw [if_pos c32] at H
                              have c32b0 : ((rd x5_2 t145) == 0) = true := beq_iff_eq.mpr c32
                              have c32b1 : ((rd x5_2 t145) != 0) = false := bne_eq_false_iff_eq.mpr c32
                              clear c32
                              obtain ⟨y148, hy148⟩ : ∃ y_ : List Int, y_ = (x5_2.set (t145 : Int).toNat 1) := ⟨_, rfl⟩
                              replace H : (lockgatelaw3_GeomParts.l0 k2 y148 (wrap64 (x6_2 + 1)) a0_0 a0_1 a0_2) = some r := by first | (rw [hy148]; with_reducible exact H) | (have H2_ := (Option.bind_some _ _).symm.trans H; rw [hy148]; with_reducible exact H2_) | (have H2_ := (Option.bind_some _ _).symm.trans H; with_reducible exact H2_) | with_reducible exact H | (rw [hy148]; exact H) | exact H
                              have Ny148 := Aside0.mk hy148
                              clear hy148
                              have H' := Aside0.mk H
                              clear H
                              have hcz34_0 : wr.cell? ⟨gb138, 0, none⟩ = some (.int .i64 a0_0) := (blk_cell BK138.out 0).trans rfl
                              have hcz34_1 : wr.cell? ⟨gb138, 1, none⟩ = some (.int .i64 a0_1) := (blk_cell BK138.out 1).trans rfl
                              have hcz34_2 : wr.cell? ⟨gb138, 2, none⟩ = some (.int .i64 a0_2) := (blk_cell BK138.out 2).trans rfl
                              have hfz34_0 := blk_frozen BK138.out 0
                              have hfz34_1 := blk_frozen BK138.out 1
                              have hfz34_2 := blk_frozen BK138.out 2
                              go_wp2_with (first | ((with_reducible refine gate_callee (f := 12) rfl ?_); refine goesL_ (some 51) rfl rfl Try.func12 (by kernel_rfl) rfl #[.agg #[.int .i64 a0_0, .int .i64 a0_1, .int .i64 a0_2], .int .i64 x6_2] rfl (by (try simp only [List.map_toArray, List.map_cons, List.map_nil]); first | done | rfl | (simp only [List.length_drop, List.length_take]; rfl)) ?_; (with_reducible refine (geom_Head.calls k2 a0_0 a0_1 a0_2 x6_2 t145 true _ A21.out).mono ?_); rintro e w35 ⟨rfl, hb⟩; refine ⟨_, rfl, ?_⟩; have n0_ := Aside0.mk (Kd.R_below (by (with_reducible repeat (first | apply Kd.R_alloc | apply Kd.R_drewN | apply Kd.R_drew)); exact HO_5.out) hb); have n1_ := Aside0.mk (blk_below (g := gb138) (o := .cells #[.int .i64 a0_0, .int .i64 a0_1, .int .i64 a0_2] 24 (0, 0)) (by (with_reducible repeat (first | refine blk_drewN ?_ _ | refine blk_drew ?_ | refine blk_alloc ?_ _)); exact BK138.out) hb); have n2_ := Aside0.mk (below_step (by repeat (first | (with_reducible first | exact HB.out | apply below_alloc | apply pw_below_drewN | apply below_drew1 | refine below_set ?_ GE138.out) | exact HB.out)) hb); clear HO_5; clear BK138; clear HB; have HO_5 := n0_; have BK138 := n1_; have HB := n2_; clear n0_ n1_ n2_; (try clear hb); (try clear hb2); (try clear hk); (try clear hi); obtain ⟨Ao36, co36, eo36⟩ := Kd.R_slice HO_5.out; subst eo36; have p147 : 0 ≤ (t145 : Int) := of_decide_eq_true (by first | (with_reducible assumption) | assumption); have q147 : t145 < (x5_2.length : Int) := of_decide_eq_true (by first | (with_reducible assumption) | assumption); obtain ⟨ad147, e147, hx147_0⟩ := Kd.at_int (Kd.R_reads' HO_5.out).2.2 t145 p147 q147; cases e147; replace p147 := eq_true p147; replace q147 := eq_true q147; have p33 : 0 ≤ (t145 : Int) := of_decide_eq_true (by first | (with_reducible assumption) | assumption); have q33 : (t145 : Int) < ((x5_2.length : Int) : Int) := of_decide_eq_true (by first | (with_reducible assumption) | assumption); obtain ⟨go33, co33, eo33, gb33, gl33, cl33, HG33⟩ := Kd.R_form HO_5.out (by omega); (first | cases eo33 | (injection eo33 with ea_ en_ ec_; (first | subst ea_ | (injection ea_ with ea_; subst ea_)); subst ec_; clear en_)); have GB33 := Aside0.mk gb33; have GG33 := Aside0.mk HG33; clear gb33 gl33 HG33; (first | simp only [add_plain] at hx147_0 | skip); obtain ⟨hx33_0, hf33_0⟩ := Kd.R_celln 0 HO_5.out (t145 : Int) p33 q33; replace p33 := eq_true p33; replace q33 := eq_true q33; obtain ⟨hy37_, hz37_⟩ := Kd.R_celln 0 HO_5.out (t145 : Int) (of_decide_eq_true (by first | (with_reducible assumption) | assumption)) (of_decide_eq_true (by first | (with_reducible assumption) | assumption)); have HP37 := Kd.R_putg HO_5.out (t145 : Int) 1) | ((with_reducible refine gate_store (t := 3) (p := 75) rfl ?_); refine store_event (t := 3) (p := 75) (v := ?vo_w38) (w1 := (w35.setCell ⟨go33, (t145 : Int).toNat, none⟩ (.int .i64 1))) ?hg ?ho ?hn ?hr ?_; (case ho => rfl); (case hg => rfl); (case hn => rfl); (case hr => first | (go_simp; done) | (go_simp; rfl)); intro w38 hw; have hg : w35.grownBy w38 (some go33) := (by rw [hw]; exact HP37.2); have hp_ : Kd.R (Kd.int .i64) 3 w38 w.heap.size (fun _ => True) (.slice (some ⟨go33, 0, none⟩) x5_2.length co36) y148 := (by rw [hw, Ny148.out]; exact HP37.1); clear HP37; have n0_ := Aside0.mk (hp_); have n1_ := Aside0.mk (blk_grown (g := gb138) (o := .cells #[.int .i64 a0_0, .int .i64 a0_1, .int .i64 a0_2] 24 (0, 0)) (by (with_reducible repeat (first | refine blk_drewN ?_ _ | refine blk_drew ?_ | refine blk_alloc ?_ _)); exact BK138.out) hg (Kd.R_ne HO_5.out BK138.out (by decide))); have n2_ := Aside0.mk ((by rw [hw]; exact below_set (HB.out) GB33.out : Below w.heap.size w w38)); clear HO_5; clear BK138; clear HB; have HO_5 := n0_; have BK138 := n1_; have HB := n2_; clear n0_ n1_ n2_; clear hg hw hp_))
                              go_roundg k2
                              case measure => have := HJ3.out; have := HK2.out; omega
                              case rel => exact ⟨(y148), (wrap64 (x6_2 + 1)), (by first | rfl | (simp; done) | (simp [*]; done)), H', ⟨by have := HJ3.out; have := HK2.out; omega⟩, ⟨by (with_reducible repeat (first | apply Kd.R_alloc | apply Kd.R_drewN | apply Kd.R_drew)); exact HO_5.out⟩, ⟨by (with_reducible repeat (first | refine blk_drewN ?_ _ | refine blk_drew ?_ | refine blk_alloc ?_ _)); exact BK138.out⟩, ⟨by repeat (first | (with_reducible first | exact HB.out | apply below_alloc | apply pw_below_drewN | apply below_drew1 | refine below_set ?_ GE138.out) | exact HB.out)⟩⟩
                            · rw [if_neg c32] at H
                              have c32b0 : ((rd x5_2 t145) == 0) = false := beq_eq_false_iff_ne.mpr c32
                              have c32b1 : ((rd x5_2 t145) != 0) = true := bne_iff_ne.mpr c32
                              obtain rfl := Option.some.inj H
                              have hcz39_0 : wr.cell? ⟨gb138, 0, none⟩ = some (.int .i64 a0_0) := (blk_cell BK138.out 0).trans rfl
                              have hcz39_1 : wr.cell? ⟨gb138, 1, none⟩ = some (.int .i64 a0_1) := (blk_cell BK138.out 1).trans rfl
                              have hcz39_2 : wr.cell? ⟨gb138, 2, none⟩ = some (.int .i64 a0_2) := (blk_cell BK138.out 2).trans rfl
                              have hfz39_0 := blk_frozen BK138.out 0
                              have hfz39_1 := blk_frozen BK138.out 1
                              have hfz39_2 := blk_frozen BK138.out 2
                              go_wp2_with (first | ((with_reducible refine gate_callee (f := 12) rfl ?_); refine goesL_ (some 51) rfl rfl Try.func12 (by kernel_rfl) rfl #[.agg #[.int .i64 a0_0, .int .i64 a0_1, .int .i64 a0_2], .int .i64 x6_2] rfl (by (try simp only [List.map_toArray, List.map_cons, List.map_nil]); first | done | rfl | (simp only [List.length_drop, List.length_take]; rfl)) ?_; (with_reducible refine (geom_Head.calls k2 a0_0 a0_1 a0_2 x6_2 t145 true _ A21.out).mono ?_); rintro e w40 ⟨rfl, hb⟩; refine ⟨_, rfl, ?_⟩; have n0_ := Aside0.mk (Kd.R_below (by (with_reducible repeat (first | apply Kd.R_alloc | apply Kd.R_drewN | apply Kd.R_drew)); exact HO_5.out) hb); have n1_ := Aside0.mk (blk_below (g := gb138) (o := .cells #[.int .i64 a0_0, .int .i64 a0_1, .int .i64 a0_2] 24 (0, 0)) (by (with_reducible repeat (first | refine blk_drewN ?_ _ | refine blk_drew ?_ | refine blk_alloc ?_ _)); exact BK138.out) hb); have n2_ := Aside0.mk (below_step (by repeat (first | (with_reducible first | exact HB.out | apply below_alloc | apply pw_below_drewN | apply below_drew1 | refine below_set ?_ GE138.out) | exact HB.out)) hb); clear HO_5; clear BK138; clear HB; have HO_5 := n0_; have BK138 := n1_; have HB := n2_; clear n0_ n1_ n2_; (try clear hb); (try clear hb2); (try clear hk); (try clear hi); obtain ⟨Ao41, co41, eo41⟩ := Kd.R_slice HO_5.out; subst eo41; have p147 : 0 ≤ (t145 : Int) := of_decide_eq_true (by first | (with_reducible assumption) | assumption); have q147 : t145 < (x5_2.length : Int) := of_decide_eq_true (by first | (with_reducible assumption) | assumption); obtain ⟨ad147, e147, hx147_0⟩ := Kd.at_int (Kd.R_reads' HO_5.out).2.2 t145 p147 q147; cases e147; replace p147 := eq_true p147; replace q147 := eq_true q147))
                              go_ret
                              exact ⟨by first | rfl | (simp [errW_none, errW_some] <;> rfl) | (simp [*, errW_none, errW_some] <;> rfl), by repeat (first | (with_reducible first | exact HB.out | apply below_alloc | apply pw_below_drewN | apply below_drew1 | refine below_set ?_ GE138.out) | exact HB.out)⟩
                          · rw [if_neg c31] at H
                            exact absurd H (by simp)
                        · rw [if_neg c30] at H
                          exact absurd H (by simp)
                  · replace c22 := Bool.eq_false_iff.mpr c22
                    subst c22
                    have H1 : (some false) = some r := by rw [if_neg (show ¬ (false = true) by decide)] at H; exact H
                    clear H
                    have H := H1
                    clear H1
                    obtain rfl := Option.some.inj H
                    have hcz42_0 : wr.cell? ⟨gb138, 0, none⟩ = some (.int .i64 a0_0) := (blk_cell BK138.out 0).trans rfl
                    have hcz42_1 : wr.cell? ⟨gb138, 1, none⟩ = some (.int .i64 a0_1) := (blk_cell BK138.out 1).trans rfl
                    have hcz42_2 : wr.cell? ⟨gb138, 2, none⟩ = some (.int .i64 a0_2) := (blk_cell BK138.out 2).trans rfl
                    have hfz42_0 := blk_frozen BK138.out 0
                    have hfz42_1 := blk_frozen BK138.out 1
                    have hfz42_2 := blk_frozen BK138.out 2
                    go_wp2_with (first | ((with_reducible refine gate_callee (f := 12) rfl ?_); refine goesL_ (some 51) rfl rfl Try.func12 (by kernel_rfl) rfl #[.agg #[.int .i64 a0_0, .int .i64 a0_1, .int .i64 a0_2], .int .i64 x6_2] rfl (by (try simp only [List.map_toArray, List.map_cons, List.map_nil]); first | done | rfl | (simp only [List.length_drop, List.length_take]; rfl)) ?_; (with_reducible refine (geom_Head.calls k2 a0_0 a0_1 a0_2 x6_2 t145 false _ A21.out).mono ?_); rintro e w43 ⟨rfl, hb⟩; refine ⟨_, rfl, ?_⟩; have n0_ := Aside0.mk (Kd.R_below (by (with_reducible repeat (first | apply Kd.R_alloc | apply Kd.R_drewN | apply Kd.R_drew)); exact HO_5.out) hb); have n1_ := Aside0.mk (blk_below (g := gb138) (o := .cells #[.int .i64 a0_0, .int .i64 a0_1, .int .i64 a0_2] 24 (0, 0)) (by (with_reducible repeat (first | refine blk_drewN ?_ _ | refine blk_drew ?_ | refine blk_alloc ?_ _)); exact BK138.out) hb); have n2_ := Aside0.mk (below_step (by repeat (first | (with_reducible first | exact HB.out | apply below_alloc | apply pw_below_drewN | apply below_drew1 | refine below_set ?_ GE138.out) | exact HB.out)) hb); clear HO_5; clear BK138; clear HB; have HO_5 := n0_; have BK138 := n1_; have HB := n2_; clear n0_ n1_ n2_; (try clear hb); (try clear hb2); (try clear hk); (try clear hi)))
                    go_ret
                    exact ⟨by first | rfl | (simp [errW_none, errW_some] <;> rfl) | (simp [*, errW_none, errW_some] <;> rfl), by repeat (first | (with_reducible first | exact HB.out | apply below_alloc | apply pw_below_drewN | apply below_drew1 | refine below_set ?_ GE138.out) | exact HB.out)⟩
                · rw [if_neg c20] at H
                  have c20b0 : decide (x6_2 < a0_0) = false := decide_eq_false c20
                  clear c20
                  have H' := Aside0.mk H
                  clear H
                  have hcz44_0 : wr.cell? ⟨gb138, 0, none⟩ = some (.int .i64 a0_0) := (blk_cell BK138.out 0).trans rfl
                  have hcz44_1 : wr.cell? ⟨gb138, 1, none⟩ = some (.int .i64 a0_1) := (blk_cell BK138.out 1).trans rfl
                  have hcz44_2 : wr.cell? ⟨gb138, 2, none⟩ = some (.int .i64 a0_2) := (blk_cell BK138.out 2).trans rfl
                  have hfz44_0 := blk_frozen BK138.out 0
                  have hfz44_1 := blk_frozen BK138.out 1
                  have hfz44_2 := blk_frozen BK138.out 2
                  go_wp2
                  go_loopg [9] k2 (fun kq v9 w' => ∃ (x5_3 : List Int) (x9_3 : Int), v9 = .int .i64 x9_3 ∧ Aside0 (lockgatelaw3_GeomParts.l1 kq x5_3 x9_3 a0_0 a0_1 a0_2 = some r) ∧ Aside0 (kq ≤ k2) ∧ Aside0 (Kd.R (Kd.int .i64) 3 w' w.heap.size (fun _ => True) v143 x5_3) ∧ Aside0 (w'.heap[gb138]? = some (.cells #[.int .i64 a0_0, .int .i64 a0_1, .int .i64 a0_2] 24 (0, 0))) ∧ Aside0 (Below w.heap.size w w'))
                  case atStart => exact ⟨(x5_2), (1), (by first | rfl | (simp; done) | (simp [*]; done)), H', ⟨Nat.le_refl _⟩, ⟨by (with_reducible repeat (first | apply Kd.R_alloc | apply Kd.R_drewN | apply Kd.R_drew)); exact HO_5.out⟩, ⟨by (with_reducible repeat (first | refine blk_drewN ?_ _ | refine blk_drew ?_ | refine blk_alloc ?_ _)); exact BK138.out⟩, ⟨by repeat (first | (with_reducible first | exact HB.out | apply below_alloc | apply pw_below_drewN | apply below_drew1 | refine below_set ?_ GE138.out) | exact HB.out)⟩⟩
                  case round =>
                    clear H'
                    try clear c1
                    try clear p1
                    try clear q1
                    try clear hx1
                    try clear c2
                    try clear p2
                    try clear c3
                    try clear p3
                    try clear q3
                    try clear hx3
                    try clear hf3
                    try clear c6
                    try clear p6
                    try clear c9
                    try clear c10
                    try clear c12
                    try clear c14
                    try clear c14b0
                    try clear c14b1
                    try clear p14
                    try clear q14
                    try clear hx14
                    try clear c15
                    try clear c15b0
                    try clear c15b1
                    try clear c18
                    try clear c20
                    try clear c20b0
                    try clear c22
                    try clear c23
                    try clear c23b0
                    try clear c26
                    try clear c26b0
                    try clear c30
                    try clear c30b0
                    try clear c31
                    try clear c31b0
                    try clear c32
                    try clear c32b0
                    try clear c32b1
                    try clear p33
                    try clear q33
                    try clear hx33
                    try clear hf33
                    try clear hcz11_0
                    try clear hcz11_1
                    try clear hcz11_2
                    try clear hcz16_0
                    try clear hcz16_1
                    try clear hcz16_2
                    try clear hcz24_0
                    try clear hcz24_1
                    try clear hcz24_2
                    try clear hcz27_0
                    try clear hcz27_1
                    try clear hcz27_2
                    try clear hcz34_0
                    try clear hcz34_1
                    try clear hcz34_2
                    try clear hcz39_0
                    try clear hcz39_1
                    try clear hcz39_2
                    try clear hcz42_0
                    try clear hcz42_1
                    try clear hcz42_2
                    try clear hcz44_0
                    try clear hcz44_1
                    try clear hcz44_2
                    try clear hcz7_0
                    try clear hcz7_1
                    try clear hcz7_2
                    try clear hfz11_0
                    try clear hfz11_1
                    try clear hfz11_2
                    try clear hfz16_0
                    try clear hfz16_1
                    try clear hfz16_2
                    try clear hfz24_0
                    try clear hfz24_1
                    try clear hfz24_2
                    try clear hfz27_0
                    try clear hfz27_1
                    try clear hfz27_2
                    try clear hfz34_0
                    try clear hfz34_1
                    try clear hfz34_2
                    try clear hfz39_0
                    try clear hfz39_1
                    try clear hfz39_2
                    try clear hfz42_0
                    try clear hfz42_1
                    try clear hfz42_2
                    try clear hfz44_0
                    try clear hfz44_1
                    try clear hfz44_2
                    try clear hfz7_0
                    try clear hfz7_1
                    try clear hfz7_2
                    try clear hx147_0
                    try clear hx33_0
                    try clear p147
                    try clear p2
                    try clear p33
                    try clear q147
                    try clear q33
                    obtain ⟨x5_3, x9_3, rfl, HA, HK3, HO_5, BK138, HB⟩ := hrel
                    cases gk with
                    | zero => exact absurd HA.out (by simp [lockgatelaw3_GeomParts.l1])
                    | succ k3 =>
                      have H := HA.out
                      clear HA
                      simp only [lockgatelaw3_GeomParts.l1] at H
                      replace H := Option.bind_eq_some_iff.mp H
                      obtain ⟨t149, A450, H⟩ := H
                      replace H : (if x9_3 ≤ t149 then ((geom_InodeAt.f k3 a0_0 a0_1 a0_2 x9_3).bind fun bt150 => ((geom_Group.f a0_0 a0_1 a0_2 x9_3).bind fun bt153 => (if bt150.2.2 = true then (if bt153.2.2 = true then (if bt150.1 < 1 then (some false) else (if bt150.1 ≥ (x5_3.length : Int) then (some false) else (if 0 ≤ bt150.1 then (if bt150.1 < (x5_3.length : Int) then (if (rd x5_3 bt150.1) = 1 then (some false) else (if bt150.2.1 = (wrap64 ((Int.tmod (wrap64 (x9_3 - 1)) 16) * 64)) then (if (wrap64 ((wrap64 ((wrap64 (bt153.1 * 16)) * a0_1)) + bt153.2.1)) = (wrap64 (x9_3 - 1)) then (lockgatelaw3_GeomParts.l1 k3 (x5_3.set (bt150.1 : Int).toNat 2) (wrap64 (x9_3 + 1)) a0_0 a0_1 a0_2) else (some false)) else (some false))) else (none)) else (none)))) else (some false)) else (some false)))) else (lockgatelaw3_GeomParts.l2 k3 x5_3 0 a0_0 a0_1 a0_2)) = some r := H
                      have A45 := Aside0.mk A450
                      clear A450
                      by_cases c46 : x9_3 ≤ t149
                      · rw [if_pos c46] at H
                        have c46b0 : decide (x9_3 ≤ t149) = true := decide_eq_true c46
                        clear c46
                        replace H := Option.bind_eq_some_iff.mp H
                        obtain ⟨⟨t150, t151, t152⟩, A470, H⟩ := H
                        replace H : ((geom_Group.f a0_0 a0_1 a0_2 x9_3).bind fun bt153 => (if t152 = true then (if bt153.2.2 = true then (if t150 < 1 then (some false) else (if t150 ≥ (x5_3.length : Int) then (some false) else (if 0 ≤ t150 then (if t150 < (x5_3.length : Int) then (if (rd x5_3 t150) = 1 then (some false) else (if t151 = (wrap64 ((Int.tmod (wrap64 (x9_3 - 1)) 16) * 64)) then (if (wrap64 ((wrap64 ((wrap64 (bt153.1 * 16)) * a0_1)) + bt153.2.1)) = (wrap64 (x9_3 - 1)) then (lockgatelaw3_GeomParts.l1 k3 (x5_3.set (t150 : Int).toNat 2) (wrap64 (x9_3 + 1)) a0_0 a0_1 a0_2) else (some false)) else (some false))) else (none)) else (none)))) else (some false)) else (some false))) = some r := H
                        have A47 := Aside0.mk A470
                        clear A470
                        replace H := Option.bind_eq_some_iff.mp H
                        obtain ⟨⟨t153, t154, t155⟩, A480, H⟩ := H
                        replace H : (if t152 = true then (if t155 = true then (if t150 < 1 then (some false) else (if t150 ≥ (x5_3.length : Int) then (some false) else (if 0 ≤ t150 then (if t150 < (x5_3.length : Int) then (if (rd x5_3 t150) = 1 then (some false) else (if t151 = (wrap64 ((Int.tmod (wrap64 (x9_3 - 1)) 16) * 64)) then (if (wrap64 ((wrap64 ((wrap64 (t153 * 16)) * a0_1)) + t154)) = (wrap64 (x9_3 - 1)) then (lockgatelaw3_GeomParts.l1 k3 (x5_3.set (t150 : Int).toNat 2) (wrap64 (x9_3 + 1)) a0_0 a0_1 a0_2) else (some false)) else (some false))) else (none)) else (none)))) else (some false)) else (some false)) = some r := H
                        have A48 := Aside0.mk A480
                        clear A480
                        by_cases c49 : t152 = true
                        · subst c49
                          have H1 : (if t155 = true then (if t150 < 1 then (some false) else (if t150 ≥ (x5_3.length : Int) then (some false) else (if 0 ≤ t150 then (if t150 < (x5_3.length : Int) then (if (rd x5_3 t150) = 1 then (some false) else (if t151 = (wrap64 ((Int.tmod (wrap64 (x9_3 - 1)) 16) * 64)) then (if (wrap64 ((wrap64 ((wrap64 (t153 * 16)) * a0_1)) + t154)) = (wrap64 (x9_3 - 1)) then (lockgatelaw3_GeomParts.l1 k3 (x5_3.set (t150 : Int).toNat 2) (wrap64 (x9_3 + 1)) a0_0 a0_1 a0_2) else (some false)) else (some false))) else (none)) else (none)))) else (some false)) = some r := by rw [if_pos rfl] at H; exact H
                          clear H
                          have H := H1
                          clear H1
                          by_cases c50 : t155 = true
                          · subst c50
                            have H1 : (if t150 < 1 then (some false) else (if t150 ≥ (x5_3.length : Int) then (some false) else (if 0 ≤ t150 then (if t150 < (x5_3.length : Int) then (if (rd x5_3 t150) = 1 then (some false) else (if t151 = (wrap64 ((Int.tmod (wrap64 (x9_3 - 1)) 16) * 64)) then (if (wrap64 ((wrap64 ((wrap64 (t153 * 16)) * a0_1)) + t154)) = (wrap64 (x9_3 - 1)) then (lockgatelaw3_GeomParts.l1 k3 (x5_3.set (t150 : Int).toNat 2) (wrap64 (x9_3 + 1)) a0_0 a0_1 a0_2) else (some false)) else (some false))) else (none)) else (none)))) = some r := by rw [if_pos rfl] at H; exact H
                            clear H
                            have H := H1
                            clear H1
                            by_cases c51 : t150 < 1
                            · rw [if_pos c51] at H
                              have c51b0 : decide (t150 < 1) = true := decide_eq_true c51
                              clear c51
                              obtain rfl := Option.some.inj H
                              have hcz52_0 : wr.cell? ⟨gb138, 0, none⟩ = some (.int .i64 a0_0) := (blk_cell BK138.out 0).trans rfl
                              have hcz52_1 : wr.cell? ⟨gb138, 1, none⟩ = some (.int .i64 a0_1) := (blk_cell BK138.out 1).trans rfl
                              have hcz52_2 : wr.cell? ⟨gb138, 2, none⟩ = some (.int .i64 a0_2) := (blk_cell BK138.out 2).trans rfl
                              have hfz52_0 := blk_frozen BK138.out 0
                              have hfz52_1 := blk_frozen BK138.out 1
                              have hfz52_2 := blk_frozen BK138.out 2
                              go_wp2_with (first | ((with_reducible refine gate_callee (f := 16) rfl ?_); refine goesL_ (some 78) rfl rfl Try.func16 (by kernel_rfl) rfl #[.agg #[.int .i64 a0_0, .int .i64 a0_1, .int .i64 a0_2]] rfl (by (try simp only [List.map_toArray, List.map_cons, List.map_nil]); first | done | rfl | (simp only [List.length_drop, List.length_take]; rfl)) ?_; (with_reducible refine (geom_Inodes.calls a0_0 a0_1 a0_2 t149 _ A45.out).mono ?_); rintro e w53 ⟨rfl, hb⟩; refine ⟨_, rfl, ?_⟩; have n0_ := Aside0.mk (Kd.R_below (by (with_reducible repeat (first | apply Kd.R_alloc | apply Kd.R_drewN | apply Kd.R_drew)); exact HO_5.out) hb); have n1_ := Aside0.mk (blk_below (g := gb138) (o := .cells #[.int .i64 a0_0, .int .i64 a0_1, .int .i64 a0_2] 24 (0, 0)) (by (with_reducible repeat (first | refine blk_drewN ?_ _ | refine blk_drew ?_ | refine blk_alloc ?_ _)); exact BK138.out) hb); have n2_ := Aside0.mk (below_step (by repeat (first | (with_reducible first | exact HB.out | apply below_alloc | apply pw_below_drewN | apply below_drew1 | refine below_set ?_ GE138.out) | exact HB.out)) hb); clear HO_5; clear BK138; clear HB; have HO_5 := n0_; have BK138 := n1_; have HB := n2_; clear n0_ n1_ n2_; (try clear hb); (try clear hb2); (try clear hk); (try clear hi); have hcz54_0 : w53.cell? ⟨gb138, 0, none⟩ = some (.int .i64 a0_0) := (blk_cell BK138.out 0).trans rfl; have hcz54_1 : w53.cell? ⟨gb138, 1, none⟩ = some (.int .i64 a0_1) := (blk_cell BK138.out 1).trans rfl; have hcz54_2 : w53.cell? ⟨gb138, 2, none⟩ = some (.int .i64 a0_2) := (blk_cell BK138.out 2).trans rfl; have hfz54_0 := blk_frozen BK138.out 0; have hfz54_1 := blk_frozen BK138.out 1; have hfz54_2 := blk_frozen BK138.out 2) | ((with_reducible refine gate_callee (f := 13) rfl ?_); refine goesL_ (some 85) rfl rfl Try.func13 (by kernel_rfl) rfl #[.agg #[.int .i64 a0_0, .int .i64 a0_1, .int .i64 a0_2], .int .i64 x9_3] rfl (by (try simp only [List.map_toArray, List.map_cons, List.map_nil]); first | done | rfl | (simp only [List.length_drop, List.length_take]; rfl)) ?_; (with_reducible refine (geom_InodeAt.calls k3 a0_0 a0_1 a0_2 x9_3 t150 t151 true _ A47.out).mono ?_); rintro e w55 ⟨rfl, hb⟩; refine ⟨_, rfl, ?_⟩; have n0_ := Aside0.mk (Kd.R_below (by (with_reducible repeat (first | apply Kd.R_alloc | apply Kd.R_drewN | apply Kd.R_drew)); exact HO_5.out) hb); have n1_ := Aside0.mk (blk_below (g := gb138) (o := .cells #[.int .i64 a0_0, .int .i64 a0_1, .int .i64 a0_2] 24 (0, 0)) (by (with_reducible repeat (first | refine blk_drewN ?_ _ | refine blk_drew ?_ | refine blk_alloc ?_ _)); exact BK138.out) hb); have n2_ := Aside0.mk (below_step (by repeat (first | (with_reducible first | exact HB.out | apply below_alloc | apply pw_below_drewN | apply below_drew1 | refine below_set ?_ GE138.out) | exact HB.out)) hb); clear HO_5; clear BK138; clear HB; have HO_5 := n0_; have BK138 := n1_; have HB := n2_; clear n0_ n1_ n2_; (try clear hb); (try clear hb2); (try clear hk); (try clear hi); have hcz56_0 : w55.cell? ⟨gb138, 0, none⟩ = some (.int .i64 a0_0) := (blk_cell BK138.out 0).trans rfl; have hcz56_1 : w55.cell? ⟨gb138, 1, none⟩ = some (.int .i64 a0_1) := (blk_cell BK138.out 1).trans rfl; have hcz56_2 : w55.cell? ⟨gb138, 2, none⟩ = some (.int .i64 a0_2) := (blk_cell BK138.out 2).trans rfl; have hfz56_0 := blk_frozen BK138.out 0; have hfz56_1 := blk_frozen BK138.out 1; have hfz56_2 := blk_frozen BK138.out 2) | ((with_reducible refine gate_callee (f := 27) rfl ?_); refine goesL_ (some 92) rfl rfl Try.func27 (by kernel_rfl) rfl #[.agg #[.int .i64 a0_0, .int .i64 a0_1, .int .i64 a0_2], .int .i64 x9_3] rfl (by (try simp only [List.map_toArray, List.map_cons, List.map_nil]); first | done | rfl | (simp only [List.length_drop, List.length_take]; rfl)) ?_; (with_reducible refine (geom_Group.calls a0_0 a0_1 a0_2 x9_3 t153 t154 true _ A48.out).mono ?_); rintro e w57 ⟨rfl, hb⟩; refine ⟨_, rfl, ?_⟩; have n0_ := Aside0.mk (Kd.R_below (by (with_reducible repeat (first | apply Kd.R_alloc | apply Kd.R_drewN | apply Kd.R_drew)); exact HO_5.out) hb); have n1_ := Aside0.mk (blk_below (g := gb138) (o := .cells #[.int .i64 a0_0, .int .i64 a0_1, .int .i64 a0_2] 24 (0, 0)) (by (with_reducible repeat (first | refine blk_drewN ?_ _ | refine blk_drew ?_ | refine blk_alloc ?_ _)); exact BK138.out) hb); have n2_ := Aside0.mk (below_step (by repeat (first | (with_reducible first | exact HB.out | apply below_alloc | apply pw_below_drewN | apply below_drew1 | refine below_set ?_ GE138.out) | exact HB.out)) hb); clear HO_5; clear BK138; clear HB; have HO_5 := n0_; have BK138 := n1_; have HB := n2_; clear n0_ n1_ n2_; (try clear hb); (try clear hb2); (try clear hk); (try clear hi)))
                              go_ret
                              exact ⟨by first | rfl | (simp [errW_none, errW_some] <;> rfl) | (simp [*, errW_none, errW_some] <;> rfl), by repeat (first | (with_reducible first | exact HB.out | apply below_alloc | apply pw_below_drewN | apply below_drew1 | refine below_set ?_ GE138.out) | exact HB.out)⟩
                            · rw [if_neg c51] at H
                              have c51b0 : decide (t150 < 1) = false := decide_eq_false c51
                              clear c51
                              by_cases c58 : t150 ≥ (x5_3.length : Int)
                              · rw [if_pos c58] at H
                                have c58b0 : decide ((x5_3.length : Int) ≤ t150) = true := decide_eq_true c58
                                clear c58
                                obtain rfl := Option.some.inj H
                                have hcz59_0 : wr.cell? ⟨gb138, 0, none⟩ = some (.int .i64 a0_0) := (blk_cell BK138.out 0).trans rfl
                                have hcz59_1 : wr.cell? ⟨gb138, 1, none⟩ = some (.int .i64 a0_1) := (blk_cell BK138.out 1).trans rfl
                                have hcz59_2 : wr.cell? ⟨gb138, 2, none⟩ = some (.int .i64 a0_2) := (blk_cell BK138.out 2).trans rfl
                                have hfz59_0 := blk_frozen BK138.out 0
                                have hfz59_1 := blk_frozen BK138.out 1
                                have hfz59_2 := blk_frozen BK138.out 2
                                go_wp2_with (first | ((with_reducible refine gate_callee (f := 16) rfl ?_); refine goesL_ (some 78) rfl rfl Try.func16 (by kernel_rfl) rfl #[.agg #[.int .i64 a0_0, .int .i64 a0_1, .int .i64 a0_2]] rfl (by (try simp only [List.map_toArray, List.map_cons, List.map_nil]); first | done | rfl | (simp only [List.length_drop, List.length_take]; rfl)) ?_; (with_reducible refine (geom_Inodes.calls a0_0 a0_1 a0_2 t149 _ A45.out).mono ?_); rintro e w60 ⟨rfl, hb⟩; refine ⟨_, rfl, ?_⟩; have n0_ := Aside0.mk (Kd.R_below (by (with_reducible repeat (first | apply Kd.R_alloc | apply Kd.R_drewN | apply Kd.R_drew)); exact HO_5.out) hb); have n1_ := Aside0.mk (blk_below (g := gb138) (o := .cells #[.int .i64 a0_0, .int .i64 a0_1, .int .i64 a0_2] 24 (0, 0)) (by (with_reducible repeat (first | refine blk_drewN ?_ _ | refine blk_drew ?_ | refine blk_alloc ?_ _)); exact BK138.out) hb); have n2_ := Aside0.mk (below_step (by repeat (first | (with_reducible first | exact HB.out | apply below_alloc | apply pw_below_drewN | apply below_drew1 | refine below_set ?_ GE138.out) | exact HB.out)) hb); clear HO_5; clear BK138; clear HB; have HO_5 := n0_; have BK138 := n1_; have HB := n2_; clear n0_ n1_ n2_; (try clear hb); (try clear hb2); (try clear hk); (try clear hi); have hcz61_0 : w60.cell? ⟨gb138, 0, none⟩ = some (.int .i64 a0_0) := (blk_cell BK138.out 0).trans rfl; have hcz61_1 : w60.cell? ⟨gb138, 1, none⟩ = some (.int .i64 a0_1) := (blk_cell BK138.out 1).trans rfl; have hcz61_2 : w60.cell? ⟨gb138, 2, none⟩ = some (.int .i64 a0_2) := (blk_cell BK138.out 2).trans rfl; have hfz61_0 := blk_frozen BK138.out 0; have hfz61_1 := blk_frozen BK138.out 1; have hfz61_2 := blk_frozen BK138.out 2) | ((with_reducible refine gate_callee (f := 13) rfl ?_); refine goesL_ (some 85) rfl rfl Try.func13 (by kernel_rfl) rfl #[.agg #[.int .i64 a0_0, .int .i64 a0_1, .int .i64 a0_2], .int .i64 x9_3] rfl (by (try simp only [List.map_toArray, List.map_cons, List.map_nil]); first | done | rfl | (simp only [List.length_drop, List.length_take]; rfl)) ?_; (with_reducible refine (geom_InodeAt.calls k3 a0_0 a0_1 a0_2 x9_3 t150 t151 true _ A47.out).mono ?_); rintro e w62 ⟨rfl, hb⟩; refine ⟨_, rfl, ?_⟩; have n0_ := Aside0.mk (Kd.R_below (by (with_reducible repeat (first | apply Kd.R_alloc | apply Kd.R_drewN | apply Kd.R_drew)); exact HO_5.out) hb); have n1_ := Aside0.mk (blk_below (g := gb138) (o := .cells #[.int .i64 a0_0, .int .i64 a0_1, .int .i64 a0_2] 24 (0, 0)) (by (with_reducible repeat (first | refine blk_drewN ?_ _ | refine blk_drew ?_ | refine blk_alloc ?_ _)); exact BK138.out) hb); have n2_ := Aside0.mk (below_step (by repeat (first | (with_reducible first | exact HB.out | apply below_alloc | apply pw_below_drewN | apply below_drew1 | refine below_set ?_ GE138.out) | exact HB.out)) hb); clear HO_5; clear BK138; clear HB; have HO_5 := n0_; have BK138 := n1_; have HB := n2_; clear n0_ n1_ n2_; (try clear hb); (try clear hb2); (try clear hk); (try clear hi); have hcz63_0 : w62.cell? ⟨gb138, 0, none⟩ = some (.int .i64 a0_0) := (blk_cell BK138.out 0).trans rfl; have hcz63_1 : w62.cell? ⟨gb138, 1, none⟩ = some (.int .i64 a0_1) := (blk_cell BK138.out 1).trans rfl; have hcz63_2 : w62.cell? ⟨gb138, 2, none⟩ = some (.int .i64 a0_2) := (blk_cell BK138.out 2).trans rfl; have hfz63_0 := blk_frozen BK138.out 0; have hfz63_1 := blk_frozen BK138.out 1; have hfz63_2 := blk_frozen BK138.out 2) | ((with_reducible refine gate_callee (f := 27) rfl ?_); refine goesL_ (some 92) rfl rfl Try.func27 (by kernel_rfl) rfl #[.agg #[.int .i64 a0_0, .int .i64 a0_1, .int .i64 a0_2], .int .i64 x9_3] rfl (by (try simp only [List.map_toArray, List.map_cons, List.map_nil]); first | done | rfl | (simp only [List.length_drop, List.length_take]; rfl)) ?_; (with_reducible refine (geom_Group.calls a0_0 a0_1 a0_2 x9_3 t153 t154 true _ A48.out).mono ?_); rintro e w64 ⟨rfl, hb⟩; refine ⟨_, rfl, ?_⟩; have n0_ := Aside0.mk (Kd.R_below (by (with_reducible repeat (first | apply Kd.R_alloc | apply Kd.R_drewN | apply Kd.R_drew)); exact HO_5.out) hb); have n1_ := Aside0.mk (blk_below (g := gb138) (o := .cells #[.int .i64 a0_0, .int .i64 a0_1, .int .i64 a0_2] 24 (0, 0)) (by (with_reducible repeat (first | refine blk_drewN ?_ _ | refine blk_drew ?_ | refine blk_alloc ?_ _)); exact BK138.out) hb); have n2_ := Aside0.mk (below_step (by repeat (first | (with_reducible first | exact HB.out | apply below_alloc | apply pw_below_drewN | apply below_drew1 | refine below_set ?_ GE138.out) | exact HB.out)) hb); clear HO_5; clear BK138; clear HB; have HO_5 := n0_; have BK138 := n1_; have HB := n2_; clear n0_ n1_ n2_; (try clear hb); (try clear hb2); (try clear hk); (try clear hi); obtain ⟨Ao65, co65, eo65⟩ := Kd.R_slice HO_5.out; subst eo65))
                                go_ret
                                exact ⟨by first | rfl | (simp [errW_none, errW_some] <;> rfl) | (simp [*, errW_none, errW_some] <;> rfl), by repeat (first | (with_reducible first | exact HB.out | apply below_alloc | apply pw_below_drewN | apply below_drew1 | refine below_set ?_ GE138.out) | exact HB.out)⟩
                              · rw [if_neg c58] at H
                                have c58b0 : decide ((x5_3.length : Int) ≤ t150) = false := decide_eq_false c58
                                clear c58
                                by_cases c66 : 0 ≤ t150
                                · rw [if_pos c66] at H
                                  have c66b0 : decide (0 ≤ t150) = true := decide_eq_true c66
                                  clear c66
                                  by_cases c67 : t150 < (x5_3.length : Int)
                                  · rw [if_pos c67] at H
                                    have c67b0 : decide (t150 < (x5_3.length : Int)) = true := decide_eq_true c67
                                    clear c67
                                    by_cases c68 : (rd x5_3 t150) = 1
                                    · rw [if_pos c68] at H
                                      have c68b0 : ((rd x5_3 t150) == 1) = true := beq_iff_eq.mpr c68
                                      have c68b1 : ((rd x5_3 t150) != 1) = false := bne_eq_false_iff_eq.mpr c68
                                      clear c68
                                      obtain rfl := Option.some.inj H
                                      have hcz69_0 : wr.cell? ⟨gb138, 0, none⟩ = some (.int .i64 a0_0) := (blk_cell BK138.out 0).trans rfl
                                      have hcz69_1 : wr.cell? ⟨gb138, 1, none⟩ = some (.int .i64 a0_1) := (blk_cell BK138.out 1).trans rfl
                                      have hcz69_2 : wr.cell? ⟨gb138, 2, none⟩ = some (.int .i64 a0_2) := (blk_cell BK138.out 2).trans rfl
                                      have hfz69_0 := blk_frozen BK138.out 0
                                      have hfz69_1 := blk_frozen BK138.out 1
                                      have hfz69_2 := blk_frozen BK138.out 2
                                      go_wp2_with (first | ((with_reducible refine gate_callee (f := 16) rfl ?_); refine goesL_ (some 78) rfl rfl Try.func16 (by kernel_rfl) rfl #[.agg #[.int .i64 a0_0, .int .i64 a0_1, .int .i64 a0_2]] rfl (by (try simp only [List.map_toArray, List.map_cons, List.map_nil]); first | done | rfl | (simp only [List.length_drop, List.length_take]; rfl)) ?_; (with_reducible refine (geom_Inodes.calls a0_0 a0_1 a0_2 t149 _ A45.out).mono ?_); rintro e w70 ⟨rfl, hb⟩; refine ⟨_, rfl, ?_⟩; have n0_ := Aside0.mk (Kd.R_below (by (with_reducible repeat (first | apply Kd.R_alloc | apply Kd.R_drewN | apply Kd.R_drew)); exact HO_5.out) hb); have n1_ := Aside0.mk (blk_below (g := gb138) (o := .cells #[.int .i64 a0_0, .int .i64 a0_1, .int .i64 a0_2] 24 (0, 0)) (by (with_reducible repeat (first | refine blk_drewN ?_ _ | refine blk_drew ?_ | refine blk_alloc ?_ _)); exact BK138.out) hb); have n2_ := Aside0.mk (below_step (by repeat (first | (with_reducible first | exact HB.out | apply below_alloc | apply pw_below_drewN | apply below_drew1 | refine below_set ?_ GE138.out) | exact HB.out)) hb); clear HO_5; clear BK138; clear HB; have HO_5 := n0_; have BK138 := n1_; have HB := n2_; clear n0_ n1_ n2_; (try clear hb); (try clear hb2); (try clear hk); (try clear hi); have hcz71_0 : w70.cell? ⟨gb138, 0, none⟩ = some (.int .i64 a0_0) := (blk_cell BK138.out 0).trans rfl; have hcz71_1 : w70.cell? ⟨gb138, 1, none⟩ = some (.int .i64 a0_1) := (blk_cell BK138.out 1).trans rfl; have hcz71_2 : w70.cell? ⟨gb138, 2, none⟩ = some (.int .i64 a0_2) := (blk_cell BK138.out 2).trans rfl; have hfz71_0 := blk_frozen BK138.out 0; have hfz71_1 := blk_frozen BK138.out 1; have hfz71_2 := blk_frozen BK138.out 2) | ((with_reducible refine gate_callee (f := 13) rfl ?_); refine goesL_ (some 85) rfl rfl Try.func13 (by kernel_rfl) rfl #[.agg #[.int .i64 a0_0, .int .i64 a0_1, .int .i64 a0_2], .int .i64 x9_3] rfl (by (try simp only [List.map_toArray, List.map_cons, List.map_nil]); first | done | rfl | (simp only [List.length_drop, List.length_take]; rfl)) ?_; (with_reducible refine (geom_InodeAt.calls k3 a0_0 a0_1 a0_2 x9_3 t150 t151 true _ A47.out).mono ?_); rintro e w72 ⟨rfl, hb⟩; refine ⟨_, rfl, ?_⟩; have n0_ := Aside0.mk (Kd.R_below (by (with_reducible repeat (first | apply Kd.R_alloc | apply Kd.R_drewN | apply Kd.R_drew)); exact HO_5.out) hb); have n1_ := Aside0.mk (blk_below (g := gb138) (o := .cells #[.int .i64 a0_0, .int .i64 a0_1, .int .i64 a0_2] 24 (0, 0)) (by (with_reducible repeat (first | refine blk_drewN ?_ _ | refine blk_drew ?_ | refine blk_alloc ?_ _)); exact BK138.out) hb); have n2_ := Aside0.mk (below_step (by repeat (first | (with_reducible first | exact HB.out | apply below_alloc | apply pw_below_drewN | apply below_drew1 | refine below_set ?_ GE138.out) | exact HB.out)) hb); clear HO_5; clear BK138; clear HB; have HO_5 := n0_; have BK138 := n1_; have HB := n2_; clear n0_ n1_ n2_; (try clear hb); (try clear hb2); (try clear hk); (try clear hi); have hcz73_0 : w72.cell? ⟨gb138, 0, none⟩ = some (.int .i64 a0_0) := (blk_cell BK138.out 0).trans rfl; have hcz73_1 : w72.cell? ⟨gb138, 1, none⟩ = some (.int .i64 a0_1) := (blk_cell BK138.out 1).trans rfl; have hcz73_2 : w72.cell? ⟨gb138, 2, none⟩ = some (.int .i64 a0_2) := (blk_cell BK138.out 2).trans rfl; have hfz73_0 := blk_frozen BK138.out 0; have hfz73_1 := blk_frozen BK138.out 1; have hfz73_2 := blk_frozen BK138.out 2) | ((with_reducible refine gate_callee (f := 27) rfl ?_); refine goesL_ (some 92) rfl rfl Try.func27 (by kernel_rfl) rfl #[.agg #[.int .i64 a0_0, .int .i64 a0_1, .int .i64 a0_2], .int .i64 x9_3] rfl (by (try simp only [List.map_toArray, List.map_cons, List.map_nil]); first | done | rfl | (simp only [List.length_drop, List.length_take]; rfl)) ?_; (with_reducible refine (geom_Group.calls a0_0 a0_1 a0_2 x9_3 t153 t154 true _ A48.out).mono ?_); rintro e w74 ⟨rfl, hb⟩; refine ⟨_, rfl, ?_⟩; have n0_ := Aside0.mk (Kd.R_below (by (with_reducible repeat (first | apply Kd.R_alloc | apply Kd.R_drewN | apply Kd.R_drew)); exact HO_5.out) hb); have n1_ := Aside0.mk (blk_below (g := gb138) (o := .cells #[.int .i64 a0_0, .int .i64 a0_1, .int .i64 a0_2] 24 (0, 0)) (by (with_reducible repeat (first | refine blk_drewN ?_ _ | refine blk_drew ?_ | refine blk_alloc ?_ _)); exact BK138.out) hb); have n2_ := Aside0.mk (below_step (by repeat (first | (with_reducible first | exact HB.out | apply below_alloc | apply pw_below_drewN | apply below_drew1 | refine below_set ?_ GE138.out) | exact HB.out)) hb); clear HO_5; clear BK138; clear HB; have HO_5 := n0_; have BK138 := n1_; have HB := n2_; clear n0_ n1_ n2_; (try clear hb); (try clear hb2); (try clear hk); (try clear hi); obtain ⟨Ao75, co75, eo75⟩ := Kd.R_slice HO_5.out; subst eo75; have p156 : 0 ≤ (t150 : Int) := of_decide_eq_true (by first | (with_reducible assumption) | assumption); have q156 : t150 < (x5_3.length : Int) := of_decide_eq_true (by first | (with_reducible assumption) | assumption); obtain ⟨ad156, e156, hx156_0⟩ := Kd.at_int (Kd.R_reads' HO_5.out).2.2 t150 p156 q156; cases e156; replace p156 := eq_true p156; replace q156 := eq_true q156))
                                      go_ret
                                      exact ⟨by first | rfl | (simp [errW_none, errW_some] <;> rfl) | (simp [*, errW_none, errW_some] <;> rfl), by repeat (first | (with_reducible first | exact HB.out | apply below_alloc | apply pw_below_drewN | apply below_drew1 | refine below_set ?_ GE138.out) | exact HB.out)⟩
                                    · rw [if_neg c68] at H
                                      have c68b0 : ((rd x5_3 t150) == 1) = false := beq_eq_false_iff_ne.mpr c68
                                      have c68b1 : ((rd x5_3 t150) != 1) = true := bne_iff_ne.mpr c68
                                      by_cases c76 : t151 = (wrap64 ((Int.tmod (wrap64 (x9_3 - 1)) 16) * 64))
                                      · rw [if_pos c76] at H
                                        have c76b0 : (t151 == (wrap64 ((Int.tmod (wrap64 (x9_3 - 1)) 16) * 64))) = true := beq_iff_eq.mpr c76
                                        have c76b1 : (t151 != (wrap64 ((Int.tmod (wrap64 (x9_3 - 1)) 16) * 64))) = false := bne_eq_false_iff_eq.mpr c76
                                        clear c76
                                        by_cases c77 : (wrap64 ((wrap64 ((wrap64 (t153 * 16)) * a0_1)) + t154)) = (wrap64 (x9_3 - 1))
                                        · rw [if_pos c77] at H
                                          have c77b0 : ((wrap64 ((wrap64 ((wrap64 (t153 * 16)) * a0_1)) + t154)) == (wrap64 (x9_3 - 1))) = true := beq_iff_eq.mpr c77
                                          have c77b1 : ((wrap64 ((wrap64 ((wrap64 (t153 * 16)) * a0_1)) + t154)) != (wrap64 (x9_3 - 1))) = false := bne_eq_false_iff_eq.mpr c77
                                          clear c77
                                          obtain ⟨y157, hy157⟩ : ∃ y_ : List Int, y_ = (x5_3.set (t150 : Int).toNat 2) := ⟨_, rfl⟩
                                          replace H : (lockgatelaw3_GeomParts.l1 k3 y157 (wrap64 (x9_3 + 1)) a0_0 a0_1 a0_2) = some r := by first | (rw [hy157]; with_reducible exact H) | (have H2_ := (Option.bind_some _ _).symm.trans H; rw [hy157]; with_reducible exact H2_) | (have H2_ := (Option.bind_some _ _).symm.trans H; with_reducible exact H2_) | with_reducible exact H | (rw [hy157]; exact H) | exact H
                                          have Ny157 := Aside0.mk hy157
                                          clear hy157
                                          have H' := Aside0.mk H
                                          clear H
                                          have hcz79_0 : wr.cell? ⟨gb138, 0, none⟩ = some (.int .i64 a0_0) := (blk_cell BK138.out 0).trans rfl
                                          have hcz79_1 : wr.cell? ⟨gb138, 1, none⟩ = some (.int .i64 a0_1) := (blk_cell BK138.out 1).trans rfl
                                          have hcz79_2 : wr.cell? ⟨gb138, 2, none⟩ = some (.int .i64 a0_2) := (blk_cell BK138.out 2).trans rfl
                                          have hfz79_0 := blk_frozen BK138.out 0
                                          have hfz79_1 := blk_frozen BK138.out 1
                                          have hfz79_2 := blk_frozen BK138.out 2
                                          go_wp2_with (first | ((with_reducible refine gate_callee (f := 16) rfl ?_); refine goesL_ (some 78) rfl rfl Try.func16 (by kernel_rfl) rfl #[.agg #[.int .i64 a0_0, .int .i64 a0_1, .int .i64 a0_2]] rfl (by (try simp only [List.map_toArray, List.map_cons, List.map_nil]); first | done | rfl | (simp only [List.length_drop, List.length_take]; rfl)) ?_; (with_reducible refine (geom_Inodes.calls a0_0 a0_1 a0_2 t149 _ A45.out).mono ?_); rintro e w80 ⟨rfl, hb⟩; refine ⟨_, rfl, ?_⟩; have n0_ := Aside0.mk (Kd.R_below (by (with_reducible repeat (first | apply Kd.R_alloc | apply Kd.R_drewN | apply Kd.R_drew)); exact HO_5.out) hb); have n1_ := Aside0.mk (blk_below (g := gb138) (o := .cells #[.int .i64 a0_0, .int .i64 a0_1, .int .i64 a0_2] 24 (0, 0)) (by (with_reducible repeat (first | refine blk_drewN ?_ _ | refine blk_drew ?_ | refine blk_alloc ?_ _)); exact BK138.out) hb); have n2_ := Aside0.mk (below_step (by repeat (first | (with_reducible first | exact HB.out | apply below_alloc | apply pw_below_drewN | apply below_drew1 | refine below_set ?_ GE138.out) | exact HB.out)) hb); clear HO_5; clear BK138; clear HB; have HO_5 := n0_; have BK138 := n1_; have HB := n2_; clear n0_ n1_ n2_; (try clear hb); (try clear hb2); (try clear hk); (try clear hi); have hcz81_0 : w80.cell? ⟨gb138, 0, none⟩ = some (.int .i64 a0_0) := (blk_cell BK138.out 0).trans rfl; have hcz81_1 : w80.cell? ⟨gb138, 1, none⟩ = some (.int .i64 a0_1) := (blk_cell BK138.out 1).trans rfl; have hcz81_2 : w80.cell? ⟨gb138, 2, none⟩ = some (.int .i64 a0_2) := (blk_cell BK138.out 2).trans rfl; have hfz81_0 := blk_frozen BK138.out 0; have hfz81_1 := blk_frozen BK138.out 1; have hfz81_2 := blk_frozen BK138.out 2) | ((with_reducible refine gate_callee (f := 13) rfl ?_); refine goesL_ (some 85) rfl rfl Try.func13 (by kernel_rfl) rfl #[.agg #[.int .i64 a0_0, .int .i64 a0_1, .int .i64 a0_2], .int .i64 x9_3] rfl (by (try simp only [List.map_toArray, List.map_cons, List.map_nil]); first | done | rfl | (simp only [List.length_drop, List.length_take]; rfl)) ?_; (with_reducible refine (geom_InodeAt.calls k3 a0_0 a0_1 a0_2 x9_3 t150 t151 true _ A47.out).mono ?_); rintro e w82 ⟨rfl, hb⟩; refine ⟨_, rfl, ?_⟩; have n0_ := Aside0.mk (Kd.R_below (by (with_reducible repeat (first | apply Kd.R_alloc | apply Kd.R_drewN | apply Kd.R_drew)); exact HO_5.out) hb); have n1_ := Aside0.mk (blk_below (g := gb138) (o := .cells #[.int .i64 a0_0, .int .i64 a0_1, .int .i64 a0_2] 24 (0, 0)) (by (with_reducible repeat (first | refine blk_drewN ?_ _ | refine blk_drew ?_ | refine blk_alloc ?_ _)); exact BK138.out) hb); have n2_ := Aside0.mk (below_step (by repeat (first | (with_reducible first | exact HB.out | apply below_alloc | apply pw_below_drewN | apply below_drew1 | refine below_set ?_ GE138.out) | exact HB.out)) hb); clear HO_5; clear BK138; clear HB; have HO_5 := n0_; have BK138 := n1_; have HB := n2_; clear n0_ n1_ n2_; (try clear hb); (try clear hb2); (try clear hk); (try clear hi); have hcz83_0 : w82.cell? ⟨gb138, 0, none⟩ = some (.int .i64 a0_0) := (blk_cell BK138.out 0).trans rfl; have hcz83_1 : w82.cell? ⟨gb138, 1, none⟩ = some (.int .i64 a0_1) := (blk_cell BK138.out 1).trans rfl; have hcz83_2 : w82.cell? ⟨gb138, 2, none⟩ = some (.int .i64 a0_2) := (blk_cell BK138.out 2).trans rfl; have hfz83_0 := blk_frozen BK138.out 0; have hfz83_1 := blk_frozen BK138.out 1; have hfz83_2 := blk_frozen BK138.out 2) | ((with_reducible refine gate_callee (f := 27) rfl ?_); refine goesL_ (some 92) rfl rfl Try.func27 (by kernel_rfl) rfl #[.agg #[.int .i64 a0_0, .int .i64 a0_1, .int .i64 a0_2], .int .i64 x9_3] rfl (by (try simp only [List.map_toArray, List.map_cons, List.map_nil]); first | done | rfl | (simp only [List.length_drop, List.length_take]; rfl)) ?_; (with_reducible refine (geom_Group.calls a0_0 a0_1 a0_2 x9_3 t153 t154 true _ A48.out).mono ?_); rintro e w84 ⟨rfl, hb⟩; refine ⟨_, rfl, ?_⟩; have n0_ := Aside0.mk (Kd.R_below (by (with_reducible repeat (first | apply Kd.R_alloc | apply Kd.R_drewN | apply Kd.R_drew)); exact HO_5.out) hb); have n1_ := Aside0.mk (blk_below (g := gb138) (o := .cells #[.int .i64 a0_0, .int .i64 a0_1, .int .i64 a0_2] 24 (0, 0)) (by (with_reducible repeat (first | refine blk_drewN ?_ _ | refine blk_drew ?_ | refine blk_alloc ?_ _)); exact BK138.out) hb); have n2_ := Aside0.mk (below_step (by repeat (first | (with_reducible first | exact HB.out | apply below_alloc | apply pw_below_drewN | apply below_drew1 | refine below_set ?_ GE138.out) | exact HB.out)) hb); clear HO_5; clear BK138; clear HB; have HO_5 := n0_; have BK138 := n1_; have HB := n2_; clear n0_ n1_ n2_; (try clear hb); (try clear hb2); (try clear hk); (try clear hi); obtain ⟨Ao85, co85, eo85⟩ := Kd.R_slice HO_5.out; subst eo85; have p156 : 0 ≤ (t150 : Int) := of_decide_eq_true (by first | (with_reducible assumption) | assumption); have q156 : t150 < (x5_3.length : Int) := of_decide_eq_true (by first | (with_reducible assumption) | assumption); obtain ⟨ad156, e156, hx156_0⟩ := Kd.at_int (Kd.R_reads' HO_5.out).2.2 t150 p156 q156; cases e156; replace p156 := eq_true p156; replace q156 := eq_true q156; have hcz86_0 : w84.cell? ⟨gb138, 0, none⟩ = some (.int .i64 a0_0) := (blk_cell BK138.out 0).trans rfl; have hcz86_1 : w84.cell? ⟨gb138, 1, none⟩ = some (.int .i64 a0_1) := (blk_cell BK138.out 1).trans rfl; have hcz86_2 : w84.cell? ⟨gb138, 2, none⟩ = some (.int .i64 a0_2) := (blk_cell BK138.out 2).trans rfl; have hfz86_0 := blk_frozen BK138.out 0; have hfz86_1 := blk_frozen BK138.out 1; have hfz86_2 := blk_frozen BK138.out 2; have p78 : 0 ≤ (t150 : Int) := of_decide_eq_true (by first | (with_reducible assumption) | assumption); have q78 : (t150 : Int) < ((x5_3.length : Int) : Int) := of_decide_eq_true (by first | (with_reducible assumption) | assumption); obtain ⟨go78, co78, eo78, gb78, gl78, cl78, HG78⟩ := Kd.R_form HO_5.out (by omega); (first | cases eo78 | (injection eo78 with ea_ en_ ec_; (first | subst ea_ | (injection ea_ with ea_; subst ea_)); subst ec_; clear en_)); have GB78 := Aside0.mk gb78; have GG78 := Aside0.mk HG78; clear gb78 gl78 HG78; (first | simp only [add_plain] at hx156_0 | skip); obtain ⟨hx78_0, hf78_0⟩ := Kd.R_celln 0 HO_5.out (t150 : Int) p78 q78; replace p78 := eq_true p78; replace q78 := eq_true q78; obtain ⟨hy87_, hz87_⟩ := Kd.R_celln 0 HO_5.out (t150 : Int) (of_decide_eq_true (by first | (with_reducible assumption) | assumption)) (of_decide_eq_true (by first | (with_reducible assumption) | assumption)); have HP87 := Kd.R_putg HO_5.out (t150 : Int) 2) | ((with_reducible refine gate_store (t := 3) (p := 141) rfl ?_); refine store_event (t := 3) (p := 141) (v := ?vo_w88) (w1 := (w84.setCell ⟨go78, (t150 : Int).toNat, none⟩ (.int .i64 2))) ?hg ?ho ?hn ?hr ?_; (case ho => rfl); (case hg => rfl); (case hn => rfl); (case hr => first | (go_simp; done) | (go_simp; rfl)); intro w88 hw; have hg : w84.grownBy w88 (some go78) := (by rw [hw]; exact HP87.2); have hp_ : Kd.R (Kd.int .i64) 3 w88 w.heap.size (fun _ => True) (.slice (some ⟨go78, 0, none⟩) x5_3.length co85) y157 := (by rw [hw, Ny157.out]; exact HP87.1); clear HP87; have n0_ := Aside0.mk (hp_); have n1_ := Aside0.mk (blk_grown (g := gb138) (o := .cells #[.int .i64 a0_0, .int .i64 a0_1, .int .i64 a0_2] 24 (0, 0)) (by (with_reducible repeat (first | refine blk_drewN ?_ _ | refine blk_drew ?_ | refine blk_alloc ?_ _)); exact BK138.out) hg (Kd.R_ne HO_5.out BK138.out (by decide))); have n2_ := Aside0.mk ((by rw [hw]; exact below_set (HB.out) GB78.out : Below w.heap.size w w88)); clear HO_5; clear BK138; clear HB; have HO_5 := n0_; have BK138 := n1_; have HB := n2_; clear n0_ n1_ n2_; clear hg hw hp_))
                                          go_roundg k3
                                          case measure => have := HJ3.out; have := HK2.out; have := HK3.out; omega
                                          case rel => exact ⟨(y157), (wrap64 (x9_3 + 1)), (by first | rfl | (simp; done) | (simp [*]; done)), H', ⟨by have := HJ3.out; have := HK2.out; have := HK3.out; omega⟩, ⟨by (with_reducible repeat (first | apply Kd.R_alloc | apply Kd.R_drewN | apply Kd.R_drew)); exact HO_5.out⟩, ⟨by (with_reducible repeat (first | refine blk_drewN ?_ _ | refine blk_drew ?_ | refine blk_alloc ?_ _)); exact BK138.out⟩, ⟨by repeat (first | (with_reducible first | exact HB.out | apply below_alloc | apply pw_below_drewN | apply below_drew1 | refine below_set ?_ GE138.out) | exact HB.out)⟩⟩
                                        · rw [if_neg c77] at H
                                          have c77b0 : ((wrap64 ((wrap64 ((wrap64 (t153 * 16)) * a0_1)) + t154)) == (wrap64 (x9_3 - 1))) = false := beq_eq_false_iff_ne.mpr c77
                                          have c77b1 : ((wrap64 ((wrap64 ((wrap64 (t153 * 16)) * a0_1)) + t154)) != (wrap64 (x9_3 - 1))) = true := bne_iff_ne.mpr c77
                                          obtain rfl := Option.some.inj H
                                          have hcz89_0 : wr.cell? ⟨gb138, 0, none⟩ = some (.int .i64 a0_0) := (blk_cell BK138.out 0).trans rfl
                                          have hcz89_1 : wr.cell? ⟨gb138, 1, none⟩ = some (.int .i64 a0_1) := (blk_cell BK138.out 1).trans rfl
                                          have hcz89_2 : wr.cell? ⟨gb138, 2, none⟩ = some (.int .i64 a0_2) := (blk_cell BK138.out 2).trans rfl
                                          have hfz89_0 := blk_frozen BK138.out 0
                                          have hfz89_1 := blk_frozen BK138.out 1
                                          have hfz89_2 := blk_frozen BK138.out 2
                                          go_wp2_with (first | ((with_reducible refine gate_callee (f := 16) rfl ?_); refine goesL_ (some 78) rfl rfl Try.func16 (by kernel_rfl) rfl #[.agg #[.int .i64 a0_0, .int .i64 a0_1, .int .i64 a0_2]] rfl (by (try simp only [List.map_toArray, List.map_cons, List.map_nil]); first | done | rfl | (simp only [List.length_drop, List.length_take]; rfl)) ?_; (with_reducible refine (geom_Inodes.calls a0_0 a0_1 a0_2 t149 _ A45.out).mono ?_); rintro e w90 ⟨rfl, hb⟩; refine ⟨_, rfl, ?_⟩; have n0_ := Aside0.mk (Kd.R_below (by (with_reducible repeat (first | apply Kd.R_alloc | apply Kd.R_drewN | apply Kd.R_drew)); exact HO_5.out) hb); have n1_ := Aside0.mk (blk_below (g := gb138) (o := .cells #[.int .i64 a0_0, .int .i64 a0_1, .int .i64 a0_2] 24 (0, 0)) (by (with_reducible repeat (first | refine blk_drewN ?_ _ | refine blk_drew ?_ | refine blk_alloc ?_ _)); exact BK138.out) hb); have n2_ := Aside0.mk (below_step (by repeat (first | (with_reducible first | exact HB.out | apply below_alloc | apply pw_below_drewN | apply below_drew1 | refine below_set ?_ GE138.out) | exact HB.out)) hb); clear HO_5; clear BK138; clear HB; have HO_5 := n0_; have BK138 := n1_; have HB := n2_; clear n0_ n1_ n2_; (try clear hb); (try clear hb2); (try clear hk); (try clear hi); have hcz91_0 : w90.cell? ⟨gb138, 0, none⟩ = some (.int .i64 a0_0) := (blk_cell BK138.out 0).trans rfl; have hcz91_1 : w90.cell? ⟨gb138, 1, none⟩ = some (.int .i64 a0_1) := (blk_cell BK138.out 1).trans rfl; have hcz91_2 : w90.cell? ⟨gb138, 2, none⟩ = some (.int .i64 a0_2) := (blk_cell BK138.out 2).trans rfl; have hfz91_0 := blk_frozen BK138.out 0; have hfz91_1 := blk_frozen BK138.out 1; have hfz91_2 := blk_frozen BK138.out 2) | ((with_reducible refine gate_callee (f := 13) rfl ?_); refine goesL_ (some 85) rfl rfl Try.func13 (by kernel_rfl) rfl #[.agg #[.int .i64 a0_0, .int .i64 a0_1, .int .i64 a0_2], .int .i64 x9_3] rfl (by (try simp only [List.map_toArray, List.map_cons, List.map_nil]); first | done | rfl | (simp only [List.length_drop, List.length_take]; rfl)) ?_; (with_reducible refine (geom_InodeAt.calls k3 a0_0 a0_1 a0_2 x9_3 t150 t151 true _ A47.out).mono ?_); rintro e w92 ⟨rfl, hb⟩; refine ⟨_, rfl, ?_⟩; have n0_ := Aside0.mk (Kd.R_below (by (with_reducible repeat (first | apply Kd.R_alloc | apply Kd.R_drewN | apply Kd.R_drew)); exact HO_5.out) hb); have n1_ := Aside0.mk (blk_below (g := gb138) (o := .cells #[.int .i64 a0_0, .int .i64 a0_1, .int .i64 a0_2] 24 (0, 0)) (by (with_reducible repeat (first | refine blk_drewN ?_ _ | refine blk_drew ?_ | refine blk_alloc ?_ _)); exact BK138.out) hb); have n2_ := Aside0.mk (below_step (by repeat (first | (with_reducible first | exact HB.out | apply below_alloc | apply pw_below_drewN | apply below_drew1 | refine below_set ?_ GE138.out) | exact HB.out)) hb); clear HO_5; clear BK138; clear HB; have HO_5 := n0_; have BK138 := n1_; have HB := n2_; clear n0_ n1_ n2_; (try clear hb); (try clear hb2); (try clear hk); (try clear hi); have hcz93_0 : w92.cell? ⟨gb138, 0, none⟩ = some (.int .i64 a0_0) := (blk_cell BK138.out 0).trans rfl; have hcz93_1 : w92.cell? ⟨gb138, 1, none⟩ = some (.int .i64 a0_1) := (blk_cell BK138.out 1).trans rfl; have hcz93_2 : w92.cell? ⟨gb138, 2, none⟩ = some (.int .i64 a0_2) := (blk_cell BK138.out 2).trans rfl; have hfz93_0 := blk_frozen BK138.out 0; have hfz93_1 := blk_frozen BK138.out 1; have hfz93_2 := blk_frozen BK138.out 2) | ((with_reducible refine gate_callee (f := 27) rfl ?_); refine goesL_ (some 92) rfl rfl Try.func27 (by kernel_rfl) rfl #[.agg #[.int .i64 a0_0, .int .i64 a0_1, .int .i64 a0_2], .int .i64 x9_3] rfl (by (try simp only [List.map_toArray, List.map_cons, List.map_nil]); first | done | rfl | (simp only [List.length_drop, List.length_take]; rfl)) ?_; (with_reducible refine (geom_Group.calls a0_0 a0_1 a0_2 x9_3 t153 t154 true _ A48.out).mono ?_); rintro e w94 ⟨rfl, hb⟩; refine ⟨_, rfl, ?_⟩; have n0_ := Aside0.mk (Kd.R_below (by (with_reducible repeat (first | apply Kd.R_alloc | apply Kd.R_drewN | apply Kd.R_drew)); exact HO_5.out) hb); have n1_ := Aside0.mk (blk_below (g := gb138) (o := .cells #[.int .i64 a0_0, .int .i64 a0_1, .int .i64 a0_2] 24 (0, 0)) (by (with_reducible repeat (first | refine blk_drewN ?_ _ | refine blk_drew ?_ | refine blk_alloc ?_ _)); exact BK138.out) hb); have n2_ := Aside0.mk (below_step (by repeat (first | (with_reducible first | exact HB.out | apply below_alloc | apply pw_below_drewN | apply below_drew1 | refine below_set ?_ GE138.out) | exact HB.out)) hb); clear HO_5; clear BK138; clear HB; have HO_5 := n0_; have BK138 := n1_; have HB := n2_; clear n0_ n1_ n2_; (try clear hb); (try clear hb2); (try clear hk); (try clear hi); obtain ⟨Ao95, co95, eo95⟩ := Kd.R_slice HO_5.out; subst eo95; have p156 : 0 ≤ (t150 : Int) := of_decide_eq_true (by first | (with_reducible assumption) | assumption); have q156 : t150 < (x5_3.length : Int) := of_decide_eq_true (by first | (with_reducible assumption) | assumption); obtain ⟨ad156, e156, hx156_0⟩ := Kd.at_int (Kd.R_reads' HO_5.out).2.2 t150 p156 q156; cases e156; replace p156 := eq_true p156; replace q156 := eq_true q156; have hcz96_0 : w94.cell? ⟨gb138, 0, none⟩ = some (.int .i64 a0_0) := (blk_cell BK138.out 0).trans rfl; have hcz96_1 : w94.cell? ⟨gb138, 1, none⟩ = some (.int .i64 a0_1) := (blk_cell BK138.out 1).trans rfl; have hcz96_2 : w94.cell? ⟨gb138, 2, none⟩ = some (.int .i64 a0_2) := (blk_cell BK138.out 2).trans rfl; have hfz96_0 := blk_frozen BK138.out 0; have hfz96_1 := blk_frozen BK138.out 1; have hfz96_2 := blk_frozen BK138.out 2))
                                          go_ret
                                          exact ⟨by first | rfl | (simp [errW_none, errW_some] <;> rfl) | (simp [*, errW_none, errW_some] <;> rfl), by repeat (first | (with_reducible first | exact HB.out | apply below_alloc | apply pw_below_drewN | apply below_drew1 | refine below_set ?_ GE138.out) | exact HB.out)⟩
                                      · rw [if_neg c76] at H
                                        have c76b0 : (t151 == (wrap64 ((Int.tmod (wrap64 (x9_3 - 1)) 16) * 64))) = false := beq_eq_false_iff_ne.mpr c76
                                        have c76b1 : (t151 != (wrap64 ((Int.tmod (wrap64 (x9_3 - 1)) 16) * 64))) = true := bne_iff_ne.mpr c76
                                        obtain rfl := Option.some.inj H
                                        have hcz97_0 : wr.cell? ⟨gb138, 0, none⟩ = some (.int .i64 a0_0) := (blk_cell BK138.out 0).trans rfl
                                        have hcz97_1 : wr.cell? ⟨gb138, 1, none⟩ = some (.int .i64 a0_1) := (blk_cell BK138.out 1).trans rfl
                                        have hcz97_2 : wr.cell? ⟨gb138, 2, none⟩ = some (.int .i64 a0_2) := (blk_cell BK138.out 2).trans rfl
                                        have hfz97_0 := blk_frozen BK138.out 0
                                        have hfz97_1 := blk_frozen BK138.out 1
                                        have hfz97_2 := blk_frozen BK138.out 2
                                        go_wp2_with (first | ((with_reducible refine gate_callee (f := 16) rfl ?_); refine goesL_ (some 78) rfl rfl Try.func16 (by kernel_rfl) rfl #[.agg #[.int .i64 a0_0, .int .i64 a0_1, .int .i64 a0_2]] rfl (by (try simp only [List.map_toArray, List.map_cons, List.map_nil]); first | done | rfl | (simp only [List.length_drop, List.length_take]; rfl)) ?_; (with_reducible refine (geom_Inodes.calls a0_0 a0_1 a0_2 t149 _ A45.out).mono ?_); rintro e w98 ⟨rfl, hb⟩; refine ⟨_, rfl, ?_⟩; have n0_ := Aside0.mk (Kd.R_below (by (with_reducible repeat (first | apply Kd.R_alloc | apply Kd.R_drewN | apply Kd.R_drew)); exact HO_5.out) hb); have n1_ := Aside0.mk (blk_below (g := gb138) (o := .cells #[.int .i64 a0_0, .int .i64 a0_1, .int .i64 a0_2] 24 (0, 0)) (by (with_reducible repeat (first | refine blk_drewN ?_ _ | refine blk_drew ?_ | refine blk_alloc ?_ _)); exact BK138.out) hb); have n2_ := Aside0.mk (below_step (by repeat (first | (with_reducible first | exact HB.out | apply below_alloc | apply pw_below_drewN | apply below_drew1 | refine below_set ?_ GE138.out) | exact HB.out)) hb); clear HO_5; clear BK138; clear HB; have HO_5 := n0_; have BK138 := n1_; have HB := n2_; clear n0_ n1_ n2_; (try clear hb); (try clear hb2); (try clear hk); (try clear hi); have hcz99_0 : w98.cell? ⟨gb138, 0, none⟩ = some (.int .i64 a0_0) := (blk_cell BK138.out 0).trans rfl; have hcz99_1 : w98.cell? ⟨gb138, 1, none⟩ = some (.int .i64 a0_1) := (blk_cell BK138.out 1).trans rfl; have hcz99_2 : w98.cell? ⟨gb138, 2, none⟩ = some (.int .i64 a0_2) := (blk_cell BK138.out 2).trans rfl; have hfz99_0 := blk_frozen BK138.out 0; have hfz99_1 := blk_frozen BK138.out 1; have hfz99_2 := blk_frozen BK138.out 2) | ((with_reducible refine gate_callee (f := 13) rfl ?_); refine goesL_ (some 85) rfl rfl Try.func13 (by kernel_rfl) rfl #[.agg #[.int .i64 a0_0, .int .i64 a0_1, .int .i64 a0_2], .int .i64 x9_3] rfl (by (try simp only [List.map_toArray, List.map_cons, List.map_nil]); first | done | rfl | (simp only [List.length_drop, List.length_take]; rfl)) ?_; (with_reducible refine (geom_InodeAt.calls k3 a0_0 a0_1 a0_2 x9_3 t150 t151 true _ A47.out).mono ?_); rintro e w100 ⟨rfl, hb⟩; refine ⟨_, rfl, ?_⟩; have n0_ := Aside0.mk (Kd.R_below (by (with_reducible repeat (first | apply Kd.R_alloc | apply Kd.R_drewN | apply Kd.R_drew)); exact HO_5.out) hb); have n1_ := Aside0.mk (blk_below (g := gb138) (o := .cells #[.int .i64 a0_0, .int .i64 a0_1, .int .i64 a0_2] 24 (0, 0)) (by (with_reducible repeat (first | refine blk_drewN ?_ _ | refine blk_drew ?_ | refine blk_alloc ?_ _)); exact BK138.out) hb); have n2_ := Aside0.mk (below_step (by repeat (first | (with_reducible first | exact HB.out | apply below_alloc | apply pw_below_drewN | apply below_drew1 | refine below_set ?_ GE138.out) | exact HB.out)) hb); clear HO_5; clear BK138; clear HB; have HO_5 := n0_; have BK138 := n1_; have HB := n2_; clear n0_ n1_ n2_; (try clear hb); (try clear hb2); (try clear hk); (try clear hi); have hcz101_0 : w100.cell? ⟨gb138, 0, none⟩ = some (.int .i64 a0_0) := (blk_cell BK138.out 0).trans rfl; have hcz101_1 : w100.cell? ⟨gb138, 1, none⟩ = some (.int .i64 a0_1) := (blk_cell BK138.out 1).trans rfl; have hcz101_2 : w100.cell? ⟨gb138, 2, none⟩ = some (.int .i64 a0_2) := (blk_cell BK138.out 2).trans rfl; have hfz101_0 := blk_frozen BK138.out 0; have hfz101_1 := blk_frozen BK138.out 1; have hfz101_2 := blk_frozen BK138.out 2) | ((with_reducible refine gate_callee (f := 27) rfl ?_); refine goesL_ (some 92) rfl rfl Try.func27 (by kernel_rfl) rfl #[.agg #[.int .i64 a0_0, .int .i64 a0_1, .int .i64 a0_2], .int .i64 x9_3] rfl (by (try simp only [List.map_toArray, List.map_cons, List.map_nil]); first | done | rfl | (simp only [List.length_drop, List.length_take]; rfl)) ?_; (with_reducible refine (geom_Group.calls a0_0 a0_1 a0_2 x9_3 t153 t154 true _ A48.out).mono ?_); rintro e w102 ⟨rfl, hb⟩; refine ⟨_, rfl, ?_⟩; have n0_ := Aside0.mk (Kd.R_below (by (with_reducible repeat (first | apply Kd.R_alloc | apply Kd.R_drewN | apply Kd.R_drew)); exact HO_5.out) hb); have n1_ := Aside0.mk (blk_below (g := gb138) (o := .cells #[.int .i64 a0_0, .int .i64 a0_1, .int .i64 a0_2] 24 (0, 0)) (by (with_reducible repeat (first | refine blk_drewN ?_ _ | refine blk_drew ?_ | refine blk_alloc ?_ _)); exact BK138.out) hb); have n2_ := Aside0.mk (below_step (by repeat (first | (with_reducible first | exact HB.out | apply below_alloc | apply pw_below_drewN | apply below_drew1 | refine below_set ?_ GE138.out) | exact HB.out)) hb); clear HO_5; clear BK138; clear HB; have HO_5 := n0_; have BK138 := n1_; have HB := n2_; clear n0_ n1_ n2_; (try clear hb); (try clear hb2); (try clear hk); (try clear hi); obtain ⟨Ao103, co103, eo103⟩ := Kd.R_slice HO_5.out; subst eo103; have p156 : 0 ≤ (t150 : Int) := of_decide_eq_true (by first | (with_reducible assumption) | assumption); have q156 : t150 < (x5_3.length : Int) := of_decide_eq_true (by first | (with_reducible assumption) | assumption); obtain ⟨ad156, e156, hx156_0⟩ := Kd.at_int (Kd.R_reads' HO_5.out).2.2 t150 p156 q156; cases e156; replace p156 := eq_true p156; replace q156 := eq_true q156))
                                        go_ret
                                        exact ⟨by first | rfl | (simp [errW_none, errW_some] <;> rfl) | (simp [*, errW_none, errW_some] <;> rfl), by repeat (first | (with_reducible first | exact HB.out | apply below_alloc | apply pw_below_drewN | apply below_drew1 | refine below_set ?_ GE138.out) | exact HB.out)⟩
                                  · rw [if_neg c67] at H
                                    exact absurd H (by simp)
                                · rw [if_neg c66] at H
                                  exact absurd H (by simp)
                          · replace c50 := Bool.eq_false_iff.mpr c50
                            subst c50
                            have H1 : (some false) = some r := by rw [if_neg (show ¬ (false = true) by decide)] at H; exact H
                            clear H
                            have H := H1
                            clear H1
                            obtain rfl := Option.some.inj H
                            have hcz104_0 : wr.cell? ⟨gb138, 0, none⟩ = some (.int .i64 a0_0) := (blk_cell BK138.out 0).trans rfl
                            have hcz104_1 : wr.cell? ⟨gb138, 1, none⟩ = some (.int .i64 a0_1) := (blk_cell BK138.out 1).trans rfl
                            have hcz104_2 : wr.cell? ⟨gb138, 2, none⟩ = some (.int .i64 a0_2) := (blk_cell BK138.out 2).trans rfl
                            have hfz104_0 := blk_frozen BK138.out 0
                            have hfz104_1 := blk_frozen BK138.out 1
                            have hfz104_2 := blk_frozen BK138.out 2
                            go_wp2_with (first | ((with_reducible refine gate_callee (f := 16) rfl ?_); refine goesL_ (some 78) rfl rfl Try.func16 (by kernel_rfl) rfl #[.agg #[.int .i64 a0_0, .int .i64 a0_1, .int .i64 a0_2]] rfl (by (try simp only [List.map_toArray, List.map_cons, List.map_nil]); first | done | rfl | (simp only [List.length_drop, List.length_take]; rfl)) ?_; (with_reducible refine (geom_Inodes.calls a0_0 a0_1 a0_2 t149 _ A45.out).mono ?_); rintro e w105 ⟨rfl, hb⟩; refine ⟨_, rfl, ?_⟩; have n0_ := Aside0.mk (Kd.R_below (by (with_reducible repeat (first | apply Kd.R_alloc | apply Kd.R_drewN | apply Kd.R_drew)); exact HO_5.out) hb); have n1_ := Aside0.mk (blk_below (g := gb138) (o := .cells #[.int .i64 a0_0, .int .i64 a0_1, .int .i64 a0_2] 24 (0, 0)) (by (with_reducible repeat (first | refine blk_drewN ?_ _ | refine blk_drew ?_ | refine blk_alloc ?_ _)); exact BK138.out) hb); have n2_ := Aside0.mk (below_step (by repeat (first | (with_reducible first | exact HB.out | apply below_alloc | apply pw_below_drewN | apply below_drew1 | refine below_set ?_ GE138.out) | exact HB.out)) hb); clear HO_5; clear BK138; clear HB; have HO_5 := n0_; have BK138 := n1_; have HB := n2_; clear n0_ n1_ n2_; (try clear hb); (try clear hb2); (try clear hk); (try clear hi); have hcz106_0 : w105.cell? ⟨gb138, 0, none⟩ = some (.int .i64 a0_0) := (blk_cell BK138.out 0).trans rfl; have hcz106_1 : w105.cell? ⟨gb138, 1, none⟩ = some (.int .i64 a0_1) := (blk_cell BK138.out 1).trans rfl; have hcz106_2 : w105.cell? ⟨gb138, 2, none⟩ = some (.int .i64 a0_2) := (blk_cell BK138.out 2).trans rfl; have hfz106_0 := blk_frozen BK138.out 0; have hfz106_1 := blk_frozen BK138.out 1; have hfz106_2 := blk_frozen BK138.out 2) | ((with_reducible refine gate_callee (f := 13) rfl ?_); refine goesL_ (some 85) rfl rfl Try.func13 (by kernel_rfl) rfl #[.agg #[.int .i64 a0_0, .int .i64 a0_1, .int .i64 a0_2], .int .i64 x9_3] rfl (by (try simp only [List.map_toArray, List.map_cons, List.map_nil]); first | done | rfl | (simp only [List.length_drop, List.length_take]; rfl)) ?_; (with_reducible refine (geom_InodeAt.calls k3 a0_0 a0_1 a0_2 x9_3 t150 t151 true _ A47.out).mono ?_); rintro e w107 ⟨rfl, hb⟩; refine ⟨_, rfl, ?_⟩; have n0_ := Aside0.mk (Kd.R_below (by (with_reducible repeat (first | apply Kd.R_alloc | apply Kd.R_drewN | apply Kd.R_drew)); exact HO_5.out) hb); have n1_ := Aside0.mk (blk_below (g := gb138) (o := .cells #[.int .i64 a0_0, .int .i64 a0_1, .int .i64 a0_2] 24 (0, 0)) (by (with_reducible repeat (first | refine blk_drewN ?_ _ | refine blk_drew ?_ | refine blk_alloc ?_ _)); exact BK138.out) hb); have n2_ := Aside0.mk (below_step (by repeat (first | (with_reducible first | exact HB.out | apply below_alloc | apply pw_below_drewN | apply below_drew1 | refine below_set ?_ GE138.out) | exact HB.out)) hb); clear HO_5; clear BK138; clear HB; have HO_5 := n0_; have BK138 := n1_; have HB := n2_; clear n0_ n1_ n2_; (try clear hb); (try clear hb2); (try clear hk); (try clear hi); have hcz108_0 : w107.cell? ⟨gb138, 0, none⟩ = some (.int .i64 a0_0) := (blk_cell BK138.out 0).trans rfl; have hcz108_1 : w107.cell? ⟨gb138, 1, none⟩ = some (.int .i64 a0_1) := (blk_cell BK138.out 1).trans rfl; have hcz108_2 : w107.cell? ⟨gb138, 2, none⟩ = some (.int .i64 a0_2) := (blk_cell BK138.out 2).trans rfl; have hfz108_0 := blk_frozen BK138.out 0; have hfz108_1 := blk_frozen BK138.out 1; have hfz108_2 := blk_frozen BK138.out 2) | ((with_reducible refine gate_callee (f := 27) rfl ?_); refine goesL_ (some 92) rfl rfl Try.func27 (by kernel_rfl) rfl #[.agg #[.int .i64 a0_0, .int .i64 a0_1, .int .i64 a0_2], .int .i64 x9_3] rfl (by (try simp only [List.map_toArray, List.map_cons, List.map_nil]); first | done | rfl | (simp only [List.length_drop, List.length_take]; rfl)) ?_; (with_reducible refine (geom_Group.calls a0_0 a0_1 a0_2 x9_3 t153 t154 false _ A48.out).mono ?_); rintro e w109 ⟨rfl, hb⟩; refine ⟨_, rfl, ?_⟩; have n0_ := Aside0.mk (Kd.R_below (by (with_reducible repeat (first | apply Kd.R_alloc | apply Kd.R_drewN | apply Kd.R_drew)); exact HO_5.out) hb); have n1_ := Aside0.mk (blk_below (g := gb138) (o := .cells #[.int .i64 a0_0, .int .i64 a0_1, .int .i64 a0_2] 24 (0, 0)) (by (with_reducible repeat (first | refine blk_drewN ?_ _ | refine blk_drew ?_ | refine blk_alloc ?_ _)); exact BK138.out) hb); have n2_ := Aside0.mk (below_step (by repeat (first | (with_reducible first | exact HB.out | apply below_alloc | apply pw_below_drewN | apply below_drew1 | refine below_set ?_ GE138.out) | exact HB.out)) hb); clear HO_5; clear BK138; clear HB; have HO_5 := n0_; have BK138 := n1_; have HB := n2_; clear n0_ n1_ n2_; (try clear hb); (try clear hb2); (try clear hk); (try clear hi)))
                            go_ret
                            exact ⟨by first | rfl | (simp [errW_none, errW_some] <;> rfl) | (simp [*, errW_none, errW_some] <;> rfl), by repeat (first | (with_reducible first | exact HB.out | apply below_alloc | apply pw_below_drewN | apply below_drew1 | refine below_set ?_ GE138.out) | exact HB.out)⟩
                        · replace c49 := Bool.eq_false_iff.mpr c49
                          subst c49
                          have H1 : (some false) = some r := by rw [if_neg (show ¬ (false = true) by decide)] at H; exact H
                          clear H
                          have H := H1
                          clear H1
                          obtain rfl := Option.some.inj H
                          have hcz110_0 : wr.cell? ⟨gb138, 0, none⟩ = some (.int .i64 a0_0) := (blk_cell BK138.out 0).trans rfl
                          have hcz110_1 : wr.cell? ⟨gb138, 1, none⟩ = some (.int .i64 a0_1) := (blk_cell BK138.out 1).trans rfl
                          have hcz110_2 : wr.cell? ⟨gb138, 2, none⟩ = some (.int .i64 a0_2) := (blk_cell BK138.out 2).trans rfl
                          have hfz110_0 := blk_frozen BK138.out 0
                          have hfz110_1 := blk_frozen BK138.out 1
                          have hfz110_2 := blk_frozen BK138.out 2
                          go_wp2_with (first | ((with_reducible refine gate_callee (f := 16) rfl ?_); refine goesL_ (some 78) rfl rfl Try.func16 (by kernel_rfl) rfl #[.agg #[.int .i64 a0_0, .int .i64 a0_1, .int .i64 a0_2]] rfl (by (try simp only [List.map_toArray, List.map_cons, List.map_nil]); first | done | rfl | (simp only [List.length_drop, List.length_take]; rfl)) ?_; (with_reducible refine (geom_Inodes.calls a0_0 a0_1 a0_2 t149 _ A45.out).mono ?_); rintro e w111 ⟨rfl, hb⟩; refine ⟨_, rfl, ?_⟩; have n0_ := Aside0.mk (Kd.R_below (by (with_reducible repeat (first | apply Kd.R_alloc | apply Kd.R_drewN | apply Kd.R_drew)); exact HO_5.out) hb); have n1_ := Aside0.mk (blk_below (g := gb138) (o := .cells #[.int .i64 a0_0, .int .i64 a0_1, .int .i64 a0_2] 24 (0, 0)) (by (with_reducible repeat (first | refine blk_drewN ?_ _ | refine blk_drew ?_ | refine blk_alloc ?_ _)); exact BK138.out) hb); have n2_ := Aside0.mk (below_step (by repeat (first | (with_reducible first | exact HB.out | apply below_alloc | apply pw_below_drewN | apply below_drew1 | refine below_set ?_ GE138.out) | exact HB.out)) hb); clear HO_5; clear BK138; clear HB; have HO_5 := n0_; have BK138 := n1_; have HB := n2_; clear n0_ n1_ n2_; (try clear hb); (try clear hb2); (try clear hk); (try clear hi); have hcz112_0 : w111.cell? ⟨gb138, 0, none⟩ = some (.int .i64 a0_0) := (blk_cell BK138.out 0).trans rfl; have hcz112_1 : w111.cell? ⟨gb138, 1, none⟩ = some (.int .i64 a0_1) := (blk_cell BK138.out 1).trans rfl; have hcz112_2 : w111.cell? ⟨gb138, 2, none⟩ = some (.int .i64 a0_2) := (blk_cell BK138.out 2).trans rfl; have hfz112_0 := blk_frozen BK138.out 0; have hfz112_1 := blk_frozen BK138.out 1; have hfz112_2 := blk_frozen BK138.out 2) | ((with_reducible refine gate_callee (f := 13) rfl ?_); refine goesL_ (some 85) rfl rfl Try.func13 (by kernel_rfl) rfl #[.agg #[.int .i64 a0_0, .int .i64 a0_1, .int .i64 a0_2], .int .i64 x9_3] rfl (by (try simp only [List.map_toArray, List.map_cons, List.map_nil]); first | done | rfl | (simp only [List.length_drop, List.length_take]; rfl)) ?_; (with_reducible refine (geom_InodeAt.calls k3 a0_0 a0_1 a0_2 x9_3 t150 t151 false _ A47.out).mono ?_); rintro e w113 ⟨rfl, hb⟩; refine ⟨_, rfl, ?_⟩; have n0_ := Aside0.mk (Kd.R_below (by (with_reducible repeat (first | apply Kd.R_alloc | apply Kd.R_drewN | apply Kd.R_drew)); exact HO_5.out) hb); have n1_ := Aside0.mk (blk_below (g := gb138) (o := .cells #[.int .i64 a0_0, .int .i64 a0_1, .int .i64 a0_2] 24 (0, 0)) (by (with_reducible repeat (first | refine blk_drewN ?_ _ | refine blk_drew ?_ | refine blk_alloc ?_ _)); exact BK138.out) hb); have n2_ := Aside0.mk (below_step (by repeat (first | (with_reducible first | exact HB.out | apply below_alloc | apply pw_below_drewN | apply below_drew1 | refine below_set ?_ GE138.out) | exact HB.out)) hb); clear HO_5; clear BK138; clear HB; have HO_5 := n0_; have BK138 := n1_; have HB := n2_; clear n0_ n1_ n2_; (try clear hb); (try clear hb2); (try clear hk); (try clear hi); have hcz114_0 : w113.cell? ⟨gb138, 0, none⟩ = some (.int .i64 a0_0) := (blk_cell BK138.out 0).trans rfl; have hcz114_1 : w113.cell? ⟨gb138, 1, none⟩ = some (.int .i64 a0_1) := (blk_cell BK138.out 1).trans rfl; have hcz114_2 : w113.cell? ⟨gb138, 2, none⟩ = some (.int .i64 a0_2) := (blk_cell BK138.out 2).trans rfl; have hfz114_0 := blk_frozen BK138.out 0; have hfz114_1 := blk_frozen BK138.out 1; have hfz114_2 := blk_frozen BK138.out 2) | ((with_reducible refine gate_callee (f := 27) rfl ?_); refine goesL_ (some 92) rfl rfl Try.func27 (by kernel_rfl) rfl #[.agg #[.int .i64 a0_0, .int .i64 a0_1, .int .i64 a0_2], .int .i64 x9_3] rfl (by (try simp only [List.map_toArray, List.map_cons, List.map_nil]); first | done | rfl | (simp only [List.length_drop, List.length_take]; rfl)) ?_; (with_reducible refine (geom_Group.calls a0_0 a0_1 a0_2 x9_3 t153 t154 t155 _ A48.out).mono ?_); rintro e w115 ⟨rfl, hb⟩; refine ⟨_, rfl, ?_⟩; have n0_ := Aside0.mk (Kd.R_below (by (with_reducible repeat (first | apply Kd.R_alloc | apply Kd.R_drewN | apply Kd.R_drew)); exact HO_5.out) hb); have n1_ := Aside0.mk (blk_below (g := gb138) (o := .cells #[.int .i64 a0_0, .int .i64 a0_1, .int .i64 a0_2] 24 (0, 0)) (by (with_reducible repeat (first | refine blk_drewN ?_ _ | refine blk_drew ?_ | refine blk_alloc ?_ _)); exact BK138.out) hb); have n2_ := Aside0.mk (below_step (by repeat (first | (with_reducible first | exact HB.out | apply below_alloc | apply pw_below_drewN | apply below_drew1 | refine below_set ?_ GE138.out) | exact HB.out)) hb); clear HO_5; clear BK138; clear HB; have HO_5 := n0_; have BK138 := n1_; have HB := n2_; clear n0_ n1_ n2_; (try clear hb); (try clear hb2); (try clear hk); (try clear hi)))
                          go_ret
                          exact ⟨by first | rfl | (simp [errW_none, errW_some] <;> rfl) | (simp [*, errW_none, errW_some] <;> rfl), by repeat (first | (with_reducible first | exact HB.out | apply below_alloc | apply pw_below_drewN | apply below_drew1 | refine below_set ?_ GE138.out) | exact HB.out)⟩
                      · rw [if_neg c46] at H
                        have c46b0 : decide (x9_3 ≤ t149) = false := decide_eq_false c46
                        clear c46
                        have H' := Aside0.mk H
                        clear H
                        have hcz116_0 : wr.cell? ⟨gb138, 0, none⟩ = some (.int .i64 a0_0) := (blk_cell BK138.out 0).trans rfl
                        have hcz116_1 : wr.cell? ⟨gb138, 1, none⟩ = some (.int .i64 a0_1) := (blk_cell BK138.out 1).trans rfl
                        have hcz116_2 : wr.cell? ⟨gb138, 2, none⟩ = some (.int .i64 a0_2) := (blk_cell BK138.out 2).trans rfl
                        have hfz116_0 := blk_frozen BK138.out 0
                        have hfz116_1 := blk_frozen BK138.out 1
                        have hfz116_2 := blk_frozen BK138.out 2
                        go_wp2_with (first | ((with_reducible refine gate_callee (f := 16) rfl ?_); refine goesL_ (some 78) rfl rfl Try.func16 (by kernel_rfl) rfl #[.agg #[.int .i64 a0_0, .int .i64 a0_1, .int .i64 a0_2]] rfl (by (try simp only [List.map_toArray, List.map_cons, List.map_nil]); first | done | rfl | (simp only [List.length_drop, List.length_take]; rfl)) ?_; (with_reducible refine (geom_Inodes.calls a0_0 a0_1 a0_2 t149 _ A45.out).mono ?_); rintro e w117 ⟨rfl, hb⟩; refine ⟨_, rfl, ?_⟩; have n0_ := Aside0.mk (Kd.R_below (by (with_reducible repeat (first | apply Kd.R_alloc | apply Kd.R_drewN | apply Kd.R_drew)); exact HO_5.out) hb); have n1_ := Aside0.mk (blk_below (g := gb138) (o := .cells #[.int .i64 a0_0, .int .i64 a0_1, .int .i64 a0_2] 24 (0, 0)) (by (with_reducible repeat (first | refine blk_drewN ?_ _ | refine blk_drew ?_ | refine blk_alloc ?_ _)); exact BK138.out) hb); have n2_ := Aside0.mk (below_step (by repeat (first | (with_reducible first | exact HB.out | apply below_alloc | apply pw_below_drewN | apply below_drew1 | refine below_set ?_ GE138.out) | exact HB.out)) hb); clear HO_5; clear BK138; clear HB; have HO_5 := n0_; have BK138 := n1_; have HB := n2_; clear n0_ n1_ n2_; (try clear hb); (try clear hb2); (try clear hk); (try clear hi)))
                        go_loopg [16] k3 (fun kq v16 w' => ∃ (x5_4 : List Int) (x16_4 : Int), v16 = .int .i64 x16_4 ∧ Aside0 (lockgatelaw3_GeomParts.l2 kq x5_4 x16_4 a0_0 a0_1 a0_2 = some r) ∧ Aside0 (kq ≤ k3) ∧ Aside0 (Kd.R (Kd.int .i64) 3 w' w.heap.size (fun _ => True) v143 x5_4) ∧ Aside0 (w'.heap[gb138]? = some (.cells #[.int .i64 a0_0, .int .i64 a0_1, .int .i64 a0_2] 24 (0, 0))) ∧ Aside0 (Below w.heap.size w w'))
                        case atStart => exact ⟨(x5_3), (0), (by first | rfl | (simp; done) | (simp [*]; done)), H', ⟨Nat.le_refl _⟩, ⟨by (with_reducible repeat (first | apply Kd.R_alloc | apply Kd.R_drewN | apply Kd.R_drew)); exact HO_5.out⟩, ⟨by (with_reducible repeat (first | refine blk_drewN ?_ _ | refine blk_drew ?_ | refine blk_alloc ?_ _)); exact BK138.out⟩, ⟨by repeat (first | (with_reducible first | exact HB.out | apply below_alloc | apply pw_below_drewN | apply below_drew1 | refine below_set ?_ GE138.out) | exact HB.out)⟩⟩
                        case round =>
                          clear H'
                          try clear c1
                          try clear p1
                          try clear q1
                          try clear hx1
                          try clear c2
                          try clear p2
                          try clear c3
                          try clear p3
                          try clear q3
                          try clear hx3
                          try clear hf3
                          try clear c4
                          try clear c5
                          try clear c6
                          try clear p6
                          try clear c7
                          try clear p7
                          try clear q7
                          try clear hx7
                          try clear hf7
                          try clear c9
                          try clear c10
                          try clear c12
                          try clear c13
                          try clear c14
                          try clear c14b0
                          try clear c14b1
                          try clear p14
                          try clear q14
                          try clear hx14
                          try clear c15
                          try clear c15b0
                          try clear c15b1
                          try clear p15
                          try clear q15
                          try clear hx15
                          try clear c16
                          try clear c18
                          try clear c20
                          try clear c20b0
                          try clear c22
                          try clear c23
                          try clear c23b0
                          try clear c26
                          try clear c26b0
                          try clear c27
                          try clear c30
                          try clear c30b0
                          try clear c31
                          try clear c31b0
                          try clear c32
                          try clear c32b0
                          try clear c32b1
                          try clear p33
                          try clear q33
                          try clear hx33
                          try clear hf33
                          try clear c46
                          try clear c46b0
                          try clear c49
                          try clear c50
                          try clear c51
                          try clear c51b0
                          try clear c58
                          try clear c58b0
                          try clear p64
                          try clear c66
                          try clear c66b0
                          try clear c67
                          try clear c67b0
                          try clear c68
                          try clear c68b0
                          try clear c68b1
                          try clear c76
                          try clear c76b0
                          try clear c76b1
                          try clear c77
                          try clear c77b0
                          try clear c77b1
                          try clear p78
                          try clear q78
                          try clear hx78
                          try clear hf78
                          try clear hcz101_0
                          try clear hcz101_1
                          try clear hcz101_2
                          try clear hcz104_0
                          try clear hcz104_1
                          try clear hcz104_2
                          try clear hcz106_0
                          try clear hcz106_1
                          try clear hcz106_2
                          try clear hcz108_0
                          try clear hcz108_1
                          try clear hcz108_2
                          try clear hcz110_0
                          try clear hcz110_1
                          try clear hcz110_2
                          try clear hcz112_0
                          try clear hcz112_1
                          try clear hcz112_2
                          try clear hcz114_0
                          try clear hcz114_1
                          try clear hcz114_2
                          try clear hcz116_0
                          try clear hcz116_1
                          try clear hcz116_2
                          try clear hcz11_0
                          try clear hcz11_1
                          try clear hcz11_2
                          try clear hcz16_0
                          try clear hcz16_1
                          try clear hcz16_2
                          try clear hcz24_0
                          try clear hcz24_1
                          try clear hcz24_2
                          try clear hcz27_0
                          try clear hcz27_1
                          try clear hcz27_2
                          try clear hcz34_0
                          try clear hcz34_1
                          try clear hcz34_2
                          try clear hcz39_0
                          try clear hcz39_1
                          try clear hcz39_2
                          try clear hcz42_0
                          try clear hcz42_1
                          try clear hcz42_2
                          try clear hcz44_0
                          try clear hcz44_1
                          try clear hcz44_2
                          try clear hcz52_0
                          try clear hcz52_1
                          try clear hcz52_2
                          try clear hcz54_0
                          try clear hcz54_1
                          try clear hcz54_2
                          try clear hcz56_0
                          try clear hcz56_1
                          try clear hcz56_2
                          try clear hcz59_0
                          try clear hcz59_1
                          try clear hcz59_2
                          try clear hcz61_0
                          try clear hcz61_1
                          try clear hcz61_2
                          try clear hcz63_0
                          try clear hcz63_1
                          try clear hcz63_2
                          try clear hcz69_0
                          try clear hcz69_1
                          try clear hcz69_2
                          try clear hcz71_0
                          try clear hcz71_1
                          try clear hcz71_2
                          try clear hcz73_0
                          try clear hcz73_1
                          try clear hcz73_2
                          try clear hcz79_0
                          try clear hcz79_1
                          try clear hcz79_2
                          try clear hcz7_0
                          try clear hcz7_1
                          try clear hcz7_2
                          try clear hcz81_0
                          try clear hcz81_1
                          try clear hcz81_2
                          try clear hcz83_0
                          try clear hcz83_1
                          try clear hcz83_2
                          try clear hcz86_0
                          try clear hcz86_1
                          try clear hcz86_2
                          try clear hcz89_0
                          try clear hcz89_1
                          try clear hcz89_2
                          try clear hcz91_0
                          try clear hcz91_1
                          try clear hcz91_2
                          try clear hcz93_0
                          try clear hcz93_1
                          try clear hcz93_2
                          try clear hcz96_0
                          try clear hcz96_1
                          try clear hcz96_2
                          try clear hcz97_0
                          try clear hcz97_1
                          try clear hcz97_2
                          try clear hcz99_0
                          try clear hcz99_1
                          try clear hcz99_2
                          try clear hfz101_0
                          try clear hfz101_1
                          try clear hfz101_2
                          try clear hfz104_0
                          try clear hfz104_1
                          try clear hfz104_2
                          try clear hfz106_0
                          try clear hfz106_1
                          try clear hfz106_2
                          try clear hfz108_0
                          try clear hfz108_1
                          try clear hfz108_2
                          try clear hfz110_0
                          try clear hfz110_1
                          try clear hfz110_2
                          try clear hfz112_0
                          try clear hfz112_1
                          try clear hfz112_2
                          try clear hfz114_0
                          try clear hfz114_1
                          try clear hfz114_2
                          try clear hfz116_0
                          try clear hfz116_1
                          try clear hfz116_2
                          try clear hfz11_0
                          try clear hfz11_1
                          try clear hfz11_2
                          try clear hfz16_0
                          try clear hfz16_1
                          try clear hfz16_2
                          try clear hfz24_0
                          try clear hfz24_1
                          try clear hfz24_2
                          try clear hfz27_0
                          try clear hfz27_1
                          try clear hfz27_2
                          try clear hfz34_0
                          try clear hfz34_1
                          try clear hfz34_2
                          try clear hfz39_0
                          try clear hfz39_1
                          try clear hfz39_2
                          try clear hfz42_0
                          try clear hfz42_1
                          try clear hfz42_2
                          try clear hfz44_0
                          try clear hfz44_1
                          try clear hfz44_2
                          try clear hfz52_0
                          try clear hfz52_1
                          try clear hfz52_2
                          try clear hfz54_0
                          try clear hfz54_1
                          try clear hfz54_2
                          try clear hfz56_0
                          try clear hfz56_1
                          try clear hfz56_2
                          try clear hfz59_0
                          try clear hfz59_1
                          try clear hfz59_2
                          try clear hfz61_0
                          try clear hfz61_1
                          try clear hfz61_2
                          try clear hfz63_0
                          try clear hfz63_1
                          try clear hfz63_2
                          try clear hfz69_0
                          try clear hfz69_1
                          try clear hfz69_2
                          try clear hfz71_0
                          try clear hfz71_1
                          try clear hfz71_2
                          try clear hfz73_0
                          try clear hfz73_1
                          try clear hfz73_2
                          try clear hfz79_0
                          try clear hfz79_1
                          try clear hfz79_2
                          try clear hfz7_0
                          try clear hfz7_1
                          try clear hfz7_2
                          try clear hfz81_0
                          try clear hfz81_1
                          try clear hfz81_2
                          try clear hfz83_0
                          try clear hfz83_1
                          try clear hfz83_2
                          try clear hfz86_0
                          try clear hfz86_1
                          try clear hfz86_2
                          try clear hfz89_0
                          try clear hfz89_1
                          try clear hfz89_2
                          try clear hfz91_0
                          try clear hfz91_1
                          try clear hfz91_2
                          try clear hfz93_0
                          try clear hfz93_1
                          try clear hfz93_2
                          try clear hfz96_0
                          try clear hfz96_1
                          try clear hfz96_2
                          try clear hfz97_0
                          try clear hfz97_1
                          try clear hfz97_2
                          try clear hfz99_0
                          try clear hfz99_1
                          try clear hfz99_2
                          try clear hx147_0
                          try clear hx156_0
                          try clear hx33_0
                          try clear hx78_0
                          try clear p1
                          try clear p14
                          try clear p147
                          try clear p156
                          try clear p2
                          try clear p3
                          try clear p33
                          try clear p6
                          try clear p78
                          try clear q1
                          try clear q14
                          try clear q147
                          try clear q156
                          try clear q3
                          try clear q33
                          try clear q78
                          obtain ⟨x5_4, x16_4, rfl, HA, HK4, HO_5, BK138, HB⟩ := hrel
                          cases gk with
                          | zero => exact absurd HA.out (by simp [lockgatelaw3_GeomParts.l2])
                          | succ k4 =>
                            have H := HA.out
                            clear HA
                            simp only [lockgatelaw3_GeomParts.l2] at H
                            replace H := Option.bind_eq_some_iff.mp H
                            obtain ⟨t158, A1180, H⟩ := H
                            replace H : (if x16_4 < t158 then ((geom_Data.f k4 a0_0 a0_1 a0_2 x16_4).bind fun bt159 => ((geom_DataOf.f k4 a0_0 a0_1 a0_2 bt159.1).bind fun bt161 => (if bt159.2 = true then (if bt161.2 = true then (if bt161.1 = x16_4 then (if bt159.1 < 1 then (some false) else (if bt159.1 ≥ (x5_4.length : Int) then (some false) else (if 0 ≤ bt159.1 then (if bt159.1 < (x5_4.length : Int) then (if (rd x5_4 bt159.1) = 0 then (lockgatelaw3_GeomParts.l2 k4 (x5_4.set (bt159.1 : Int).toNat 3) (wrap64 (x16_4 + 1)) a0_0 a0_1 a0_2) else (some false)) else (none)) else (none)))) else (some false)) else (some false)) else (some false)))) else (lockgatelaw3_GeomParts.l3 k4 x5_4 1 a0_0 a0_1 a0_2)) = some r := H
                            have A118 := Aside0.mk A1180
                            clear A1180
                            by_cases c119 : x16_4 < t158
                            · rw [if_pos c119] at H
                              have c119b0 : decide (x16_4 < t158) = true := decide_eq_true c119
                              clear c119
                              replace H := Option.bind_eq_some_iff.mp H
                              obtain ⟨⟨t159, t160⟩, A1200, H⟩ := H
                              replace H : ((geom_DataOf.f k4 a0_0 a0_1 a0_2 t159).bind fun bt161 => (if t160 = true then (if bt161.2 = true then (if bt161.1 = x16_4 then (if t159 < 1 then (some false) else (if t159 ≥ (x5_4.length : Int) then (some false) else (if 0 ≤ t159 then (if t159 < (x5_4.length : Int) then (if (rd x5_4 t159) = 0 then (lockgatelaw3_GeomParts.l2 k4 (x5_4.set (t159 : Int).toNat 3) (wrap64 (x16_4 + 1)) a0_0 a0_1 a0_2) else (some false)) else (none)) else (none)))) else (some false)) else (some false)) else (some false))) = some r := H
                              have A120 := Aside0.mk A1200
                              clear A1200
                              replace H := Option.bind_eq_some_iff.mp H
                              obtain ⟨⟨t161, t162⟩, A1210, H⟩ := H
                              replace H : (if t160 = true then (if t162 = true then (if t161 = x16_4 then (if t159 < 1 then (some false) else (if t159 ≥ (x5_4.length : Int) then (some false) else (if 0 ≤ t159 then (if t159 < (x5_4.length : Int) then (if (rd x5_4 t159) = 0 then (lockgatelaw3_GeomParts.l2 k4 (x5_4.set (t159 : Int).toNat 3) (wrap64 (x16_4 + 1)) a0_0 a0_1 a0_2) else (some false)) else (none)) else (none)))) else (some false)) else (some false)) else (some false)) = some r := H
                              have A121 := Aside0.mk A1210
                              clear A1210
                              by_cases c122 : t160 = true
                              · subst c122
                                have H1 : (if t162 = true then (if t161 = x16_4 then (if t159 < 1 then (some false) else (if t159 ≥ (x5_4.length : Int) then (some false) else (if 0 ≤ t159 then (if t159 < (x5_4.length : Int) then (if (rd x5_4 t159) = 0 then (lockgatelaw3_GeomParts.l2 k4 (x5_4.set (t159 : Int).toNat 3) (wrap64 (x16_4 + 1)) a0_0 a0_1 a0_2) else (some false)) else (none)) else (none)))) else (some false)) else (some false)) = some r := by rw [if_pos rfl] at H; exact H
                                clear H
                                have H := H1
                                clear H1
                                by_cases c123 : t162 = true
                                · subst c123
                                  have H1 : (if t161 = x16_4 then (if t159 < 1 then (some false) else (if t159 ≥ (x5_4.length : Int) then (some false) else (if 0 ≤ t159 then (if t159 < (x5_4.length : Int) then (if (rd x5_4 t159) = 0 then (lockgatelaw3_GeomParts.l2 k4 (x5_4.set (t159 : Int).toNat 3) (wrap64 (x16_4 + 1)) a0_0 a0_1 a0_2) else (some false)) else (none)) else (none)))) else (some false)) = some r := by rw [if_pos rfl] at H; exact H
                                  clear H
                                  have H := H1
                                  clear H1
                                  by_cases c124 : t161 = x16_4
                                  · rw [if_pos c124] at H
                                    have c124b0 : (t161 == x16_4) = true := beq_iff_eq.mpr c124
                                    have c124b1 : (t161 != x16_4) = false := bne_eq_false_iff_eq.mpr c124
                                    clear c124
                                    by_cases c125 : t159 < 1
                                    · rw [if_pos c125] at H
                                      have c125b0 : decide (t159 < 1) = true := decide_eq_true c125
                                      clear c125
                                      obtain rfl := Option.some.inj H
                                      have hcz126_0 : wr.cell? ⟨gb138, 0, none⟩ = some (.int .i64 a0_0) := (blk_cell BK138.out 0).trans rfl
                                      have hcz126_1 : wr.cell? ⟨gb138, 1, none⟩ = some (.int .i64 a0_1) := (blk_cell BK138.out 1).trans rfl
                                      have hcz126_2 : wr.cell? ⟨gb138, 2, none⟩ = some (.int .i64 a0_2) := (blk_cell BK138.out 2).trans rfl
                                      have hfz126_0 := blk_frozen BK138.out 0
                                      have hfz126_1 := blk_frozen BK138.out 1
                                      have hfz126_2 := blk_frozen BK138.out 2
                                      go_wp2_with (first | ((with_reducible refine gate_callee (f := 17) rfl ?_); refine goesL_ (some 144) rfl rfl Try.func17 (by kernel_rfl) rfl #[.agg #[.int .i64 a0_0, .int .i64 a0_1, .int .i64 a0_2]] rfl (by (try simp only [List.map_toArray, List.map_cons, List.map_nil]); first | done | rfl | (simp only [List.length_drop, List.length_take]; rfl)) ?_; (with_reducible refine (geom_Blocks.calls a0_0 a0_1 a0_2 t158 _ A118.out).mono ?_); rintro e w127 ⟨rfl, hb⟩; refine ⟨_, rfl, ?_⟩; have n0_ := Aside0.mk (Kd.R_below (by (with_reducible repeat (first | apply Kd.R_alloc | apply Kd.R_drewN | apply Kd.R_drew)); exact HO_5.out) hb); have n1_ := Aside0.mk (blk_below (g := gb138) (o := .cells #[.int .i64 a0_0, .int .i64 a0_1, .int .i64 a0_2] 24 (0, 0)) (by (with_reducible repeat (first | refine blk_drewN ?_ _ | refine blk_drew ?_ | refine blk_alloc ?_ _)); exact BK138.out) hb); have n2_ := Aside0.mk (below_step (by repeat (first | (with_reducible first | exact HB.out | apply below_alloc | apply pw_below_drewN | apply below_drew1 | refine below_set ?_ GE138.out) | exact HB.out)) hb); clear HO_5; clear BK138; clear HB; have HO_5 := n0_; have BK138 := n1_; have HB := n2_; clear n0_ n1_ n2_; (try clear hb); (try clear hb2); (try clear hk); (try clear hi); have hcz128_0 : w127.cell? ⟨gb138, 0, none⟩ = some (.int .i64 a0_0) := (blk_cell BK138.out 0).trans rfl; have hcz128_1 : w127.cell? ⟨gb138, 1, none⟩ = some (.int .i64 a0_1) := (blk_cell BK138.out 1).trans rfl; have hcz128_2 : w127.cell? ⟨gb138, 2, none⟩ = some (.int .i64 a0_2) := (blk_cell BK138.out 2).trans rfl; have hfz128_0 := blk_frozen BK138.out 0; have hfz128_1 := blk_frozen BK138.out 1; have hfz128_2 := blk_frozen BK138.out 2) | ((with_reducible refine gate_callee (f := 14) rfl ?_); refine goesL_ (some 151) rfl rfl Try.func14 (by kernel_rfl) rfl #[.agg #[.int .i64 a0_0, .int .i64 a0_1, .int .i64 a0_2], .int .i64 x16_4] rfl (by (try simp only [List.map_toArray, List.map_cons, List.map_nil]); first | done | rfl | (simp only [List.length_drop, List.length_take]; rfl)) ?_; (with_reducible refine (geom_Data.calls k4 a0_0 a0_1 a0_2 x16_4 t159 true _ A120.out).mono ?_); rintro e w129 ⟨rfl, hb⟩; refine ⟨_, rfl, ?_⟩; have n0_ := Aside0.mk (Kd.R_below (by (with_reducible repeat (first | apply Kd.R_alloc | apply Kd.R_drewN | apply Kd.R_drew)); exact HO_5.out) hb); have n1_ := Aside0.mk (blk_below (g := gb138) (o := .cells #[.int .i64 a0_0, .int .i64 a0_1, .int .i64 a0_2] 24 (0, 0)) (by (with_reducible repeat (first | refine blk_drewN ?_ _ | refine blk_drew ?_ | refine blk_alloc ?_ _)); exact BK138.out) hb); have n2_ := Aside0.mk (below_step (by repeat (first | (with_reducible first | exact HB.out | apply below_alloc | apply pw_below_drewN | apply below_drew1 | refine below_set ?_ GE138.out) | exact HB.out)) hb); clear HO_5; clear BK138; clear HB; have HO_5 := n0_; have BK138 := n1_; have HB := n2_; clear n0_ n1_ n2_; (try clear hb); (try clear hb2); (try clear hk); (try clear hi); have hcz130_0 : w129.cell? ⟨gb138, 0, none⟩ = some (.int .i64 a0_0) := (blk_cell BK138.out 0).trans rfl; have hcz130_1 : w129.cell? ⟨gb138, 1, none⟩ = some (.int .i64 a0_1) := (blk_cell BK138.out 1).trans rfl; have hcz130_2 : w129.cell? ⟨gb138, 2, none⟩ = some (.int .i64 a0_2) := (blk_cell BK138.out 2).trans rfl; have hfz130_0 := blk_frozen BK138.out 0; have hfz130_1 := blk_frozen BK138.out 1; have hfz130_2 := blk_frozen BK138.out 2) | ((with_reducible refine gate_callee (f := 25) rfl ?_); refine goesL_ (some 157) rfl rfl Try.func25 (by kernel_rfl) rfl #[.agg #[.int .i64 a0_0, .int .i64 a0_1, .int .i64 a0_2], .int .i64 t159] rfl (by (try simp only [List.map_toArray, List.map_cons, List.map_nil]); first | done | rfl | (simp only [List.length_drop, List.length_take]; rfl)) ?_; (with_reducible refine (geom_DataOf.calls k4 a0_0 a0_1 a0_2 t159 t161 true _ A121.out).mono ?_); rintro e w131 ⟨rfl, hb⟩; refine ⟨_, rfl, ?_⟩; have n0_ := Aside0.mk (Kd.R_below (by (with_reducible repeat (first | apply Kd.R_alloc | apply Kd.R_drewN | apply Kd.R_drew)); exact HO_5.out) hb); have n1_ := Aside0.mk (blk_below (g := gb138) (o := .cells #[.int .i64 a0_0, .int .i64 a0_1, .int .i64 a0_2] 24 (0, 0)) (by (with_reducible repeat (first | refine blk_drewN ?_ _ | refine blk_drew ?_ | refine blk_alloc ?_ _)); exact BK138.out) hb); have n2_ := Aside0.mk (below_step (by repeat (first | (with_reducible first | exact HB.out | apply below_alloc | apply pw_below_drewN | apply below_drew1 | refine below_set ?_ GE138.out) | exact HB.out)) hb); clear HO_5; clear BK138; clear HB; have HO_5 := n0_; have BK138 := n1_; have HB := n2_; clear n0_ n1_ n2_; (try clear hb); (try clear hb2); (try clear hk); (try clear hi)))
                                      go_ret
                                      exact ⟨by first | rfl | (simp [errW_none, errW_some] <;> rfl) | (simp [*, errW_none, errW_some] <;> rfl), by repeat (first | (with_reducible first | exact HB.out | apply below_alloc | apply pw_below_drewN | apply below_drew1 | refine below_set ?_ GE138.out) | exact HB.out)⟩
                                    · rw [if_neg c125] at H
                                      have c125b0 : decide (t159 < 1) = false := decide_eq_false c125
                                      clear c125
                                      by_cases c132 : t159 ≥ (x5_4.length : Int)
                                      · rw [if_pos c132] at H
                                        have c132b0 : decide ((x5_4.length : Int) ≤ t159) = true := decide_eq_true c132
                                        clear c132
                                        obtain rfl := Option.some.inj H
                                        have hcz133_0 : wr.cell? ⟨gb138, 0, none⟩ = some (.int .i64 a0_0) := (blk_cell BK138.out 0).trans rfl
                                        have hcz133_1 : wr.cell? ⟨gb138, 1, none⟩ = some (.int .i64 a0_1) := (blk_cell BK138.out 1).trans rfl
                                        have hcz133_2 : wr.cell? ⟨gb138, 2, none⟩ = some (.int .i64 a0_2) := (blk_cell BK138.out 2).trans rfl
                                        have hfz133_0 := blk_frozen BK138.out 0
                                        have hfz133_1 := blk_frozen BK138.out 1
                                        have hfz133_2 := blk_frozen BK138.out 2
                                        go_wp2_with (first | ((with_reducible refine gate_callee (f := 17) rfl ?_); refine goesL_ (some 144) rfl rfl Try.func17 (by kernel_rfl) rfl #[.agg #[.int .i64 a0_0, .int .i64 a0_1, .int .i64 a0_2]] rfl (by (try simp only [List.map_toArray, List.map_cons, List.map_nil]); first | done | rfl | (simp only [List.length_drop, List.length_take]; rfl)) ?_; (with_reducible refine (geom_Blocks.calls a0_0 a0_1 a0_2 t158 _ A118.out).mono ?_); rintro e w134 ⟨rfl, hb⟩; refine ⟨_, rfl, ?_⟩; have n0_ := Aside0.mk (Kd.R_below (by (with_reducible repeat (first | apply Kd.R_alloc | apply Kd.R_drewN | apply Kd.R_drew)); exact HO_5.out) hb); have n1_ := Aside0.mk (blk_below (g := gb138) (o := .cells #[.int .i64 a0_0, .int .i64 a0_1, .int .i64 a0_2] 24 (0, 0)) (by (with_reducible repeat (first | refine blk_drewN ?_ _ | refine blk_drew ?_ | refine blk_alloc ?_ _)); exact BK138.out) hb); have n2_ := Aside0.mk (below_step (by repeat (first | (with_reducible first | exact HB.out | apply below_alloc | apply pw_below_drewN | apply below_drew1 | refine below_set ?_ GE138.out) | exact HB.out)) hb); clear HO_5; clear BK138; clear HB; have HO_5 := n0_; have BK138 := n1_; have HB := n2_; clear n0_ n1_ n2_; (try clear hb); (try clear hb2); (try clear hk); (try clear hi); have hcz135_0 : w134.cell? ⟨gb138, 0, none⟩ = some (.int .i64 a0_0) := (blk_cell BK138.out 0).trans rfl; have hcz135_1 : w134.cell? ⟨gb138, 1, none⟩ = some (.int .i64 a0_1) := (blk_cell BK138.out 1).trans rfl; have hcz135_2 : w134.cell? ⟨gb138, 2, none⟩ = some (.int .i64 a0_2) := (blk_cell BK138.out 2).trans rfl; have hfz135_0 := blk_frozen BK138.out 0; have hfz135_1 := blk_frozen BK138.out 1; have hfz135_2 := blk_frozen BK138.out 2) | ((with_reducible refine gate_callee (f := 14) rfl ?_); refine goesL_ (some 151) rfl rfl Try.func14 (by kernel_rfl) rfl #[.agg #[.int .i64 a0_0, .int .i64 a0_1, .int .i64 a0_2], .int .i64 x16_4] rfl (by (try simp only [List.map_toArray, List.map_cons, List.map_nil]); first | done | rfl | (simp only [List.length_drop, List.length_take]; rfl)) ?_; (with_reducible refine (geom_Data.calls k4 a0_0 a0_1 a0_2 x16_4 t159 true _ A120.out).mono ?_); rintro e w136 ⟨rfl, hb⟩; refine ⟨_, rfl, ?_⟩; have n0_ := Aside0.mk (Kd.R_below (by (with_reducible repeat (first | apply Kd.R_alloc | apply Kd.R_drewN | apply Kd.R_drew)); exact HO_5.out) hb); have n1_ := Aside0.mk (blk_below (g := gb138) (o := .cells #[.int .i64 a0_0, .int .i64 a0_1, .int .i64 a0_2] 24 (0, 0)) (by (with_reducible repeat (first | refine blk_drewN ?_ _ | refine blk_drew ?_ | refine blk_alloc ?_ _)); exact BK138.out) hb); have n2_ := Aside0.mk (below_step (by repeat (first | (with_reducible first | exact HB.out | apply below_alloc | apply pw_below_drewN | apply below_drew1 | refine below_set ?_ GE138.out) | exact HB.out)) hb); clear HO_5; clear BK138; clear HB; have HO_5 := n0_; have BK138 := n1_; have HB := n2_; clear n0_ n1_ n2_; (try clear hb); (try clear hb2); (try clear hk); (try clear hi); have hcz137_0 : w136.cell? ⟨gb138, 0, none⟩ = some (.int .i64 a0_0) := (blk_cell BK138.out 0).trans rfl; have hcz137_1 : w136.cell? ⟨gb138, 1, none⟩ = some (.int .i64 a0_1) := (blk_cell BK138.out 1).trans rfl; have hcz137_2 : w136.cell? ⟨gb138, 2, none⟩ = some (.int .i64 a0_2) := (blk_cell BK138.out 2).trans rfl; have hfz137_0 := blk_frozen BK138.out 0; have hfz137_1 := blk_frozen BK138.out 1; have hfz137_2 := blk_frozen BK138.out 2) | ((with_reducible refine gate_callee (f := 25) rfl ?_); refine goesL_ (some 157) rfl rfl Try.func25 (by kernel_rfl) rfl #[.agg #[.int .i64 a0_0, .int .i64 a0_1, .int .i64 a0_2], .int .i64 t159] rfl (by (try simp only [List.map_toArray, List.map_cons, List.map_nil]); first | done | rfl | (simp only [List.length_drop, List.length_take]; rfl)) ?_; (with_reducible refine (geom_DataOf.calls k4 a0_0 a0_1 a0_2 t159 t161 true _ A121.out).mono ?_); rintro e w138 ⟨rfl, hb⟩; refine ⟨_, rfl, ?_⟩; have n0_ := Aside0.mk (Kd.R_below (by (with_reducible repeat (first | apply Kd.R_alloc | apply Kd.R_drewN | apply Kd.R_drew)); exact HO_5.out) hb); have n1_ := Aside0.mk (blk_below (g := gb138) (o := .cells #[.int .i64 a0_0, .int .i64 a0_1, .int .i64 a0_2] 24 (0, 0)) (by (with_reducible repeat (first | refine blk_drewN ?_ _ | refine blk_drew ?_ | refine blk_alloc ?_ _)); exact BK138.out) hb); have n2_ := Aside0.mk (below_step (by repeat (first | (with_reducible first | exact HB.out | apply below_alloc | apply pw_below_drewN | apply below_drew1 | refine below_set ?_ GE138.out) | exact HB.out)) hb); clear HO_5; clear BK138; clear HB; have HO_5 := n0_; have BK138 := n1_; have HB := n2_; clear n0_ n1_ n2_; (try clear hb); (try clear hb2); (try clear hk); (try clear hi); obtain ⟨Ao139, co139, eo139⟩ := Kd.R_slice HO_5.out; subst eo139))
                                        go_ret
                                        exact ⟨by first | rfl | (simp [errW_none, errW_some] <;> rfl) | (simp [*, errW_none, errW_some] <;> rfl), by repeat (first | (with_reducible first | exact HB.out | apply below_alloc | apply pw_below_drewN | apply below_drew1 | refine below_set ?_ GE138.out) | exact HB.out)⟩
                                      · rw [if_neg c132] at H
                                        have c132b0 : decide ((x5_4.length : Int) ≤ t159) = false := decide_eq_false c132
                                        clear c132
                                        by_cases c140 : 0 ≤ t159
                                        · rw [if_pos c140] at H
                                          have c140b0 : decide (0 ≤ t159) = true := decide_eq_true c140
                                          clear c140
                                          by_cases c141 : t159 < (x5_4.length : Int)
                                          · rw [if_pos c141] at H
                                            have c141b0 : decide (t159 < (x5_4.length : Int)) = true := decide_eq_true c141
                                            clear c141
                                            by_cases c142 : (rd x5_4 t159) = 0
                                            · rw [if_pos c142] at H
                                              have c142b0 : ((rd x5_4 t159) == 0) = true := beq_iff_eq.mpr c142
                                              have c142b1 : ((rd x5_4 t159) != 0) = false := bne_eq_false_iff_eq.mpr c142
                                              clear c142
                                              obtain ⟨y164, hy164⟩ : ∃ y_ : List Int, y_ = (x5_4.set (t159 : Int).toNat 3) := ⟨_, rfl⟩
                                              replace H : (lockgatelaw3_GeomParts.l2 k4 y164 (wrap64 (x16_4 + 1)) a0_0 a0_1 a0_2) = some r := by first | (rw [hy164]; with_reducible exact H) | (have H2_ := (Option.bind_some _ _).symm.trans H; rw [hy164]; with_reducible exact H2_) | (have H2_ := (Option.bind_some _ _).symm.trans H; with_reducible exact H2_) | with_reducible exact H | (rw [hy164]; exact H) | exact H
                                              have Ny164 := Aside0.mk hy164
                                              clear hy164
                                              have H' := Aside0.mk H
                                              clear H
                                              have hcz144_0 : wr.cell? ⟨gb138, 0, none⟩ = some (.int .i64 a0_0) := (blk_cell BK138.out 0).trans rfl
                                              have hcz144_1 : wr.cell? ⟨gb138, 1, none⟩ = some (.int .i64 a0_1) := (blk_cell BK138.out 1).trans rfl
                                              have hcz144_2 : wr.cell? ⟨gb138, 2, none⟩ = some (.int .i64 a0_2) := (blk_cell BK138.out 2).trans rfl
                                              have hfz144_0 := blk_frozen BK138.out 0
                                              have hfz144_1 := blk_frozen BK138.out 1
                                              have hfz144_2 := blk_frozen BK138.out 2
                                              go_wp2_with (first | ((with_reducible refine gate_callee (f := 17) rfl ?_); refine goesL_ (some 144) rfl rfl Try.func17 (by kernel_rfl) rfl #[.agg #[.int .i64 a0_0, .int .i64 a0_1, .int .i64 a0_2]] rfl (by (try simp only [List.map_toArray, List.map_cons, List.map_nil]); first | done | rfl | (simp only [List.length_drop, List.length_take]; rfl)) ?_; (with_reducible refine (geom_Blocks.calls a0_0 a0_1 a0_2 t158 _ A118.out).mono ?_); rintro e w145 ⟨rfl, hb⟩; refine ⟨_, rfl, ?_⟩; have n0_ := Aside0.mk (Kd.R_below (by (with_reducible repeat (first | apply Kd.R_alloc | apply Kd.R_drewN | apply Kd.R_drew)); exact HO_5.out) hb); have n1_ := Aside0.mk (blk_below (g := gb138) (o := .cells #[.int .i64 a0_0, .int .i64 a0_1, .int .i64 a0_2] 24 (0, 0)) (by (with_reducible repeat (first | refine blk_drewN ?_ _ | refine blk_drew ?_ | refine blk_alloc ?_ _)); exact BK138.out) hb); have n2_ := Aside0.mk (below_step (by repeat (first | (with_reducible first | exact HB.out | apply below_alloc | apply pw_below_drewN | apply below_drew1 | refine below_set ?_ GE138.out) | exact HB.out)) hb); clear HO_5; clear BK138; clear HB; have HO_5 := n0_; have BK138 := n1_; have HB := n2_; clear n0_ n1_ n2_; (try clear hb); (try clear hb2); (try clear hk); (try clear hi); have hcz146_0 : w145.cell? ⟨gb138, 0, none⟩ = some (.int .i64 a0_0) := (blk_cell BK138.out 0).trans rfl; have hcz146_1 : w145.cell? ⟨gb138, 1, none⟩ = some (.int .i64 a0_1) := (blk_cell BK138.out 1).trans rfl; have hcz146_2 : w145.cell? ⟨gb138, 2, none⟩ = some (.int .i64 a0_2) := (blk_cell BK138.out 2).trans rfl; have hfz146_0 := blk_frozen BK138.out 0; have hfz146_1 := blk_frozen BK138.out 1; have hfz146_2 := blk_frozen BK138.out 2) | ((with_reducible refine gate_callee (f := 14) rfl ?_); refine goesL_ (some 151) rfl rfl Try.func14 (by kernel_rfl) rfl #[.agg #[.int .i64 a0_0, .int .i64 a0_1, .int .i64 a0_2], .int .i64 x16_4] rfl (by (try simp only [List.map_toArray, List.map_cons, List.map_nil]); first | done | rfl | (simp only [List.length_drop, List.length_take]; rfl)) ?_; (with_reducible refine (geom_Data.calls k4 a0_0 a0_1 a0_2 x16_4 t159 true _ A120.out).mono ?_); rintro e w147 ⟨rfl, hb⟩; refine ⟨_, rfl, ?_⟩; have n0_ := Aside0.mk (Kd.R_below (by (with_reducible repeat (first | apply Kd.R_alloc | apply Kd.R_drewN | apply Kd.R_drew)); exact HO_5.out) hb); have n1_ := Aside0.mk (blk_below (g := gb138) (o := .cells #[.int .i64 a0_0, .int .i64 a0_1, .int .i64 a0_2] 24 (0, 0)) (by (with_reducible repeat (first | refine blk_drewN ?_ _ | refine blk_drew ?_ | refine blk_alloc ?_ _)); exact BK138.out) hb); have n2_ := Aside0.mk (below_step (by repeat (first | (with_reducible first | exact HB.out | apply below_alloc | apply pw_below_drewN | apply below_drew1 | refine below_set ?_ GE138.out) | exact HB.out)) hb); clear HO_5; clear BK138; clear HB; have HO_5 := n0_; have BK138 := n1_; have HB := n2_; clear n0_ n1_ n2_; (try clear hb); (try clear hb2); (try clear hk); (try clear hi); have hcz148_0 : w147.cell? ⟨gb138, 0, none⟩ = some (.int .i64 a0_0) := (blk_cell BK138.out 0).trans rfl; have hcz148_1 : w147.cell? ⟨gb138, 1, none⟩ = some (.int .i64 a0_1) := (blk_cell BK138.out 1).trans rfl; have hcz148_2 : w147.cell? ⟨gb138, 2, none⟩ = some (.int .i64 a0_2) := (blk_cell BK138.out 2).trans rfl; have hfz148_0 := blk_frozen BK138.out 0; have hfz148_1 := blk_frozen BK138.out 1; have hfz148_2 := blk_frozen BK138.out 2) | ((with_reducible refine gate_callee (f := 25) rfl ?_); refine goesL_ (some 157) rfl rfl Try.func25 (by kernel_rfl) rfl #[.agg #[.int .i64 a0_0, .int .i64 a0_1, .int .i64 a0_2], .int .i64 t159] rfl (by (try simp only [List.map_toArray, List.map_cons, List.map_nil]); first | done | rfl | (simp only [List.length_drop, List.length_take]; rfl)) ?_; (with_reducible refine (geom_DataOf.calls k4 a0_0 a0_1 a0_2 t159 t161 true _ A121.out).mono ?_); rintro e w149 ⟨rfl, hb⟩; refine ⟨_, rfl, ?_⟩; have n0_ := Aside0.mk (Kd.R_below (by (with_reducible repeat (first | apply Kd.R_alloc | apply Kd.R_drewN | apply Kd.R_drew)); exact HO_5.out) hb); have n1_ := Aside0.mk (blk_below (g := gb138) (o := .cells #[.int .i64 a0_0, .int .i64 a0_1, .int .i64 a0_2] 24 (0, 0)) (by (with_reducible repeat (first | refine blk_drewN ?_ _ | refine blk_drew ?_ | refine blk_alloc ?_ _)); exact BK138.out) hb); have n2_ := Aside0.mk (below_step (by repeat (first | (with_reducible first | exact HB.out | apply below_alloc | apply pw_below_drewN | apply below_drew1 | refine below_set ?_ GE138.out) | exact HB.out)) hb); clear HO_5; clear BK138; clear HB; have HO_5 := n0_; have BK138 := n1_; have HB := n2_; clear n0_ n1_ n2_; (try clear hb); (try clear hb2); (try clear hk); (try clear hi); obtain ⟨Ao150, co150, eo150⟩ := Kd.R_slice HO_5.out; subst eo150; have p163 : 0 ≤ (t159 : Int) := of_decide_eq_true (by first | (with_reducible assumption) | assumption); have q163 : t159 < (x5_4.length : Int) := of_decide_eq_true (by first | (with_reducible assumption) | assumption); obtain ⟨ad163, e163, hx163_0⟩ := Kd.at_int (Kd.R_reads' HO_5.out).2.2 t159 p163 q163; cases e163; replace p163 := eq_true p163; replace q163 := eq_true q163; have p143 : 0 ≤ (t159 : Int) := of_decide_eq_true (by first | (with_reducible assumption) | assumption); have q143 : (t159 : Int) < ((x5_4.length : Int) : Int) := of_decide_eq_true (by first | (with_reducible assumption) | assumption); obtain ⟨go143, co143, eo143, gb143, gl143, cl143, HG143⟩ := Kd.R_form HO_5.out (by omega); (first | cases eo143 | (injection eo143 with ea_ en_ ec_; (first | subst ea_ | (injection ea_ with ea_; subst ea_)); subst ec_; clear en_)); have GB143 := Aside0.mk gb143; have GG143 := Aside0.mk HG143; clear gb143 gl143 HG143; (first | simp only [add_plain] at hx163_0 | skip); obtain ⟨hx143_0, hf143_0⟩ := Kd.R_celln 0 HO_5.out (t159 : Int) p143 q143; replace p143 := eq_true p143; replace q143 := eq_true q143; obtain ⟨hy151_, hz151_⟩ := Kd.R_celln 0 HO_5.out (t159 : Int) (of_decide_eq_true (by first | (with_reducible assumption) | assumption)) (of_decide_eq_true (by first | (with_reducible assumption) | assumption)); have HP151 := Kd.R_putg HO_5.out (t159 : Int) 3) | ((with_reducible refine gate_store (t := 3) (p := 190) rfl ?_); refine store_event (t := 3) (p := 190) (v := ?vo_w152) (w1 := (w149.setCell ⟨go143, (t159 : Int).toNat, none⟩ (.int .i64 3))) ?hg ?ho ?hn ?hr ?_; (case ho => rfl); (case hg => rfl); (case hn => rfl); (case hr => first | (go_simp; done) | (go_simp; rfl)); intro w152 hw; have hg : w149.grownBy w152 (some go143) := (by rw [hw]; exact HP151.2); have hp_ : Kd.R (Kd.int .i64) 3 w152 w.heap.size (fun _ => True) (.slice (some ⟨go143, 0, none⟩) x5_4.length co150) y164 := (by rw [hw, Ny164.out]; exact HP151.1); clear HP151; have n0_ := Aside0.mk (hp_); have n1_ := Aside0.mk (blk_grown (g := gb138) (o := .cells #[.int .i64 a0_0, .int .i64 a0_1, .int .i64 a0_2] 24 (0, 0)) (by (with_reducible repeat (first | refine blk_drewN ?_ _ | refine blk_drew ?_ | refine blk_alloc ?_ _)); exact BK138.out) hg (Kd.R_ne HO_5.out BK138.out (by decide))); have n2_ := Aside0.mk ((by rw [hw]; exact below_set (HB.out) GB143.out : Below w.heap.size w w152)); clear HO_5; clear BK138; clear HB; have HO_5 := n0_; have BK138 := n1_; have HB := n2_; clear n0_ n1_ n2_; clear hg hw hp_))
                                              go_roundg k4
                                              case measure => have := HJ3.out; have := HK2.out; have := HK3.out; have := HK4.out; omega
                                              case rel => exact ⟨(y164), (wrap64 (x16_4 + 1)), (by first | rfl | (simp; done) | (simp [*]; done)), H', ⟨by have := HJ3.out; have := HK2.out; have := HK3.out; have := HK4.out; omega⟩, ⟨by (with_reducible repeat (first | apply Kd.R_alloc | apply Kd.R_drewN | apply Kd.R_drew)); exact HO_5.out⟩, ⟨by (with_reducible repeat (first | refine blk_drewN ?_ _ | refine blk_drew ?_ | refine blk_alloc ?_ _)); exact BK138.out⟩, ⟨by repeat (first | (with_reducible first | exact HB.out | apply below_alloc | apply pw_below_drewN | apply below_drew1 | refine below_set ?_ GE138.out) | exact HB.out)⟩⟩
                                            · rw [if_neg c142] at H
                                              have c142b0 : ((rd x5_4 t159) == 0) = false := beq_eq_false_iff_ne.mpr c142
                                              have c142b1 : ((rd x5_4 t159) != 0) = true := bne_iff_ne.mpr c142
                                              obtain rfl := Option.some.inj H
                                              have hcz153_0 : wr.cell? ⟨gb138, 0, none⟩ = some (.int .i64 a0_0) := (blk_cell BK138.out 0).trans rfl
                                              have hcz153_1 : wr.cell? ⟨gb138, 1, none⟩ = some (.int .i64 a0_1) := (blk_cell BK138.out 1).trans rfl
                                              have hcz153_2 : wr.cell? ⟨gb138, 2, none⟩ = some (.int .i64 a0_2) := (blk_cell BK138.out 2).trans rfl
                                              have hfz153_0 := blk_frozen BK138.out 0
                                              have hfz153_1 := blk_frozen BK138.out 1
                                              have hfz153_2 := blk_frozen BK138.out 2
                                              go_wp2_with (first | ((with_reducible refine gate_callee (f := 17) rfl ?_); refine goesL_ (some 144) rfl rfl Try.func17 (by kernel_rfl) rfl #[.agg #[.int .i64 a0_0, .int .i64 a0_1, .int .i64 a0_2]] rfl (by (try simp only [List.map_toArray, List.map_cons, List.map_nil]); first | done | rfl | (simp only [List.length_drop, List.length_take]; rfl)) ?_; (with_reducible refine (geom_Blocks.calls a0_0 a0_1 a0_2 t158 _ A118.out).mono ?_); rintro e w154 ⟨rfl, hb⟩; refine ⟨_, rfl, ?_⟩; have n0_ := Aside0.mk (Kd.R_below (by (with_reducible repeat (first | apply Kd.R_alloc | apply Kd.R_drewN | apply Kd.R_drew)); exact HO_5.out) hb); have n1_ := Aside0.mk (blk_below (g := gb138) (o := .cells #[.int .i64 a0_0, .int .i64 a0_1, .int .i64 a0_2] 24 (0, 0)) (by (with_reducible repeat (first | refine blk_drewN ?_ _ | refine blk_drew ?_ | refine blk_alloc ?_ _)); exact BK138.out) hb); have n2_ := Aside0.mk (below_step (by repeat (first | (with_reducible first | exact HB.out | apply below_alloc | apply pw_below_drewN | apply below_drew1 | refine below_set ?_ GE138.out) | exact HB.out)) hb); clear HO_5; clear BK138; clear HB; have HO_5 := n0_; have BK138 := n1_; have HB := n2_; clear n0_ n1_ n2_; (try clear hb); (try clear hb2); (try clear hk); (try clear hi); have hcz155_0 : w154.cell? ⟨gb138, 0, none⟩ = some (.int .i64 a0_0) := (blk_cell BK138.out 0).trans rfl; have hcz155_1 : w154.cell? ⟨gb138, 1, none⟩ = some (.int .i64 a0_1) := (blk_cell BK138.out 1).trans rfl; have hcz155_2 : w154.cell? ⟨gb138, 2, none⟩ = some (.int .i64 a0_2) := (blk_cell BK138.out 2).trans rfl; have hfz155_0 := blk_frozen BK138.out 0; have hfz155_1 := blk_frozen BK138.out 1; have hfz155_2 := blk_frozen BK138.out 2) | ((with_reducible refine gate_callee (f := 14) rfl ?_); refine goesL_ (some 151) rfl rfl Try.func14 (by kernel_rfl) rfl #[.agg #[.int .i64 a0_0, .int .i64 a0_1, .int .i64 a0_2], .int .i64 x16_4] rfl (by (try simp only [List.map_toArray, List.map_cons, List.map_nil]); first | done | rfl | (simp only [List.length_drop, List.length_take]; rfl)) ?_; (with_reducible refine (geom_Data.calls k4 a0_0 a0_1 a0_2 x16_4 t159 true _ A120.out).mono ?_); rintro e w156 ⟨rfl, hb⟩; refine ⟨_, rfl, ?_⟩; have n0_ := Aside0.mk (Kd.R_below (by (with_reducible repeat (first | apply Kd.R_alloc | apply Kd.R_drewN | apply Kd.R_drew)); exact HO_5.out) hb); have n1_ := Aside0.mk (blk_below (g := gb138) (o := .cells #[.int .i64 a0_0, .int .i64 a0_1, .int .i64 a0_2] 24 (0, 0)) (by (with_reducible repeat (first | refine blk_drewN ?_ _ | refine blk_drew ?_ | refine blk_alloc ?_ _)); exact BK138.out) hb); have n2_ := Aside0.mk (below_step (by repeat (first | (with_reducible first | exact HB.out | apply below_alloc | apply pw_below_drewN | apply below_drew1 | refine below_set ?_ GE138.out) | exact HB.out)) hb); clear HO_5; clear BK138; clear HB; have HO_5 := n0_; have BK138 := n1_; have HB := n2_; clear n0_ n1_ n2_; (try clear hb); (try clear hb2); (try clear hk); (try clear hi); have hcz157_0 : w156.cell? ⟨gb138, 0, none⟩ = some (.int .i64 a0_0) := (blk_cell BK138.out 0).trans rfl; have hcz157_1 : w156.cell? ⟨gb138, 1, none⟩ = some (.int .i64 a0_1) := (blk_cell BK138.out 1).trans rfl; have hcz157_2 : w156.cell? ⟨gb138, 2, none⟩ = some (.int .i64 a0_2) := (blk_cell BK138.out 2).trans rfl; have hfz157_0 := blk_frozen BK138.out 0; have hfz157_1 := blk_frozen BK138.out 1; have hfz157_2 := blk_frozen BK138.out 2) | ((with_reducible refine gate_callee (f := 25) rfl ?_); refine goesL_ (some 157) rfl rfl Try.func25 (by kernel_rfl) rfl #[.agg #[.int .i64 a0_0, .int .i64 a0_1, .int .i64 a0_2], .int .i64 t159] rfl (by (try simp only [List.map_toArray, List.map_cons, List.map_nil]); first | done | rfl | (simp only [List.length_drop, List.length_take]; rfl)) ?_; (with_reducible refine (geom_DataOf.calls k4 a0_0 a0_1 a0_2 t159 t161 true _ A121.out).mono ?_); rintro e w158 ⟨rfl, hb⟩; refine ⟨_, rfl, ?_⟩; have n0_ := Aside0.mk (Kd.R_below (by (with_reducible repeat (first | apply Kd.R_alloc | apply Kd.R_drewN | apply Kd.R_drew)); exact HO_5.out) hb); have n1_ := Aside0.mk (blk_below (g := gb138) (o := .cells #[.int .i64 a0_0, .int .i64 a0_1, .int .i64 a0_2] 24 (0, 0)) (by (with_reducible repeat (first | refine blk_drewN ?_ _ | refine blk_drew ?_ | refine blk_alloc ?_ _)); exact BK138.out) hb); have n2_ := Aside0.mk (below_step (by repeat (first | (with_reducible first | exact HB.out | apply below_alloc | apply pw_below_drewN | apply below_drew1 | refine below_set ?_ GE138.out) | exact HB.out)) hb); clear HO_5; clear BK138; clear HB; have HO_5 := n0_; have BK138 := n1_; have HB := n2_; clear n0_ n1_ n2_; (try clear hb); (try clear hb2); (try clear hk); (try clear hi); obtain ⟨Ao159, co159, eo159⟩ := Kd.R_slice HO_5.out; subst eo159; have p163 : 0 ≤ (t159 : Int) := of_decide_eq_true (by first | (with_reducible assumption) | assumption); have q163 : t159 < (x5_4.length : Int) := of_decide_eq_true (by first | (with_reducible assumption) | assumption); obtain ⟨ad163, e163, hx163_0⟩ := Kd.at_int (Kd.R_reads' HO_5.out).2.2 t159 p163 q163; cases e163; replace p163 := eq_true p163; replace q163 := eq_true q163))
                                              go_ret
                                              exact ⟨by first | rfl | (simp [errW_none, errW_some] <;> rfl) | (simp [*, errW_none, errW_some] <;> rfl), by repeat (first | (with_reducible first | exact HB.out | apply below_alloc | apply pw_below_drewN | apply below_drew1 | refine below_set ?_ GE138.out) | exact HB.out)⟩
                                          · rw [if_neg c141] at H
                                            exact absurd H (by simp)
                                        · rw [if_neg c140] at H
                                          exact absurd H (by simp)
                                  · rw [if_neg c124] at H
                                    have c124b0 : (t161 == x16_4) = false := beq_eq_false_iff_ne.mpr c124
                                    have c124b1 : (t161 != x16_4) = true := bne_iff_ne.mpr c124
                                    obtain rfl := Option.some.inj H
                                    have hcz160_0 : wr.cell? ⟨gb138, 0, none⟩ = some (.int .i64 a0_0) := (blk_cell BK138.out 0).trans rfl
                                    have hcz160_1 : wr.cell? ⟨gb138, 1, none⟩ = some (.int .i64 a0_1) := (blk_cell BK138.out 1).trans rfl
                                    have hcz160_2 : wr.cell? ⟨gb138, 2, none⟩ = some (.int .i64 a0_2) := (blk_cell BK138.out 2).trans rfl
                                    have hfz160_0 := blk_frozen BK138.out 0
                                    have hfz160_1 := blk_frozen BK138.out 1
                                    have hfz160_2 := blk_frozen BK138.out 2
                                    go_wp2_with (first | ((with_reducible refine gate_callee (f := 17) rfl ?_); refine goesL_ (some 144) rfl rfl Try.func17 (by kernel_rfl) rfl #[.agg #[.int .i64 a0_0, .int .i64 a0_1, .int .i64 a0_2]] rfl (by (try simp only [List.map_toArray, List.map_cons, List.map_nil]); first | done | rfl | (simp only [List.length_drop, List.length_take]; rfl)) ?_; (with_reducible refine (geom_Blocks.calls a0_0 a0_1 a0_2 t158 _ A118.out).mono ?_); rintro e w161 ⟨rfl, hb⟩; refine ⟨_, rfl, ?_⟩; have n0_ := Aside0.mk (Kd.R_below (by (with_reducible repeat (first | apply Kd.R_alloc | apply Kd.R_drewN | apply Kd.R_drew)); exact HO_5.out) hb); have n1_ := Aside0.mk (blk_below (g := gb138) (o := .cells #[.int .i64 a0_0, .int .i64 a0_1, .int .i64 a0_2] 24 (0, 0)) (by (with_reducible repeat (first | refine blk_drewN ?_ _ | refine blk_drew ?_ | refine blk_alloc ?_ _)); exact BK138.out) hb); have n2_ := Aside0.mk (below_step (by repeat (first | (with_reducible first | exact HB.out | apply below_alloc | apply pw_below_drewN | apply below_drew1 | refine below_set ?_ GE138.out) | exact HB.out)) hb); clear HO_5; clear BK138; clear HB; have HO_5 := n0_; have BK138 := n1_; have HB := n2_; clear n0_ n1_ n2_; (try clear hb); (try clear hb2); (try clear hk); (try clear hi); have hcz162_0 : w161.cell? ⟨gb138, 0, none⟩ = some (.int .i64 a0_0) := (blk_cell BK138.out 0).trans rfl; have hcz162_1 : w161.cell? ⟨gb138, 1, none⟩ = some (.int .i64 a0_1) := (blk_cell BK138.out 1).trans rfl; have hcz162_2 : w161.cell? ⟨gb138, 2, none⟩ = some (.int .i64 a0_2) := (blk_cell BK138.out 2).trans rfl; have hfz162_0 := blk_frozen BK138.out 0; have hfz162_1 := blk_frozen BK138.out 1; have hfz162_2 := blk_frozen BK138.out 2) | ((with_reducible refine gate_callee (f := 14) rfl ?_); refine goesL_ (some 151) rfl rfl Try.func14 (by kernel_rfl) rfl #[.agg #[.int .i64 a0_0, .int .i64 a0_1, .int .i64 a0_2], .int .i64 x16_4] rfl (by (try simp only [List.map_toArray, List.map_cons, List.map_nil]); first | done | rfl | (simp only [List.length_drop, List.length_take]; rfl)) ?_; (with_reducible refine (geom_Data.calls k4 a0_0 a0_1 a0_2 x16_4 t159 true _ A120.out).mono ?_); rintro e w163 ⟨rfl, hb⟩; refine ⟨_, rfl, ?_⟩; have n0_ := Aside0.mk (Kd.R_below (by (with_reducible repeat (first | apply Kd.R_alloc | apply Kd.R_drewN | apply Kd.R_drew)); exact HO_5.out) hb); have n1_ := Aside0.mk (blk_below (g := gb138) (o := .cells #[.int .i64 a0_0, .int .i64 a0_1, .int .i64 a0_2] 24 (0, 0)) (by (with_reducible repeat (first | refine blk_drewN ?_ _ | refine blk_drew ?_ | refine blk_alloc ?_ _)); exact BK138.out) hb); have n2_ := Aside0.mk (below_step (by repeat (first | (with_reducible first | exact HB.out | apply below_alloc | apply pw_below_drewN | apply below_drew1 | refine below_set ?_ GE138.out) | exact HB.out)) hb); clear HO_5; clear BK138; clear HB; have HO_5 := n0_; have BK138 := n1_; have HB := n2_; clear n0_ n1_ n2_; (try clear hb); (try clear hb2); (try clear hk); (try clear hi); have hcz164_0 : w163.cell? ⟨gb138, 0, none⟩ = some (.int .i64 a0_0) := (blk_cell BK138.out 0).trans rfl; have hcz164_1 : w163.cell? ⟨gb138, 1, none⟩ = some (.int .i64 a0_1) := (blk_cell BK138.out 1).trans rfl; have hcz164_2 : w163.cell? ⟨gb138, 2, none⟩ = some (.int .i64 a0_2) := (blk_cell BK138.out 2).trans rfl; have hfz164_0 := blk_frozen BK138.out 0; have hfz164_1 := blk_frozen BK138.out 1; have hfz164_2 := blk_frozen BK138.out 2) | ((with_reducible refine gate_callee (f := 25) rfl ?_); refine goesL_ (some 157) rfl rfl Try.func25 (by kernel_rfl) rfl #[.agg #[.int .i64 a0_0, .int .i64 a0_1, .int .i64 a0_2], .int .i64 t159] rfl (by (try simp only [List.map_toArray, List.map_cons, List.map_nil]); first | done | rfl | (simp only [List.length_drop, List.length_take]; rfl)) ?_; (with_reducible refine (geom_DataOf.calls k4 a0_0 a0_1 a0_2 t159 t161 true _ A121.out).mono ?_); rintro e w165 ⟨rfl, hb⟩; refine ⟨_, rfl, ?_⟩; have n0_ := Aside0.mk (Kd.R_below (by (with_reducible repeat (first | apply Kd.R_alloc | apply Kd.R_drewN | apply Kd.R_drew)); exact HO_5.out) hb); have n1_ := Aside0.mk (blk_below (g := gb138) (o := .cells #[.int .i64 a0_0, .int .i64 a0_1, .int .i64 a0_2] 24 (0, 0)) (by (with_reducible repeat (first | refine blk_drewN ?_ _ | refine blk_drew ?_ | refine blk_alloc ?_ _)); exact BK138.out) hb); have n2_ := Aside0.mk (below_step (by repeat (first | (with_reducible first | exact HB.out | apply below_alloc | apply pw_below_drewN | apply below_drew1 | refine below_set ?_ GE138.out) | exact HB.out)) hb); clear HO_5; clear BK138; clear HB; have HO_5 := n0_; have BK138 := n1_; have HB := n2_; clear n0_ n1_ n2_; (try clear hb); (try clear hb2); (try clear hk); (try clear hi)))
                                    go_ret
                                    exact ⟨by first | rfl | (simp [errW_none, errW_some] <;> rfl) | (simp [*, errW_none, errW_some] <;> rfl), by repeat (first | (with_reducible first | exact HB.out | apply below_alloc | apply pw_below_drewN | apply below_drew1 | refine below_set ?_ GE138.out) | exact HB.out)⟩
                                · replace c123 := Bool.eq_false_iff.mpr c123
                                  subst c123
                                  have H1 : (some false) = some r := by rw [if_neg (show ¬ (false = true) by decide)] at H; exact H
                                  clear H
                                  have H := H1
                                  clear H1
                                  obtain rfl := Option.some.inj H
                                  have hcz166_0 : wr.cell? ⟨gb138, 0, none⟩ = some (.int .i64 a0_0) := (blk_cell BK138.out 0).trans rfl
                                  have hcz166_1 : wr.cell? ⟨gb138, 1, none⟩ = some (.int .i64 a0_1) := (blk_cell BK138.out 1).trans rfl
                                  have hcz166_2 : wr.cell? ⟨gb138, 2, none⟩ = some (.int .i64 a0_2) := (blk_cell BK138.out 2).trans rfl
                                  have hfz166_0 := blk_frozen BK138.out 0
                                  have hfz166_1 := blk_frozen BK138.out 1
                                  have hfz166_2 := blk_frozen BK138.out 2
                                  go_wp2_with (first | ((with_reducible refine gate_callee (f := 17) rfl ?_); refine goesL_ (some 144) rfl rfl Try.func17 (by kernel_rfl) rfl #[.agg #[.int .i64 a0_0, .int .i64 a0_1, .int .i64 a0_2]] rfl (by (try simp only [List.map_toArray, List.map_cons, List.map_nil]); first | done | rfl | (simp only [List.length_drop, List.length_take]; rfl)) ?_; (with_reducible refine (geom_Blocks.calls a0_0 a0_1 a0_2 t158 _ A118.out).mono ?_); rintro e w167 ⟨rfl, hb⟩; refine ⟨_, rfl, ?_⟩; have n0_ := Aside0.mk (Kd.R_below (by (with_reducible repeat (first | apply Kd.R_alloc | apply Kd.R_drewN | apply Kd.R_drew)); exact HO_5.out) hb); have n1_ := Aside0.mk (blk_below (g := gb138) (o := .cells #[.int .i64 a0_0, .int .i64 a0_1, .int .i64 a0_2] 24 (0, 0)) (by (with_reducible repeat (first | refine blk_drewN ?_ _ | refine blk_drew ?_ | refine blk_alloc ?_ _)); exact BK138.out) hb); have n2_ := Aside0.mk (below_step (by repeat (first | (with_reducible first | exact HB.out | apply below_alloc | apply pw_below_drewN | apply below_drew1 | refine below_set ?_ GE138.out) | exact HB.out)) hb); clear HO_5; clear BK138; clear HB; have HO_5 := n0_; have BK138 := n1_; have HB := n2_; clear n0_ n1_ n2_; (try clear hb); (try clear hb2); (try clear hk); (try clear hi); have hcz168_0 : w167.cell? ⟨gb138, 0, none⟩ = some (.int .i64 a0_0) := (blk_cell BK138.out 0).trans rfl; have hcz168_1 : w167.cell? ⟨gb138, 1, none⟩ = some (.int .i64 a0_1) := (blk_cell BK138.out 1).trans rfl; have hcz168_2 : w167.cell? ⟨gb138, 2, none⟩ = some (.int .i64 a0_2) := (blk_cell BK138.out 2).trans rfl; have hfz168_0 := blk_frozen BK138.out 0; have hfz168_1 := blk_frozen BK138.out 1; have hfz168_2 := blk_frozen BK138.out 2) | ((with_reducible refine gate_callee (f := 14) rfl ?_); refine goesL_ (some 151) rfl rfl Try.func14 (by kernel_rfl) rfl #[.agg #[.int .i64 a0_0, .int .i64 a0_1, .int .i64 a0_2], .int .i64 x16_4] rfl (by (try simp only [List.map_toArray, List.map_cons, List.map_nil]); first | done | rfl | (simp only [List.length_drop, List.length_take]; rfl)) ?_; (with_reducible refine (geom_Data.calls k4 a0_0 a0_1 a0_2 x16_4 t159 true _ A120.out).mono ?_); rintro e w169 ⟨rfl, hb⟩; refine ⟨_, rfl, ?_⟩; have n0_ := Aside0.mk (Kd.R_below (by (with_reducible repeat (first | apply Kd.R_alloc | apply Kd.R_drewN | apply Kd.R_drew)); exact HO_5.out) hb); have n1_ := Aside0.mk (blk_below (g := gb138) (o := .cells #[.int .i64 a0_0, .int .i64 a0_1, .int .i64 a0_2] 24 (0, 0)) (by (with_reducible repeat (first | refine blk_drewN ?_ _ | refine blk_drew ?_ | refine blk_alloc ?_ _)); exact BK138.out) hb); have n2_ := Aside0.mk (below_step (by repeat (first | (with_reducible first | exact HB.out | apply below_alloc | apply pw_below_drewN | apply below_drew1 | refine below_set ?_ GE138.out) | exact HB.out)) hb); clear HO_5; clear BK138; clear HB; have HO_5 := n0_; have BK138 := n1_; have HB := n2_; clear n0_ n1_ n2_; (try clear hb); (try clear hb2); (try clear hk); (try clear hi); have hcz170_0 : w169.cell? ⟨gb138, 0, none⟩ = some (.int .i64 a0_0) := (blk_cell BK138.out 0).trans rfl; have hcz170_1 : w169.cell? ⟨gb138, 1, none⟩ = some (.int .i64 a0_1) := (blk_cell BK138.out 1).trans rfl; have hcz170_2 : w169.cell? ⟨gb138, 2, none⟩ = some (.int .i64 a0_2) := (blk_cell BK138.out 2).trans rfl; have hfz170_0 := blk_frozen BK138.out 0; have hfz170_1 := blk_frozen BK138.out 1; have hfz170_2 := blk_frozen BK138.out 2) | ((with_reducible refine gate_callee (f := 25) rfl ?_); refine goesL_ (some 157) rfl rfl Try.func25 (by kernel_rfl) rfl #[.agg #[.int .i64 a0_0, .int .i64 a0_1, .int .i64 a0_2], .int .i64 t159] rfl (by (try simp only [List.map_toArray, List.map_cons, List.map_nil]); first | done | rfl | (simp only [List.length_drop, List.length_take]; rfl)) ?_; (with_reducible refine (geom_DataOf.calls k4 a0_0 a0_1 a0_2 t159 t161 false _ A121.out).mono ?_); rintro e w171 ⟨rfl, hb⟩; refine ⟨_, rfl, ?_⟩; have n0_ := Aside0.mk (Kd.R_below (by (with_reducible repeat (first | apply Kd.R_alloc | apply Kd.R_drewN | apply Kd.R_drew)); exact HO_5.out) hb); have n1_ := Aside0.mk (blk_below (g := gb138) (o := .cells #[.int .i64 a0_0, .int .i64 a0_1, .int .i64 a0_2] 24 (0, 0)) (by (with_reducible repeat (first | refine blk_drewN ?_ _ | refine blk_drew ?_ | refine blk_alloc ?_ _)); exact BK138.out) hb); have n2_ := Aside0.mk (below_step (by repeat (first | (with_reducible first | exact HB.out | apply below_alloc | apply pw_below_drewN | apply below_drew1 | refine below_set ?_ GE138.out) | exact HB.out)) hb); clear HO_5; clear BK138; clear HB; have HO_5 := n0_; have BK138 := n1_; have HB := n2_; clear n0_ n1_ n2_; (try clear hb); (try clear hb2); (try clear hk); (try clear hi)))
                                  go_ret
                                  exact ⟨by first | rfl | (simp [errW_none, errW_some] <;> rfl) | (simp [*, errW_none, errW_some] <;> rfl), by repeat (first | (with_reducible first | exact HB.out | apply below_alloc | apply pw_below_drewN | apply below_drew1 | refine below_set ?_ GE138.out) | exact HB.out)⟩
                              · replace c122 := Bool.eq_false_iff.mpr c122
                                subst c122
                                have H1 : (some false) = some r := by rw [if_neg (show ¬ (false = true) by decide)] at H; exact H
                                clear H
                                have H := H1
                                clear H1
                                obtain rfl := Option.some.inj H
                                have hcz172_0 : wr.cell? ⟨gb138, 0, none⟩ = some (.int .i64 a0_0) := (blk_cell BK138.out 0).trans rfl
                                have hcz172_1 : wr.cell? ⟨gb138, 1, none⟩ = some (.int .i64 a0_1) := (blk_cell BK138.out 1).trans rfl
                                have hcz172_2 : wr.cell? ⟨gb138, 2, none⟩ = some (.int .i64 a0_2) := (blk_cell BK138.out 2).trans rfl
                                have hfz172_0 := blk_frozen BK138.out 0
                                have hfz172_1 := blk_frozen BK138.out 1
                                have hfz172_2 := blk_frozen BK138.out 2
                                go_wp2_with (first | ((with_reducible refine gate_callee (f := 17) rfl ?_); refine goesL_ (some 144) rfl rfl Try.func17 (by kernel_rfl) rfl #[.agg #[.int .i64 a0_0, .int .i64 a0_1, .int .i64 a0_2]] rfl (by (try simp only [List.map_toArray, List.map_cons, List.map_nil]); first | done | rfl | (simp only [List.length_drop, List.length_take]; rfl)) ?_; (with_reducible refine (geom_Blocks.calls a0_0 a0_1 a0_2 t158 _ A118.out).mono ?_); rintro e w173 ⟨rfl, hb⟩; refine ⟨_, rfl, ?_⟩; have n0_ := Aside0.mk (Kd.R_below (by (with_reducible repeat (first | apply Kd.R_alloc | apply Kd.R_drewN | apply Kd.R_drew)); exact HO_5.out) hb); have n1_ := Aside0.mk (blk_below (g := gb138) (o := .cells #[.int .i64 a0_0, .int .i64 a0_1, .int .i64 a0_2] 24 (0, 0)) (by (with_reducible repeat (first | refine blk_drewN ?_ _ | refine blk_drew ?_ | refine blk_alloc ?_ _)); exact BK138.out) hb); have n2_ := Aside0.mk (below_step (by repeat (first | (with_reducible first | exact HB.out | apply below_alloc | apply pw_below_drewN | apply below_drew1 | refine below_set ?_ GE138.out) | exact HB.out)) hb); clear HO_5; clear BK138; clear HB; have HO_5 := n0_; have BK138 := n1_; have HB := n2_; clear n0_ n1_ n2_; (try clear hb); (try clear hb2); (try clear hk); (try clear hi); have hcz174_0 : w173.cell? ⟨gb138, 0, none⟩ = some (.int .i64 a0_0) := (blk_cell BK138.out 0).trans rfl; have hcz174_1 : w173.cell? ⟨gb138, 1, none⟩ = some (.int .i64 a0_1) := (blk_cell BK138.out 1).trans rfl; have hcz174_2 : w173.cell? ⟨gb138, 2, none⟩ = some (.int .i64 a0_2) := (blk_cell BK138.out 2).trans rfl; have hfz174_0 := blk_frozen BK138.out 0; have hfz174_1 := blk_frozen BK138.out 1; have hfz174_2 := blk_frozen BK138.out 2) | ((with_reducible refine gate_callee (f := 14) rfl ?_); refine goesL_ (some 151) rfl rfl Try.func14 (by kernel_rfl) rfl #[.agg #[.int .i64 a0_0, .int .i64 a0_1, .int .i64 a0_2], .int .i64 x16_4] rfl (by (try simp only [List.map_toArray, List.map_cons, List.map_nil]); first | done | rfl | (simp only [List.length_drop, List.length_take]; rfl)) ?_; (with_reducible refine (geom_Data.calls k4 a0_0 a0_1 a0_2 x16_4 t159 false _ A120.out).mono ?_); rintro e w175 ⟨rfl, hb⟩; refine ⟨_, rfl, ?_⟩; have n0_ := Aside0.mk (Kd.R_below (by (with_reducible repeat (first | apply Kd.R_alloc | apply Kd.R_drewN | apply Kd.R_drew)); exact HO_5.out) hb); have n1_ := Aside0.mk (blk_below (g := gb138) (o := .cells #[.int .i64 a0_0, .int .i64 a0_1, .int .i64 a0_2] 24 (0, 0)) (by (with_reducible repeat (first | refine blk_drewN ?_ _ | refine blk_drew ?_ | refine blk_alloc ?_ _)); exact BK138.out) hb); have n2_ := Aside0.mk (below_step (by repeat (first | (with_reducible first | exact HB.out | apply below_alloc | apply pw_below_drewN | apply below_drew1 | refine below_set ?_ GE138.out) | exact HB.out)) hb); clear HO_5; clear BK138; clear HB; have HO_5 := n0_; have BK138 := n1_; have HB := n2_; clear n0_ n1_ n2_; (try clear hb); (try clear hb2); (try clear hk); (try clear hi); have hcz176_0 : w175.cell? ⟨gb138, 0, none⟩ = some (.int .i64 a0_0) := (blk_cell BK138.out 0).trans rfl; have hcz176_1 : w175.cell? ⟨gb138, 1, none⟩ = some (.int .i64 a0_1) := (blk_cell BK138.out 1).trans rfl; have hcz176_2 : w175.cell? ⟨gb138, 2, none⟩ = some (.int .i64 a0_2) := (blk_cell BK138.out 2).trans rfl; have hfz176_0 := blk_frozen BK138.out 0; have hfz176_1 := blk_frozen BK138.out 1; have hfz176_2 := blk_frozen BK138.out 2) | ((with_reducible refine gate_callee (f := 25) rfl ?_); refine goesL_ (some 157) rfl rfl Try.func25 (by kernel_rfl) rfl #[.agg #[.int .i64 a0_0, .int .i64 a0_1, .int .i64 a0_2], .int .i64 t159] rfl (by (try simp only [List.map_toArray, List.map_cons, List.map_nil]); first | done | rfl | (simp only [List.length_drop, List.length_take]; rfl)) ?_; (with_reducible refine (geom_DataOf.calls k4 a0_0 a0_1 a0_2 t159 t161 t162 _ A121.out).mono ?_); rintro e w177 ⟨rfl, hb⟩; refine ⟨_, rfl, ?_⟩; have n0_ := Aside0.mk (Kd.R_below (by (with_reducible repeat (first | apply Kd.R_alloc | apply Kd.R_drewN | apply Kd.R_drew)); exact HO_5.out) hb); have n1_ := Aside0.mk (blk_below (g := gb138) (o := .cells #[.int .i64 a0_0, .int .i64 a0_1, .int .i64 a0_2] 24 (0, 0)) (by (with_reducible repeat (first | refine blk_drewN ?_ _ | refine blk_drew ?_ | refine blk_alloc ?_ _)); exact BK138.out) hb); have n2_ := Aside0.mk (below_step (by repeat (first | (with_reducible first | exact HB.out | apply below_alloc | apply pw_below_drewN | apply below_drew1 | refine below_set ?_ GE138.out) | exact HB.out)) hb); clear HO_5; clear BK138; clear HB; have HO_5 := n0_; have BK138 := n1_; have HB := n2_; clear n0_ n1_ n2_; (try clear hb); (try clear hb2); (try clear hk); (try clear hi)))
                                go_ret
                                exact ⟨by first | rfl | (simp [errW_none, errW_some] <;> rfl) | (simp [*, errW_none, errW_some] <;> rfl), by repeat (first | (with_reducible first | exact HB.out | apply below_alloc | apply pw_below_drewN | apply below_drew1 | refine below_set ?_ GE138.out) | exact HB.out)⟩
                            · rw [if_neg c119] at H
                              have c119b0 : decide (x16_4 < t158) = false := decide_eq_false c119
                              clear c119
                              have H' := Aside0.mk H
                              clear H
                              have hcz178_0 : wr.cell? ⟨gb138, 0, none⟩ = some (.int .i64 a0_0) := (blk_cell BK138.out 0).trans rfl
                              have hcz178_1 : wr.cell? ⟨gb138, 1, none⟩ = some (.int .i64 a0_1) := (blk_cell BK138.out 1).trans rfl
                              have hcz178_2 : wr.cell? ⟨gb138, 2, none⟩ = some (.int .i64 a0_2) := (blk_cell BK138.out 2).trans rfl
                              have hfz178_0 := blk_frozen BK138.out 0
                              have hfz178_1 := blk_frozen BK138.out 1
                              have hfz178_2 := blk_frozen BK138.out 2
                              go_wp2_with (first | ((with_reducible refine gate_callee (f := 17) rfl ?_); refine goesL_ (some 144) rfl rfl Try.func17 (by kernel_rfl) rfl #[.agg #[.int .i64 a0_0, .int .i64 a0_1, .int .i64 a0_2]] rfl (by (try simp only [List.map_toArray, List.map_cons, List.map_nil]); first | done | rfl | (simp only [List.length_drop, List.length_take]; rfl)) ?_; (with_reducible refine (geom_Blocks.calls a0_0 a0_1 a0_2 t158 _ A118.out).mono ?_); rintro e w179 ⟨rfl, hb⟩; refine ⟨_, rfl, ?_⟩; have n0_ := Aside0.mk (Kd.R_below (by (with_reducible repeat (first | apply Kd.R_alloc | apply Kd.R_drewN | apply Kd.R_drew)); exact HO_5.out) hb); have n1_ := Aside0.mk (blk_below (g := gb138) (o := .cells #[.int .i64 a0_0, .int .i64 a0_1, .int .i64 a0_2] 24 (0, 0)) (by (with_reducible repeat (first | refine blk_drewN ?_ _ | refine blk_drew ?_ | refine blk_alloc ?_ _)); exact BK138.out) hb); have n2_ := Aside0.mk (below_step (by repeat (first | (with_reducible first | exact HB.out | apply below_alloc | apply pw_below_drewN | apply below_drew1 | refine below_set ?_ GE138.out) | exact HB.out)) hb); clear HO_5; clear BK138; clear HB; have HO_5 := n0_; have BK138 := n1_; have HB := n2_; clear n0_ n1_ n2_; (try clear hb); (try clear hb2); (try clear hk); (try clear hi)))
                              go_loopg [21] k4 (fun kq v21 w' => ∃ (x21_5 : Int), v21 = .int .i64 x21_5 ∧ Aside0 (lockgatelaw3_GeomParts.l3 kq x5_4 x21_5 a0_0 a0_1 a0_2 = some r) ∧ Aside0 (kq ≤ k4) ∧ Aside0 (Kd.R (Kd.int .i64) 3 w' w.heap.size (fun _ => True) v143 x5_4) ∧ Aside0 (w'.heap[gb138]? = some (.cells #[.int .i64 a0_0, .int .i64 a0_1, .int .i64 a0_2] 24 (0, 0))) ∧ Aside0 (Below w.heap.size w w'))
                              case atStart => exact ⟨(1), (by first | rfl | (simp; done) | (simp [*]; done)), H', ⟨Nat.le_refl _⟩, ⟨by (with_reducible repeat (first | apply Kd.R_alloc | apply Kd.R_drewN | apply Kd.R_drew)); exact HO_5.out⟩, ⟨by (with_reducible repeat (first | refine blk_drewN ?_ _ | refine blk_drew ?_ | refine blk_alloc ?_ _)); exact BK138.out⟩, ⟨by repeat (first | (with_reducible first | exact HB.out | apply below_alloc | apply pw_below_drewN | apply below_drew1 | refine below_set ?_ GE138.out) | exact HB.out)⟩⟩
                              case round =>
                                clear H'
                                try clear c1
                                try clear p1
                                try clear q1
                                try clear hx1
                                try clear hf1
                                try clear c2
                                try clear p2
                                try clear c3
                                try clear p3
                                try clear q3
                                try clear hx3
                                try clear hf3
                                try clear c4
                                try clear c5
                                try clear c6
                                try clear p6
                                try clear c7
                                try clear p7
                                try clear q7
                                try clear hx7
                                try clear hf7
                                try clear c9
                                try clear c10
                                try clear c11
                                try clear c12
                                try clear c13
                                try clear c14
                                try clear c14b0
                                try clear c14b1
                                try clear p14
                                try clear q14
                                try clear hx14
                                try clear hf14
                                try clear c15
                                try clear c15b0
                                try clear c15b1
                                try clear p15
                                try clear q15
                                try clear hx15
                                try clear c16
                                try clear p16
                                try clear q16
                                try clear hx16
                                try clear c17
                                try clear c18
                                try clear c20
                                try clear c20b0
                                try clear c22
                                try clear c23
                                try clear c23b0
                                try clear c25
                                try clear c26
                                try clear c26b0
                                try clear c27
                                try clear c30
                                try clear c30b0
                                try clear c31
                                try clear c31b0
                                try clear c32
                                try clear c32b0
                                try clear c32b1
                                try clear p33
                                try clear q33
                                try clear hx33
                                try clear hf33
                                try clear c46
                                try clear c46b0
                                try clear c49
                                try clear c50
                                try clear c51
                                try clear c51b0
                                try clear c58
                                try clear c58b0
                                try clear p64
                                try clear c66
                                try clear c66b0
                                try clear c67
                                try clear c67b0
                                try clear c68
                                try clear c68b0
                                try clear c68b1
                                try clear c76
                                try clear c76b0
                                try clear c76b1
                                try clear c77
                                try clear c77b0
                                try clear c77b1
                                try clear p78
                                try clear q78
                                try clear hx78
                                try clear hf78
                                try clear c119
                                try clear c119b0
                                try clear c122
                                try clear c123
                                try clear c124
                                try clear c124b0
                                try clear c124b1
                                try clear c125
                                try clear c125b0
                                try clear c132
                                try clear c132b0
                                try clear c140
                                try clear c140b0
                                try clear c141
                                try clear c141b0
                                try clear c142
                                try clear c142b0
                                try clear c142b1
                                try clear p143
                                try clear q143
                                try clear hx143
                                try clear hf143
                                try clear p147
                                try clear q147
                                try clear hx147
                                try clear p156
                                try clear q156
                                try clear hx156
                                try clear p163
                                try clear q163
                                try clear hx163
                                try clear hcz101_0
                                try clear hcz101_1
                                try clear hcz101_2
                                try clear hcz104_0
                                try clear hcz104_1
                                try clear hcz104_2
                                try clear hcz106_0
                                try clear hcz106_1
                                try clear hcz106_2
                                try clear hcz108_0
                                try clear hcz108_1
                                try clear hcz108_2
                                try clear hcz110_0
                                try clear hcz110_1
                                try clear hcz110_2
                                try clear hcz112_0
                                try clear hcz112_1
                                try clear hcz112_2
                                try clear hcz114_0
                                try clear hcz114_1
                                try clear hcz114_2
                                try clear hcz116_0
                                try clear hcz116_1
                                try clear hcz116_2
                                try clear hcz11_0
                                try clear hcz11_1
                                try clear hcz11_2
                                try clear hcz126_0
                                try clear hcz126_1
                                try clear hcz126_2
                                try clear hcz128_0
                                try clear hcz128_1
                                try clear hcz128_2
                                try clear hcz130_0
                                try clear hcz130_1
                                try clear hcz130_2
                                try clear hcz133_0
                                try clear hcz133_1
                                try clear hcz133_2
                                try clear hcz135_0
                                try clear hcz135_1
                                try clear hcz135_2
                                try clear hcz137_0
                                try clear hcz137_1
                                try clear hcz137_2
                                try clear hcz144_0
                                try clear hcz144_1
                                try clear hcz144_2
                                try clear hcz146_0
                                try clear hcz146_1
                                try clear hcz146_2
                                try clear hcz148_0
                                try clear hcz148_1
                                try clear hcz148_2
                                try clear hcz153_0
                                try clear hcz153_1
                                try clear hcz153_2
                                try clear hcz155_0
                                try clear hcz155_1
                                try clear hcz155_2
                                try clear hcz157_0
                                try clear hcz157_1
                                try clear hcz157_2
                                try clear hcz160_0
                                try clear hcz160_1
                                try clear hcz160_2
                                try clear hcz162_0
                                try clear hcz162_1
                                try clear hcz162_2
                                try clear hcz164_0
                                try clear hcz164_1
                                try clear hcz164_2
                                try clear hcz166_0
                                try clear hcz166_1
                                try clear hcz166_2
                                try clear hcz168_0
                                try clear hcz168_1
                                try clear hcz168_2
                                try clear hcz16_0
                                try clear hcz16_1
                                try clear hcz16_2
                                try clear hcz170_0
                                try clear hcz170_1
                                try clear hcz170_2
                                try clear hcz172_0
                                try clear hcz172_1
                                try clear hcz172_2
                                try clear hcz174_0
                                try clear hcz174_1
                                try clear hcz174_2
                                try clear hcz176_0
                                try clear hcz176_1
                                try clear hcz176_2
                                try clear hcz178_0
                                try clear hcz178_1
                                try clear hcz178_2
                                try clear hcz24_0
                                try clear hcz24_1
                                try clear hcz24_2
                                try clear hcz27_0
                                try clear hcz27_1
                                try clear hcz27_2
                                try clear hcz34_0
                                try clear hcz34_1
                                try clear hcz34_2
                                try clear hcz39_0
                                try clear hcz39_1
                                try clear hcz39_2
                                try clear hcz42_0
                                try clear hcz42_1
                                try clear hcz42_2
                                try clear hcz44_0
                                try clear hcz44_1
                                try clear hcz44_2
                                try clear hcz52_0
                                try clear hcz52_1
                                try clear hcz52_2
                                try clear hcz54_0
                                try clear hcz54_1
                                try clear hcz54_2
                                try clear hcz56_0
                                try clear hcz56_1
                                try clear hcz56_2
                                try clear hcz59_0
                                try clear hcz59_1
                                try clear hcz59_2
                                try clear hcz61_0
                                try clear hcz61_1
                                try clear hcz61_2
                                try clear hcz63_0
                                try clear hcz63_1
                                try clear hcz63_2
                                try clear hcz69_0
                                try clear hcz69_1
                                try clear hcz69_2
                                try clear hcz71_0
                                try clear hcz71_1
                                try clear hcz71_2
                                try clear hcz73_0
                                try clear hcz73_1
                                try clear hcz73_2
                                try clear hcz79_0
                                try clear hcz79_1
                                try clear hcz79_2
                                try clear hcz7_0
                                try clear hcz7_1
                                try clear hcz7_2
                                try clear hcz81_0
                                try clear hcz81_1
                                try clear hcz81_2
                                try clear hcz83_0
                                try clear hcz83_1
                                try clear hcz83_2
                                try clear hcz86_0
                                try clear hcz86_1
                                try clear hcz86_2
                                try clear hcz89_0
                                try clear hcz89_1
                                try clear hcz89_2
                                try clear hcz91_0
                                try clear hcz91_1
                                try clear hcz91_2
                                try clear hcz93_0
                                try clear hcz93_1
                                try clear hcz93_2
                                try clear hcz96_0
                                try clear hcz96_1
                                try clear hcz96_2
                                try clear hcz97_0
                                try clear hcz97_1
                                try clear hcz97_2
                                try clear hcz99_0
                                try clear hcz99_1
                                try clear hcz99_2
                                try clear hfz101_0
                                try clear hfz101_1
                                try clear hfz101_2
                                try clear hfz104_0
                                try clear hfz104_1
                                try clear hfz104_2
                                try clear hfz106_0
                                try clear hfz106_1
                                try clear hfz106_2
                                try clear hfz108_0
                                try clear hfz108_1
                                try clear hfz108_2
                                try clear hfz110_0
                                try clear hfz110_1
                                try clear hfz110_2
                                try clear hfz112_0
                                try clear hfz112_1
                                try clear hfz112_2
                                try clear hfz114_0
                                try clear hfz114_1
                                try clear hfz114_2
                                try clear hfz116_0
                                try clear hfz116_1
                                try clear hfz116_2
                                try clear hfz11_0
                                try clear hfz11_1
                                try clear hfz11_2
                                try clear hfz126_0
                                try clear hfz126_1
                                try clear hfz126_2
                                try clear hfz128_0
                                try clear hfz128_1
                                try clear hfz128_2
                                try clear hfz130_0
                                try clear hfz130_1
                                try clear hfz130_2
                                try clear hfz133_0
                                try clear hfz133_1
                                try clear hfz133_2
                                try clear hfz135_0
                                try clear hfz135_1
                                try clear hfz135_2
                                try clear hfz137_0
                                try clear hfz137_1
                                try clear hfz137_2
                                try clear hfz144_0
                                try clear hfz144_1
                                try clear hfz144_2
                                try clear hfz146_0
                                try clear hfz146_1
                                try clear hfz146_2
                                try clear hfz148_0
                                try clear hfz148_1
                                try clear hfz148_2
                                try clear hfz153_0
                                try clear hfz153_1
                                try clear hfz153_2
                                try clear hfz155_0
                                try clear hfz155_1
                                try clear hfz155_2
                                try clear hfz157_0
                                try clear hfz157_1
                                try clear hfz157_2
                                try clear hfz160_0
                                try clear hfz160_1
                                try clear hfz160_2
                                try clear hfz162_0
                                try clear hfz162_1
                                try clear hfz162_2
                                try clear hfz164_0
                                try clear hfz164_1
                                try clear hfz164_2
                                try clear hfz166_0
                                try clear hfz166_1
                                try clear hfz166_2
                                try clear hfz168_0
                                try clear hfz168_1
                                try clear hfz168_2
                                try clear hfz16_0
                                try clear hfz16_1
                                try clear hfz16_2
                                try clear hfz170_0
                                try clear hfz170_1
                                try clear hfz170_2
                                try clear hfz172_0
                                try clear hfz172_1
                                try clear hfz172_2
                                try clear hfz174_0
                                try clear hfz174_1
                                try clear hfz174_2
                                try clear hfz176_0
                                try clear hfz176_1
                                try clear hfz176_2
                                try clear hfz178_0
                                try clear hfz178_1
                                try clear hfz178_2
                                try clear hfz24_0
                                try clear hfz24_1
                                try clear hfz24_2
                                try clear hfz27_0
                                try clear hfz27_1
                                try clear hfz27_2
                                try clear hfz34_0
                                try clear hfz34_1
                                try clear hfz34_2
                                try clear hfz39_0
                                try clear hfz39_1
                                try clear hfz39_2
                                try clear hfz42_0
                                try clear hfz42_1
                                try clear hfz42_2
                                try clear hfz44_0
                                try clear hfz44_1
                                try clear hfz44_2
                                try clear hfz52_0
                                try clear hfz52_1
                                try clear hfz52_2
                                try clear hfz54_0
                                try clear hfz54_1
                                try clear hfz54_2
                                try clear hfz56_0
                                try clear hfz56_1
                                try clear hfz56_2
                                try clear hfz59_0
                                try clear hfz59_1
                                try clear hfz59_2
                                try clear hfz61_0
                                try clear hfz61_1
                                try clear hfz61_2
                                try clear hfz63_0
                                try clear hfz63_1
                                try clear hfz63_2
                                try clear hfz69_0
                                try clear hfz69_1
                                try clear hfz69_2
                                try clear hfz71_0
                                try clear hfz71_1
                                try clear hfz71_2
                                try clear hfz73_0
                                try clear hfz73_1
                                try clear hfz73_2
                                try clear hfz79_0
                                try clear hfz79_1
                                try clear hfz79_2
                                try clear hfz7_0
                                try clear hfz7_1
                                try clear hfz7_2
                                try clear hfz81_0
                                try clear hfz81_1
                                try clear hfz81_2
                                try clear hfz83_0
                                try clear hfz83_1
                                try clear hfz83_2
                                try clear hfz86_0
                                try clear hfz86_1
                                try clear hfz86_2
                                try clear hfz89_0
                                try clear hfz89_1
                                try clear hfz89_2
                                try clear hfz91_0
                                try clear hfz91_1
                                try clear hfz91_2
                                try clear hfz93_0
                                try clear hfz93_1
                                try clear hfz93_2
                                try clear hfz96_0
                                try clear hfz96_1
                                try clear hfz96_2
                                try clear hfz97_0
                                try clear hfz97_1
                                try clear hfz97_2
                                try clear hfz99_0
                                try clear hfz99_1
                                try clear hfz99_2
                                try clear hx143_0
                                try clear hx147_0
                                try clear hx156_0
                                try clear hx163_0
                                try clear hx33_0
                                try clear hx78_0
                                try clear p1
                                try clear p14
                                try clear p143
                                try clear p147
                                try clear p15
                                try clear p156
                                try clear p163
                                try clear p2
                                try clear p3
                                try clear p33
                                try clear p6
                                try clear p64
                                try clear p7
                                try clear p78
                                try clear q1
                                try clear q14
                                try clear q143
                                try clear q147
                                try clear q15
                                try clear q156
                                try clear q163
                                try clear q3
                                try clear q33
                                try clear q7
                                try clear q78
                                obtain ⟨x21_5, rfl, HA, HK5, HO_5, BK138, HB⟩ := hrel
                                cases gk with
                                | zero => exact absurd HA.out (by simp [lockgatelaw3_GeomParts.l3])
                                | succ k5 =>
                                  have H := HA.out
                                  clear HA
                                  simp only [lockgatelaw3_GeomParts.l3] at H
                                  by_cases c180 : x21_5 < (x5_4.length : Int)
                                  · rw [if_pos c180] at H
                                    have c180b0 : decide (x21_5 < (x5_4.length : Int)) = true := decide_eq_true c180
                                    clear c180
                                    replace H := Option.bind_eq_some_iff.mp H
                                    obtain ⟨⟨t165, t166⟩, A1810, H⟩ := H
                                    replace H : (if 0 ≤ x21_5 then (if (rd x5_4 x21_5) = 0 then (some false) else (if (t166 != ((rd x5_4 x21_5) == 3)) = true then (some false) else (lockgatelaw3_GeomParts.l3 k5 x5_4 (wrap64 (x21_5 + 1)) a0_0 a0_1 a0_2))) else (none)) = some r := H
                                    have A181 := Aside0.mk A1810
                                    clear A1810
                                    by_cases c182 : 0 ≤ x21_5
                                    · rw [if_pos c182] at H
                                      have c182b0 : decide (0 ≤ x21_5) = true := decide_eq_true c182
                                      clear c182
                                      by_cases c183 : (rd x5_4 x21_5) = 0
                                      · rw [if_pos c183] at H
                                        have c183b0 : ((rd x5_4 x21_5) == 0) = true := beq_iff_eq.mpr c183
                                        have c183b1 : ((rd x5_4 x21_5) != 0) = false := bne_eq_false_iff_eq.mpr c183
                                        clear c183
                                        obtain rfl := Option.some.inj H
                                        obtain ⟨Ao184, co184, eo184⟩ := Kd.R_slice HO_5.out
                                        subst eo184
                                        have hcz185_0 : wr.cell? ⟨gb138, 0, none⟩ = some (.int .i64 a0_0) := (blk_cell BK138.out 0).trans rfl
                                        have hcz185_1 : wr.cell? ⟨gb138, 1, none⟩ = some (.int .i64 a0_1) := (blk_cell BK138.out 1).trans rfl
                                        have hcz185_2 : wr.cell? ⟨gb138, 2, none⟩ = some (.int .i64 a0_2) := (blk_cell BK138.out 2).trans rfl
                                        have hfz185_0 := blk_frozen BK138.out 0
                                        have hfz185_1 := blk_frozen BK138.out 1
                                        have hfz185_2 := blk_frozen BK138.out 2
                                        go_wp2_with (first | ((with_reducible refine gate_callee (f := 25) rfl ?_); refine goesL_ (some 200) rfl rfl Try.func25 (by kernel_rfl) rfl #[.agg #[.int .i64 a0_0, .int .i64 a0_1, .int .i64 a0_2], .int .i64 x21_5] rfl (by (try simp only [List.map_toArray, List.map_cons, List.map_nil]); first | done | rfl | (simp only [List.length_drop, List.length_take]; rfl)) ?_; (with_reducible refine (geom_DataOf.calls k5 a0_0 a0_1 a0_2 x21_5 t165 t166 _ A181.out).mono ?_); rintro e w186 ⟨rfl, hb⟩; refine ⟨_, rfl, ?_⟩; have n0_ := Aside0.mk (Kd.R_below (by (with_reducible repeat (first | apply Kd.R_alloc | apply Kd.R_drewN | apply Kd.R_drew)); exact HO_5.out) hb); have n1_ := Aside0.mk (blk_below (g := gb138) (o := .cells #[.int .i64 a0_0, .int .i64 a0_1, .int .i64 a0_2] 24 (0, 0)) (by (with_reducible repeat (first | refine blk_drewN ?_ _ | refine blk_drew ?_ | refine blk_alloc ?_ _)); exact BK138.out) hb); have n2_ := Aside0.mk (below_step (by repeat (first | (with_reducible first | exact HB.out | apply below_alloc | apply pw_below_drewN | apply below_drew1 | refine below_set ?_ GE138.out) | exact HB.out)) hb); clear HO_5; clear BK138; clear HB; have HO_5 := n0_; have BK138 := n1_; have HB := n2_; clear n0_ n1_ n2_; (try clear hb); (try clear hb2); (try clear hk); (try clear hi); have p167 : 0 ≤ (x21_5 : Int) := of_decide_eq_true (by first | (with_reducible assumption) | assumption); have q167 : x21_5 < (x5_4.length : Int) := of_decide_eq_true (by first | (with_reducible assumption) | assumption); obtain ⟨ad167, e167, hx167_0⟩ := Kd.at_int (Kd.R_reads' HO_5.out).2.2 x21_5 p167 q167; cases e167; replace p167 := eq_true p167; replace q167 := eq_true q167))
                                        go_ret
                                        exact ⟨by first | rfl | (simp [errW_none, errW_some] <;> rfl) | (simp [*, errW_none, errW_some] <;> rfl), by repeat (first | (with_reducible first | exact HB.out | apply below_alloc | apply pw_below_drewN | apply below_drew1 | refine below_set ?_ GE138.out) | exact HB.out)⟩
                                      · rw [if_neg c183] at H
                                        have c183b0 : ((rd x5_4 x21_5) == 0) = false := beq_eq_false_iff_ne.mpr c183
                                        have c183b1 : ((rd x5_4 x21_5) != 0) = true := bne_iff_ne.mpr c183
                                        by_cases c187 : (t166 != ((rd x5_4 x21_5) == 3)) = true
                                        · rw [if_pos c187] at H
                                          have c187b0 : (t166 != ((rd x5_4 x21_5) == 3)) = true := c187
                                          (try (have c187b1 : decide (t166 = ((rd x5_4 x21_5) == 3)) = false := by simpa using c187))
                                          (try (have c187b2 : (t166 == ((rd x5_4 x21_5) == 3)) = false := by simpa using c187))
                                          (try (have c187b3 : ¬ (t166 = ((rd x5_4 x21_5) == 3)) := by simpa using c187))
                                          clear c187
                                          obtain rfl := Option.some.inj H
                                          obtain ⟨Ao188, co188, eo188⟩ := Kd.R_slice HO_5.out
                                          subst eo188
                                          have hcz189_0 : wr.cell? ⟨gb138, 0, none⟩ = some (.int .i64 a0_0) := (blk_cell BK138.out 0).trans rfl
                                          have hcz189_1 : wr.cell? ⟨gb138, 1, none⟩ = some (.int .i64 a0_1) := (blk_cell BK138.out 1).trans rfl
                                          have hcz189_2 : wr.cell? ⟨gb138, 2, none⟩ = some (.int .i64 a0_2) := (blk_cell BK138.out 2).trans rfl
                                          have hfz189_0 := blk_frozen BK138.out 0
                                          have hfz189_1 := blk_frozen BK138.out 1
                                          have hfz189_2 := blk_frozen BK138.out 2
                                          go_wp2_with (first | ((with_reducible refine gate_callee (f := 25) rfl ?_); refine goesL_ (some 200) rfl rfl Try.func25 (by kernel_rfl) rfl #[.agg #[.int .i64 a0_0, .int .i64 a0_1, .int .i64 a0_2], .int .i64 x21_5] rfl (by (try simp only [List.map_toArray, List.map_cons, List.map_nil]); first | done | rfl | (simp only [List.length_drop, List.length_take]; rfl)) ?_; (with_reducible refine (geom_DataOf.calls k5 a0_0 a0_1 a0_2 x21_5 t165 t166 _ A181.out).mono ?_); rintro e w190 ⟨rfl, hb⟩; refine ⟨_, rfl, ?_⟩; have n0_ := Aside0.mk (Kd.R_below (by (with_reducible repeat (first | apply Kd.R_alloc | apply Kd.R_drewN | apply Kd.R_drew)); exact HO_5.out) hb); have n1_ := Aside0.mk (blk_below (g := gb138) (o := .cells #[.int .i64 a0_0, .int .i64 a0_1, .int .i64 a0_2] 24 (0, 0)) (by (with_reducible repeat (first | refine blk_drewN ?_ _ | refine blk_drew ?_ | refine blk_alloc ?_ _)); exact BK138.out) hb); have n2_ := Aside0.mk (below_step (by repeat (first | (with_reducible first | exact HB.out | apply below_alloc | apply pw_below_drewN | apply below_drew1 | refine below_set ?_ GE138.out) | exact HB.out)) hb); clear HO_5; clear BK138; clear HB; have HO_5 := n0_; have BK138 := n1_; have HB := n2_; clear n0_ n1_ n2_; (try clear hb); (try clear hb2); (try clear hk); (try clear hi); have p167 : 0 ≤ (x21_5 : Int) := of_decide_eq_true (by first | (with_reducible assumption) | assumption); have q167 : x21_5 < (x5_4.length : Int) := of_decide_eq_true (by first | (with_reducible assumption) | assumption); obtain ⟨ad167, e167, hx167_0⟩ := Kd.at_int (Kd.R_reads' HO_5.out).2.2 x21_5 p167 q167; cases e167; replace p167 := eq_true p167; replace q167 := eq_true q167; have p168 : 0 ≤ (x21_5 : Int) := of_decide_eq_true (by first | (with_reducible assumption) | assumption); have q168 : x21_5 < (x5_4.length : Int) := of_decide_eq_true (by first | (with_reducible assumption) | assumption); obtain ⟨ad168, e168, hx168_0⟩ := Kd.at_int (Kd.R_reads' HO_5.out).2.2 x21_5 p168 q168; obtain rfl : ad167 = ad168 := (by injection e168); replace p168 := eq_true p168; replace q168 := eq_true q168))
                                          go_ret
                                          exact ⟨by first | rfl | (simp [errW_none, errW_some] <;> rfl) | (simp [*, errW_none, errW_some] <;> rfl), by repeat (first | (with_reducible first | exact HB.out | apply below_alloc | apply pw_below_drewN | apply below_drew1 | refine below_set ?_ GE138.out) | exact HB.out)⟩
                                        · rw [if_neg c187] at H
                                          have c187b0 : (t166 != ((rd x5_4 x21_5) == 3)) = false := by simpa using c187
                                          (try (have c187b1 : decide (t166 = ((rd x5_4 x21_5) == 3)) = true := by simpa using c187))
                                          (try (have c187b2 : (t166 == ((rd x5_4 x21_5) == 3)) = true := by simpa using c187))
                                          clear c187
                                          have H' := Aside0.mk H
                                          clear H
                                          obtain ⟨Ao191, co191, eo191⟩ := Kd.R_slice HO_5.out
                                          subst eo191
                                          have hcz192_0 : wr.cell? ⟨gb138, 0, none⟩ = some (.int .i64 a0_0) := (blk_cell BK138.out 0).trans rfl
                                          have hcz192_1 : wr.cell? ⟨gb138, 1, none⟩ = some (.int .i64 a0_1) := (blk_cell BK138.out 1).trans rfl
                                          have hcz192_2 : wr.cell? ⟨gb138, 2, none⟩ = some (.int .i64 a0_2) := (blk_cell BK138.out 2).trans rfl
                                          have hfz192_0 := blk_frozen BK138.out 0
                                          have hfz192_1 := blk_frozen BK138.out 1
                                          have hfz192_2 := blk_frozen BK138.out 2
                                          go_wp2_with (first | ((with_reducible refine gate_callee (f := 25) rfl ?_); refine goesL_ (some 200) rfl rfl Try.func25 (by kernel_rfl) rfl #[.agg #[.int .i64 a0_0, .int .i64 a0_1, .int .i64 a0_2], .int .i64 x21_5] rfl (by (try simp only [List.map_toArray, List.map_cons, List.map_nil]); first | done | rfl | (simp only [List.length_drop, List.length_take]; rfl)) ?_; (with_reducible refine (geom_DataOf.calls k5 a0_0 a0_1 a0_2 x21_5 t165 t166 _ A181.out).mono ?_); rintro e w193 ⟨rfl, hb⟩; refine ⟨_, rfl, ?_⟩; have n0_ := Aside0.mk (Kd.R_below (by (with_reducible repeat (first | apply Kd.R_alloc | apply Kd.R_drewN | apply Kd.R_drew)); exact HO_5.out) hb); have n1_ := Aside0.mk (blk_below (g := gb138) (o := .cells #[.int .i64 a0_0, .int .i64 a0_1, .int .i64 a0_2] 24 (0, 0)) (by (with_reducible repeat (first | refine blk_drewN ?_ _ | refine blk_drew ?_ | refine blk_alloc ?_ _)); exact BK138.out) hb); have n2_ := Aside0.mk (below_step (by repeat (first | (with_reducible first | exact HB.out | apply below_alloc | apply pw_below_drewN | apply below_drew1 | refine below_set ?_ GE138.out) | exact HB.out)) hb); clear HO_5; clear BK138; clear HB; have HO_5 := n0_; have BK138 := n1_; have HB := n2_; clear n0_ n1_ n2_; (try clear hb); (try clear hb2); (try clear hk); (try clear hi); have p167 : 0 ≤ (x21_5 : Int) := of_decide_eq_true (by first | (with_reducible assumption) | assumption); have q167 : x21_5 < (x5_4.length : Int) := of_decide_eq_true (by first | (with_reducible assumption) | assumption); obtain ⟨ad167, e167, hx167_0⟩ := Kd.at_int (Kd.R_reads' HO_5.out).2.2 x21_5 p167 q167; cases e167; replace p167 := eq_true p167; replace q167 := eq_true q167; have p168 : 0 ≤ (x21_5 : Int) := of_decide_eq_true (by first | (with_reducible assumption) | assumption); have q168 : x21_5 < (x5_4.length : Int) := of_decide_eq_true (by first | (with_reducible assumption) | assumption); obtain ⟨ad168, e168, hx168_0⟩ := Kd.at_int (Kd.R_reads' HO_5.out).2.2 x21_5 p168 q168; obtain rfl : ad167 = ad168 := (by injection e168); replace p168 := eq_true p168; replace q168 := eq_true q168))
                                          go_roundg k5
                                          case measure => have := HJ3.out; have := HK2.out; have := HK3.out; have := HK4.out; have := HK5.out; omega
                                          case rel => exact ⟨(wrap64 (x21_5 + 1)), (by first | rfl | (simp; done) | (simp [*]; done)), H', ⟨by have := HJ3.out; have := HK2.out; have := HK3.out; have := HK4.out; have := HK5.out; omega⟩, ⟨by (with_reducible repeat (first | apply Kd.R_alloc | apply Kd.R_drewN | apply Kd.R_drew)); exact HO_5.out⟩, ⟨by (with_reducible repeat (first | refine blk_drewN ?_ _ | refine blk_drew ?_ | refine blk_alloc ?_ _)); exact BK138.out⟩, ⟨by repeat (first | (with_reducible first | exact HB.out | apply below_alloc | apply pw_below_drewN | apply below_drew1 | refine below_set ?_ GE138.out) | exact HB.out)⟩⟩
                                    · rw [if_neg c182] at H
                                      exact absurd H (by simp)
                                  · rw [if_neg c180] at H
                                    have c180b0 : decide (x21_5 < (x5_4.length : Int)) = false := decide_eq_false c180
                                    clear c180
                                    by_cases c194 : 0 < (x5_4.length : Int)
                                    · rw [if_pos c194] at H
                                      have c194b0 : decide (0 < (x5_4.length : Int)) = true := decide_eq_true c194
                                      have c194b1 : decide (0 < x5_4.length) = true := decide_eq_true (by omega)
                                      clear c194
                                      obtain rfl := Option.some.inj H
                                      obtain ⟨Ao195, co195, eo195⟩ := Kd.R_slice HO_5.out
                                      subst eo195
                                      have p169 : 0 ≤ (0 : Int) := (by omega)
                                      have q169 : 0 < (x5_4.length : Int) := of_decide_eq_true (by first | (with_reducible assumption) | assumption)
                                      obtain ⟨ad169, e169, hx169_0⟩ := Kd.at_int (Kd.R_reads' HO_5.out).2.2 0 p169 q169
                                      cases e169
                                      have qi169 : (0 < x5_4.length) = True := eq_true (by omega)
                                      (try rw [show ((0 : Int)).toNat = 0 from rfl] at hx169_0)
                                      (try rw [Addr.add_zero'] at hx169_0)
                                      replace p169 := eq_true p169
                                      replace q169 := eq_true q169
                                      go_wp2
                                      go_ret
                                      exact ⟨by first | rfl | (simp [errW_none, errW_some] <;> rfl) | (simp [*, errW_none, errW_some] <;> rfl), by repeat (first | (with_reducible first | exact HB.out | apply below_alloc | apply pw_below_drewN | apply below_drew1 | refine below_set ?_ GE138.out) | exact HB.out)⟩
                                    · rw [if_neg c194] at H
                                      exact absurd H (by simp)
          · rw [if_neg c15] at H
            exact absurd H (by simp)
        · rw [if_neg c14] at H
          exact absurd H (by simp)

end Go.Proofs.Ytohngcnjahoghaa.PGeomParts
