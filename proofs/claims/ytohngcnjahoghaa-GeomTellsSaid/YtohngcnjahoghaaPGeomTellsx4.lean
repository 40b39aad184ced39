-- written by the session's program wip/print/patch.py (a turned copy of the print) over contracts that the session proved by hand
import Derived.Test.YtohngcnjahoghaaPGeomTellsx0
import Derived.Test.YtohngcnjahoghaaPGeomTellsx1
import Derived.Test.YtohngcnjahoghaaPGeomTellsx2
import Derived.Test.YtohngcnjahoghaaPGeomTellsx3
namespace Go.Proofs.Ytohngcnjahoghaa.PGeomTells
open Go.Proofs.Ytohngcnjahoghaa.Given
open Go.RowKit Go.Proofs.YtohngcnjahoghaaW.PrintWords Go.Proofs.YtohngcnjahoghaaW.PrintLast Go.Proofs.YtohngcnjahoghaaW.PrintMore
attribute [local go_sem] max2_int min2_int max_two min_two max_three min_three max_four min_four   -- for this text's walks alone
set_option linter.unusedVariables false
set_option linter.unusedSimpArgs false

/-! ### lockgatelaw3_GeomTells: function 5 -/
mutual
def lockgatelaw3_GeomTells.j0 : Nat → Int → Bool → Int → Int → Int → Option (Bool)
  | 0, _, _, _, _, _ => none
  | k + 1, x1, x61, x166000, x166001, x166002 => if x61 = true then (some false) else ((geom_Head.f k x166000 x166001 x166002 x1).bind fun bt183 => ((lockgateref1_Head.f x166000 x166001 x166002 x1).bind fun bt185 => (if bt183.1 = bt185.1 then (lockgatelaw3_GeomTells.j1 k x1 (bt183.2 != bt185.2) x166000 x166001 x166002) else (lockgatelaw3_GeomTells.j1 k x1 true x166000 x166001 x166002))))
def lockgatelaw3_GeomTells.j1 : Nat → Int → Bool → Int → Int → Int → Option (Bool)
  | 0, _, _, _, _, _ => none
  | k + 1, x1, x81, x166000, x166001, x166002 => if x81 = true then (some false) else ((geom_InodeAt.f k x166000 x166001 x166002 x1).bind fun bt187 => ((lockgateref1_InodeAt.f x166000 x166001 x166002 x1).bind fun bt190 => (if bt187.1 = bt190.1 then (if bt187.2.1 = bt190.2.1 then (lockgatelaw3_GeomTells.j2 k x1 (bt187.2.2 != bt190.2.2) x166000 x166001 x166002) else (lockgatelaw3_GeomTells.j2 k x1 true x166000 x166001 x166002)) else (lockgatelaw3_GeomTells.j2 k x1 true x166000 x166001 x166002))))
def lockgatelaw3_GeomTells.j2 : Nat → Int → Bool → Int → Int → Int → Option (Bool)
  | 0, _, _, _, _, _ => none
  | k + 1, x1, x108, x166000, x166001, x166002 => if x108 = true then (some false) else ((geom_Data.f k x166000 x166001 x166002 x1).bind fun bt193 => ((lockgateref1_Data.f x166000 x166001 x166002 x1).bind fun bt195 => (if bt193.1 = bt195.1 then (lockgatelaw3_GeomTells.j3 k x1 (bt193.2 != bt195.2) x166000 x166001 x166002) else (lockgatelaw3_GeomTells.j3 k x1 true x166000 x166001 x166002))))
def lockgatelaw3_GeomTells.j3 : Nat → Int → Bool → Int → Int → Int → Option (Bool)
  | 0, _, _, _, _, _ => none
  | k + 1, x1, x128, x166000, x166001, x166002 => if x128 = true then (some false) else ((geom_DataOf.f k x166000 x166001 x166002 x1).bind fun bt197 => ((lockgateref1_DataOf.f k x166000 x166001 x166002 x1).bind fun bt199 => (if bt197.1 = bt199.1 then (lockgatelaw3_GeomTells.j4 k x1 (bt197.2 != bt199.2) x166000 x166001 x166002) else (lockgatelaw3_GeomTells.j4 k x1 true x166000 x166001 x166002))))
def lockgatelaw3_GeomTells.j4 : Nat → Int → Bool → Int → Int → Int → Option (Bool)
  | 0, _, _, _, _, _ => none
  | k + 1, x1, x148, x166000, x166001, x166002 => if x148 = true then (some false) else ((geom_Group.f x166000 x166001 x166002 x1).bind fun bt201 => ((lockgateref1_Group.f x166000 x166001 x166002 x1).bind fun bt204 => (if bt201.1 = bt204.1 then (if bt201.2.1 = bt204.2.1 then (some (bt201.2.2 == bt204.2.2)) else (some false)) else (some false))))
end
def lockgatelaw3_GeomTells.f (k : Nat) (a0_0 : Int) (a0_1 : Int) (a0_2 : Int) (a1 : Int) : Option (Bool) := (lockgatelaw3_alive.f k).bind fun t166 => ((lockgateref1_Good.f a0_0 a0_1 a0_2).bind fun t167 => ((geom_Check.f a0_0 a0_1 a0_2).bind fun t168 => (if t166 = true then ((lockgatelaw3_num.f t168).bind fun t169 => (if ((t169 == 0) != t167) = true then (lockgatelaw3_GeomTells.j0 k a1 true a0_0 a0_1 a0_2) else (if t167 = true then ((geom_Total.f a0_0 a0_1 a0_2).bind fun t170 => ((lockgateref1_Total.f a0_0 a0_1 a0_2).bind fun t171 => (if t170 = t171 then ((geom_Inodes.f a0_0 a0_1 a0_2).bind fun t172 => ((lockgateref1_Inodes.f a0_0 a0_1 a0_2).bind fun t173 => (if t172 = t173 then ((geom_Blocks.f a0_0 a0_1 a0_2).bind fun t174 => ((lockgateref1_Blocks.f a0_0 a0_1 a0_2).bind fun t175 => (lockgatelaw3_GeomTells.j0 k a1 (t174 != t175) a0_0 a0_1 a0_2))) else (lockgatelaw3_GeomTells.j0 k a1 true a0_0 a0_1 a0_2)))) else (lockgatelaw3_GeomTells.j0 k a1 true a0_0 a0_1 a0_2)))) else ((lockgatelaw3_num.f t168).bind fun t176 => (if t176 = 1 then ((geom_Total.f a0_0 a0_1 a0_2).bind fun t177 => ((lockgateref1_Total.f a0_0 a0_1 a0_2).bind fun t178 => (if t177 = t178 then ((geom_Inodes.f a0_0 a0_1 a0_2).bind fun t179 => ((lockgateref1_Inodes.f a0_0 a0_1 a0_2).bind fun t180 => (if t179 = t180 then ((geom_Blocks.f a0_0 a0_1 a0_2).bind fun t181 => ((lockgateref1_Blocks.f a0_0 a0_1 a0_2).bind fun t182 => (lockgatelaw3_GeomTells.j0 k a1 (t181 != t182) a0_0 a0_1 a0_2))) else (lockgatelaw3_GeomTells.j0 k a1 true a0_0 a0_1 a0_2)))) else (lockgatelaw3_GeomTells.j0 k a1 true a0_0 a0_1 a0_2)))) else (lockgatelaw3_GeomTells.j0 k a1 true a0_0 a0_1 a0_2)))))) else (lockgatelaw3_GeomTells.j0 k a1 true a0_0 a0_1 a0_2))))
theorem lockgatelaw3_GeomTells.mono_l : ∀ k, (∀ y0 y1 y2 y3 y4, LeO (lockgatelaw3_GeomTells.j0 k y0 y1 y2 y3 y4) (lockgatelaw3_GeomTells.j0 (k + 1) y0 y1 y2 y3 y4)) ∧ (∀ y0 y1 y2 y3 y4, LeO (lockgatelaw3_GeomTells.j1 k y0 y1 y2 y3 y4) (lockgatelaw3_GeomTells.j1 (k + 1) y0 y1 y2 y3 y4)) ∧ (∀ y0 y1 y2 y3 y4, LeO (lockgatelaw3_GeomTells.j2 k y0 y1 y2 y3 y4) (lockgatelaw3_GeomTells.j2 (k + 1) y0 y1 y2 y3 y4)) ∧ (∀ y0 y1 y2 y3 y4, LeO (lockgatelaw3_GeomTells.j3 k y0 y1 y2 y3 y4) (lockgatelaw3_GeomTells.j3 (k + 1) y0 y1 y2 y3 y4)) ∧ (∀ y0 y1 y2 y3 y4, LeO (lockgatelaw3_GeomTells.j4 k y0 y1 y2 y3 y4) (lockgatelaw3_GeomTells.j4 (k + 1) y0 y1 y2 y3 y4))
  | 0 => ⟨fun _ _ _ _ _ r h => by simp [lockgatelaw3_GeomTells.j0] at h, fun _ _ _ _ _ r h => by simp [lockgatelaw3_GeomTells.j1] at h, fun _ _ _ _ _ r h => by simp [lockgatelaw3_GeomTells.j2] at h, fun _ _ _ _ _ r h => by simp [lockgatelaw3_GeomTells.j3] at h, fun _ _ _ _ _ r h => by simp [lockgatelaw3_GeomTells.j4] at h⟩
  | k + 1 => by
    obtain ⟨ih0, ih1, ih2, ih3, ih4⟩ := lockgatelaw3_GeomTells.mono_l k
    refine ⟨?_, ?_, ?_, ?_, ?_⟩
    · intro y0 y1 y2 y3 y4
      unfold lockgatelaw3_GeomTells.j0
      repeat' first
      | (with_reducible exact ih0 _ _ _ _ _)
      | (with_reducible exact ih1 _ _ _ _ _)
      | (with_reducible exact ih2 _ _ _ _ _)
      | (with_reducible exact ih3 _ _ _ _ _)
      | (with_reducible exact ih4 _ _ _ _ _)
      | (with_reducible exact geom_Data.mono _ _ _ _ _)
      | (with_reducible exact geom_DataOf.mono _ _ _ _ _)
      | (with_reducible exact geom_Head.mono _ _ _ _ _)
      | (with_reducible exact geom_InodeAt.mono _ _ _ _ _)
      | (with_reducible exact lockgatelaw3_alive.mono _)
      | (with_reducible exact lockgateref1_DataOf.mono _ _ _ _ _)
      | (with_reducible exact LeO.refl _)
      | (with_reducible exact LeO.none _)
      | (with_reducible refine LeO.ite ?_ ?_)
      | (with_reducible refine LeO.bind ?_ (fun _ => ?_))
      | exact ih0 _ _ _ _ _
      | exact ih1 _ _ _ _ _
      | exact ih2 _ _ _ _ _
      | exact ih3 _ _ _ _ _
      | exact ih4 _ _ _ _ _
      | exact geom_Data.mono _ _ _ _ _
      | exact geom_DataOf.mono _ _ _ _ _
      | exact geom_Head.mono _ _ _ _ _
      | exact geom_InodeAt.mono _ _ _ _ _
      | exact lockgatelaw3_alive.mono _
      | exact lockgateref1_DataOf.mono _ _ _ _ _
      | exact LeO.none _
      | refine LeO.ite ?_ ?_
      | refine LeO.bind ?_ (fun _ => ?_)
    · intro y0 y1 y2 y3 y4
      unfold lockgatelaw3_GeomTells.j1
      repeat' first
      | (with_reducible exact ih0 _ _ _ _ _)
      | (with_reducible exact ih1 _ _ _ _ _)
      | (with_reducible exact ih2 _ _ _ _ _)
      | (with_reducible exact ih3 _ _ _ _ _)
      | (with_reducible exact ih4 _ _ _ _ _)
      | (with_reducible exact geom_Data.mono _ _ _ _ _)
      | (with_reducible exact geom_DataOf.mono _ _ _ _ _)
      | (with_reducible exact geom_Head.mono _ _ _ _ _)
      | (with_reducible exact geom_InodeAt.mono _ _ _ _ _)
      | (with_reducible exact lockgatelaw3_alive.mono _)
      | (with_reducible exact lockgateref1_DataOf.mono _ _ _ _ _)
      | (with_reducible exact LeO.refl _)
      | (with_reducible exact LeO.none _)
      | (with_reducible refine LeO.ite ?_ ?_)
      | (with_reducible refine LeO.bind ?_ (fun _ => ?_))
      | exact ih0 _ _ _ _ _
      | exact ih1 _ _ _ _ _
      | exact ih2 _ _ _ _ _
      | exact ih3 _ _ _ _ _
      | exact ih4 _ _ _ _ _
      | exact geom_Data.mono _ _ _ _ _
      | exact geom_DataOf.mono _ _ _ _ _
      | exact geom_Head.mono _ _ _ _ _
      | exact geom_InodeAt.mono _ _ _ _ _
      | exact lockgatelaw3_alive.mono _
      | exact lockgateref1_DataOf.mono _ _ _ _ _
      | exact LeO.none _
      | refine LeO.ite ?_ ?_
      | refine LeO.bind ?_ (fun _ => ?_)
    · intro y0 y1 y2 y3 y4
      unfold lockgatelaw3_GeomTells.j2
      repeat' first
      | (with_reducible exact ih0 _ _ _ _ _)
      | (with_reducible exact ih1 _ _ _ _ _)
      | (with_reducible exact ih2 _ _ _ _ _)
      | (with_reducible exact ih3 _ _ _ _ _)
      | (with_reducible exact ih4 _ _ _ _ _)
      | (with_reducible exact geom_Data.mono _ _ _ _ _)
      | (with_reducible exact geom_DataOf.mono _ _ _ _ _)
      | (with_reducible exact geom_Head.mono _ _ _ _ _)
      | (with_reducible exact geom_InodeAt.mono _ _ _ _ _)
      | (with_reducible exact lockgatelaw3_alive.mono _)
      | (with_reducible exact lockgateref1_DataOf.mono _ _ _ _ _)
      | (with_reducible exact LeO.refl _)
      | (with_reducible exact LeO.none _)
      | (with_reducible refine LeO.ite ?_ ?_)
      | (with_reducible refine LeO.bind ?_ (fun _ => ?_))
      | exact ih0 _ _ _ _ _
      | exact ih1 _ _ _ _ _
      | exact ih2 _ _ _ _ _
      | exact ih3 _ _ _ _ _
      | exact ih4 _ _ _ _ _
      | exact geom_Data.mono _ _ _ _ _
      | exact geom_DataOf.mono _ _ _ _ _
      | exact geom_Head.mono _ _ _ _ _
      | exact geom_InodeAt.mono _ _ _ _ _
      | exact lockgatelaw3_alive.mono _
      | exact lockgateref1_DataOf.mono _ _ _ _ _
      | exact LeO.none _
      | refine LeO.ite ?_ ?_
      | refine LeO.bind ?_ (fun _ => ?_)
    · intro y0 y1 y2 y3 y4
      unfold lockgatelaw3_GeomTells.j3
      repeat' first
      | (with_reducible exact ih0 _ _ _ _ _)
      | (with_reducible exact ih1 _ _ _ _ _)
      | (with_reducible exact ih2 _ _ _ _ _)
      | (with_reducible exact ih3 _ _ _ _ _)
      | (with_reducible exact ih4 _ _ _ _ _)
      | (with_reducible exact geom_Data.mono _ _ _ _ _)
      | (with_reducible exact geom_DataOf.mono _ _ _ _ _)
      | (with_reducible exact geom_Head.mono _ _ _ _ _)
      | (with_reducible exact geom_InodeAt.mono _ _ _ _ _)
      | (with_reducible exact lockgatelaw3_alive.mono _)
      | (with_reducible exact lockgateref1_DataOf.mono _ _ _ _ _)
      | (with_reducible exact LeO.refl _)
      | (with_reducible exact LeO.none _)
      | (with_reducible refine LeO.ite ?_ ?_)
      | (with_reducible refine LeO.bind ?_ (fun _ => ?_))
      | exact ih0 _ _ _ _ _
      | exact ih1 _ _ _ _ _
      | exact ih2 _ _ _ _ _
      | exact ih3 _ _ _ _ _
      | exact ih4 _ _ _ _ _
      | exact geom_Data.mono _ _ _ _ _
      | exact geom_DataOf.mono _ _ _ _ _
      | exact geom_Head.mono _ _ _ _ _
      | exact geom_InodeAt.mono _ _ _ _ _
      | exact lockgatelaw3_alive.mono _
      | exact lockgateref1_DataOf.mono _ _ _ _ _
      | exact LeO.none _
      | refine LeO.ite ?_ ?_
      | refine LeO.bind ?_ (fun _ => ?_)
    · intro y0 y1 y2 y3 y4
      unfold lockgatelaw3_GeomTells.j4
      repeat' first
      | (with_reducible exact ih0 _ _ _ _ _)
      | (with_reducible exact ih1 _ _ _ _ _)
      | (with_reducible exact ih2 _ _ _ _ _)
      | (with_reducible exact ih3 _ _ _ _ _)
      | (with_reducible exact ih4 _ _ _ _ _)
      | (with_reducible exact geom_Data.mono _ _ _ _ _)
      | (with_reducible exact geom_DataOf.mono _ _ _ _ _)
      | (with_reducible exact geom_Head.mono _ _ _ _ _)
      | (with_reducible exact geom_InodeAt.mono _ _ _ _ _)
      | (with_reducible exact lockgatelaw3_alive.mono _)
      | (with_reducible exact lockgateref1_DataOf.mono _ _ _ _ _)
      | (with_reducible exact LeO.refl _)
      | (with_reducible exact LeO.none _)
      | (with_reducible refine LeO.ite ?_ ?_)
      | (with_reducible refine LeO.bind ?_ (fun _ => ?_))
      | exact ih0 _ _ _ _ _
      | exact ih1 _ _ _ _ _
      | exact ih2 _ _ _ _ _
      | exact ih3 _ _ _ _ _
      | exact ih4 _ _ _ _ _
      | exact geom_Data.mono _ _ _ _ _
      | exact geom_DataOf.mono _ _ _ _ _
      | exact geom_Head.mono _ _ _ _ _
      | exact geom_InodeAt.mono _ _ _ _ _
      | exact lockgatelaw3_alive.mono _
      | exact lockgateref1_DataOf.mono _ _ _ _ _
      | exact LeO.none _
      | refine LeO.ite ?_ ?_
      | refine LeO.bind ?_ (fun _ => ?_)
theorem lockgatelaw3_GeomTells.mono : ∀ a0 a1 a2 a3 k, LeO (lockgatelaw3_GeomTells.f k a0 a1 a2 a3) (lockgatelaw3_GeomTells.f (k + 1) a0 a1 a2 a3) := by
  intro a0 a1 a2 a3 k
  obtain ⟨ih0, ih1, ih2, ih3, ih4⟩ := lockgatelaw3_GeomTells.mono_l k
  unfold lockgatelaw3_GeomTells.f
  repeat' first
      | (with_reducible exact ih0 _ _ _ _ _)
      | (with_reducible exact ih1 _ _ _ _ _)
      | (with_reducible exact ih2 _ _ _ _ _)
      | (with_reducible exact ih3 _ _ _ _ _)
      | (with_reducible exact ih4 _ _ _ _ _)
      | (with_reducible exact geom_Data.mono _ _ _ _ _)
      | (with_reducible exact geom_DataOf.mono _ _ _ _ _)
      | (with_reducible exact geom_Head.mono _ _ _ _ _)
      | (with_reducible exact geom_InodeAt.mono _ _ _ _ _)
      | (with_reducible exact lockgatelaw3_alive.mono _)
      | (with_reducible exact lockgateref1_DataOf.mono _ _ _ _ _)
      | (with_reducible exact LeO.refl _)
      | (with_reducible exact LeO.none _)
      | (with_reducible refine LeO.ite ?_ ?_)
      | (with_reducible refine LeO.bind ?_ (fun _ => ?_))
      | exact ih0 _ _ _ _ _
      | exact ih1 _ _ _ _ _
      | exact ih2 _ _ _ _ _
      | exact ih3 _ _ _ _ _
      | exact ih4 _ _ _ _ _
      | exact geom_Data.mono _ _ _ _ _
      | exact geom_DataOf.mono _ _ _ _ _
      | exact geom_Head.mono _ _ _ _ _
      | exact geom_InodeAt.mono _ _ _ _ _
      | exact lockgatelaw3_alive.mono _
      | exact lockgateref1_DataOf.mono _ _ _ _ _
      | exact LeO.none _
      | refine LeO.ite ?_ ?_
      | refine LeO.bind ?_ (fun _ => ?_)
def lockgatelaw3_GeomTells.T4 : Bool × List (List Nat × List Nat) := (true, [([], []), ([0], [0]), ([1], [1]), ([2], [2]), ([3, 2, 2], [2, 3]), ([4, 2], [2, 4]), ([2], [2]), ([5, 6, 2], [2, 5, 6]), ([2, 7], [2, 7]), ([8, 4], [8]), ([9], [9]), ([10, 9], [9, 10]), ([11, 9, 9], [9, 11]), ([12], [12]), ([13, 12, 12], [12, 13]), ([14, 12], [12, 14]), ([12, 15, 9], [9, 12, 15]), ([9, 16], [9, 16]), ([17, 14], [17]), ([18], [18]), ([19, 18, 18], [18, 19]), ([18], [18]), ([21, 20, 18], [18, 21]), ([20, 22, 18], [18, 20, 22]), ([18, 23], [18, 23]), ([24, 22], [24]), ([25], [25]), ([26, 25, 25], [25, 26]), ([25], [25]), ([28, 27, 25], [25, 28]), ([27, 29, 25], [25, 27, 29]), ([25, 30], [25, 30]), ([31, 29], [31]), ([32], [32]), ([33, 32, 32], [32, 33]), ([32], [32]), ([35, 34, 32], [32, 35]), ([34, 36, 32], [32, 34, 36]), ([32, 37], [32, 37])])
def lockgatelaw3_GeomTells.B4 : List Nat := [0, 1, 3, 7, 15, 31, 7, 127, 255, 511, 1023, 2047, 4095, 8191, 16383, 32767, 65535, 131071, 262143, 524287, 1048575, 524287, 4194303, 8388607, 16777215, 33554431, 67108863, 134217727, 67108863, 536870911, 1073741823, 2147483647, 4294967295, 8589934591, 17179869183, 8589934591, 68719476735, 137438953471, 274877906943]
theorem lockgatelaw3_GeomTells.tab4 : rtab .any (opsOf Try.f5 4) = lockgatelaw3_GeomTells.T4 := by kernel_rfl
theorem lockgatelaw3_GeomTells.bits4 : waitsOk lockgatelaw3_GeomTells.T4.2 lockgatelaw3_GeomTells.B4 = true := by kernel_rfl
theorem pruned {k : Nat} {x1 a b c : Int} {r : Bool} (hT : r = true) (H : lockgatelaw3_GeomTells.j0 k x1 true a b c = some r) : False := by
  cases k with
  | zero => simp [lockgatelaw3_GeomTells.j0] at H
  | succ k => simp [lockgatelaw3_GeomTells.j0, hT] at H
set_option maxHeartbeats 8000000 in
set_option maxRecDepth 100000 in
theorem lockgatelaw3_GeomTells.calls (k : Nat) (a0_0 : Int) (a0_1 : Int) (a0_2 : Int) (a1 : Int) (r : Bool) (w : World) (h : lockgatelaw3_GeomTells.f k a0_0 a0_1 a0_2 a1 = some r) (hT : r = true := by rfl) :
    Calls Try.prog 5 #[.agg #[.int .i64 a0_0, .int .i64 a0_1, .int .i64 a0_2], .int .i64 a1] w fun e w' => e = .returned (.bool r) ∧ Below w.heap.size w w' := by
  replace hT := Aside0.mk hT
  have hu24 := Try.underlying24
  have HB := Aside0.mk (Below.refl w.heap.size w)
  have H : ((lockgatelaw3_alive.f k).bind fun t166 => ((lockgateref1_Good.f a0_0 a0_1 a0_2).bind fun t167 => ((geom_Check.f a0_0 a0_1 a0_2).bind fun t168 => (if t166 = true then ((lockgatelaw3_num.f t168).bind fun t169 => (if ((t169 == 0) != t167) = true then (lockgatelaw3_GeomTells.j0 k a1 true a0_0 a0_1 a0_2) else (if t167 = true then ((geom_Total.f a0_0 a0_1 a0_2).bind fun t170 => ((lockgateref1_Total.f a0_0 a0_1 a0_2).bind fun t171 => (if t170 = t171 then ((geom_Inodes.f a0_0 a0_1 a0_2).bind fun t172 => ((lockgateref1_Inodes.f a0_0 a0_1 a0_2).bind fun t173 => (if t172 = t173 then ((geom_Blocks.f a0_0 a0_1 a0_2).bind fun t174 => ((lockgateref1_Blocks.f a0_0 a0_1 a0_2).bind fun t175 => (lockgatelaw3_GeomTells.j0 k a1 (t174 != t175) a0_0 a0_1 a0_2))) else (lockgatelaw3_GeomTells.j0 k a1 true a0_0 a0_1 a0_2)))) else (lockgatelaw3_GeomTells.j0 k a1 true a0_0 a0_1 a0_2)))) else ((lockgatelaw3_num.f t168).bind fun t176 => (if t176 = 1 then ((geom_Total.f a0_0 a0_1 a0_2).bind fun t177 => ((lockgateref1_Total.f a0_0 a0_1 a0_2).bind fun t178 => (if t177 = t178 then ((geom_Inodes.f a0_0 a0_1 a0_2).bind fun t179 => ((lockgateref1_Inodes.f a0_0 a0_1 a0_2).bind fun t180 => (if t179 = t180 then ((geom_Blocks.f a0_0 a0_1 a0_2).bind fun t181 => ((lockgateref1_Blocks.f a0_0 a0_1 a0_2).bind fun t182 => (lockgatelaw3_GeomTells.j0 k a1 (t181 != t182) a0_0 a0_1 a0_2))) else (lockgatelaw3_GeomTells.j0 k a1 true a0_0 a0_1 a0_2)))) else (lockgatelaw3_GeomTells.j0 k a1 true a0_0 a0_1 a0_2)))) else (lockgatelaw3_GeomTells.j0 k a1 true a0_0 a0_1 a0_2)))))) else (lockgatelaw3_GeomTells.j0 k a1 true a0_0 a0_1 a0_2))))) = some r := h
  clear h
  replace H := Option.bind_eq_some_iff.mp H
  obtain ⟨t166, A30, H⟩ := H
  replace H : ((lockgateref1_Good.f a0_0 a0_1 a0_2).bind fun t167 => ((geom_Check.f a0_0 a0_1 a0_2).bind fun t168 => (if t166 = true then ((lockgatelaw3_num.f t168).bind fun t169 => (if ((t169 == 0) != t167) = true then (lockgatelaw3_GeomTells.j0 k a1 true a0_0 a0_1 a0_2) else (if t167 = true then ((geom_Total.f a0_0 a0_1 a0_2).bind fun t170 => ((lockgateref1_Total.f a0_0 a0_1 a0_2).bind fun t171 => (if t170 = t171 then ((geom_Inodes.f a0_0 a0_1 a0_2).bind fun t172 => ((lockgateref1_Inodes.f a0_0 a0_1 a0_2).bind fun t173 => (if t172 = t173 then ((geom_Blocks.f a0_0 a0_1 a0_2).bind fun t174 => ((lockgateref1_Blocks.f a0_0 a0_1 a0_2).bind fun t175 => (lockgatelaw3_GeomTells.j0 k a1 (t174 != t175) a0_0 a0_1 a0_2))) else (lockgatelaw3_GeomTells.j0 k a1 true a0_0 a0_1 a0_2)))) else (lockgatelaw3_GeomTells.j0 k a1 true a0_0 a0_1 a0_2)))) else ((lockgatelaw3_num.f t168).bind fun t176 => (if t176 = 1 then ((geom_Total.f a0_0 a0_1 a0_2).bind fun t177 => ((lockgateref1_Total.f a0_0 a0_1 a0_2).bind fun t178 => (if t177 = t178 then ((geom_Inodes.f a0_0 a0_1 a0_2).bind fun t179 => ((lockgateref1_Inodes.f a0_0 a0_1 a0_2).bind fun t180 => (if t179 = t180 then ((geom_Blocks.f a0_0 a0_1 a0_2).bind fun t181 => ((lockgateref1_Blocks.f a0_0 a0_1 a0_2).bind fun t182 => (lockgatelaw3_GeomTells.j0 k a1 (t181 != t182) a0_0 a0_1 a0_2))) else (lockgatelaw3_GeomTells.j0 k a1 true a0_0 a0_1 a0_2)))) else (lockgatelaw3_GeomTells.j0 k a1 true a0_0 a0_1 a0_2)))) else (lockgatelaw3_GeomTells.j0 k a1 true a0_0 a0_1 a0_2)))))) else (lockgatelaw3_GeomTells.j0 k a1 true a0_0 a0_1 a0_2)))) = some r := H
  have A3 := Aside0.mk A30
  clear A30
  replace H := Option.bind_eq_some_iff.mp H
  obtain ⟨t167, A40, H⟩ := H
  replace H : ((geom_Check.f a0_0 a0_1 a0_2).bind fun t168 => (if t166 = true then ((lockgatelaw3_num.f t168).bind fun t169 => (if ((t169 == 0) != t167) = true then (lockgatelaw3_GeomTells.j0 k a1 true a0_0 a0_1 a0_2) else (if t167 = true then ((geom_Total.f a0_0 a0_1 a0_2).bind fun t170 => ((lockgateref1_Total.f a0_0 a0_1 a0_2).bind fun t171 => (if t170 = t171 then ((geom_Inodes.f a0_0 a0_1 a0_2).bind fun t172 => ((lockgateref1_Inodes.f a0_0 a0_1 a0_2).bind fun t173 => (if t172 = t173 then ((geom_Blocks.f a0_0 a0_1 a0_2).bind fun t174 => ((lockgateref1_Blocks.f a0_0 a0_1 a0_2).bind fun t175 => (lockgatelaw3_GeomTells.j0 k a1 (t174 != t175) a0_0 a0_1 a0_2))) else (lockgatelaw3_GeomTells.j0 k a1 true a0_0 a0_1 a0_2)))) else (lockgatelaw3_GeomTells.j0 k a1 true a0_0 a0_1 a0_2)))) else ((lockgatelaw3_num.f t168).bind fun t176 => (if t176 = 1 then ((geom_Total.f a0_0 a0_1 a0_2).bind fun t177 => ((lockgateref1_Total.f a0_0 a0_1 a0_2).bind fun t178 => (if t177 = t178 then ((geom_Inodes.f a0_0 a0_1 a0_2).bind fun t179 => ((lockgateref1_Inodes.f a0_0 a0_1 a0_2).bind fun t180 => (if t179 = t180 then ((geom_Blocks.f a0_0 a0_1 a0_2).bind fun t181 => ((lockgateref1_Blocks.f a0_0 a0_1 a0_2).bind fun t182 => (lockgatelaw3_GeomTells.j0 k a1 (t181 != t182) a0_0 a0_1 a0_2))) else (lockgatelaw3_GeomTells.j0 k a1 true a0_0 a0_1 a0_2)))) else (lockgatelaw3_GeomTells.j0 k a1 true a0_0 a0_1 a0_2)))) else (lockgatelaw3_GeomTells.j0 k a1 true a0_0 a0_1 a0_2)))))) else (lockgatelaw3_GeomTells.j0 k a1 true a0_0 a0_1 a0_2))) = some r := H
  have A4 := Aside0.mk A40
  clear A40
  replace H := Option.bind_eq_some_iff.mp H
  obtain ⟨t168, A50, H⟩ := H
  replace H : (if t166 = true then ((lockgatelaw3_num.f t168).bind fun t169 => (if ((t169 == 0) != t167) = true then (lockgatelaw3_GeomTells.j0 k a1 true a0_0 a0_1 a0_2) else (if t167 = true then ((geom_Total.f a0_0 a0_1 a0_2).bind fun t170 => ((lockgateref1_Total.f a0_0 a0_1 a0_2).bind fun t171 => (if t170 = t171 then ((geom_Inodes.f a0_0 a0_1 a0_2).bind fun t172 => ((lockgateref1_Inodes.f a0_0 a0_1 a0_2).bind fun t173 => (if t172 = t173 then ((geom_Blocks.f a0_0 a0_1 a0_2).bind fun t174 => ((lockgateref1_Blocks.f a0_0 a0_1 a0_2).bind fun t175 => (lockgatelaw3_GeomTells.j0 k a1 (t174 != t175) a0_0 a0_1 a0_2))) else (lockgatelaw3_GeomTells.j0 k a1 true a0_0 a0_1 a0_2)))) else (lockgatelaw3_GeomTells.j0 k a1 true a0_0 a0_1 a0_2)))) else ((lockgatelaw3_num.f t168).bind fun t176 => (if t176 = 1 then ((geom_Total.f a0_0 a0_1 a0_2).bind fun t177 => ((lockgateref1_Total.f a0_0 a0_1 a0_2).bind fun t178 => (if t177 = t178 then ((geom_Inodes.f a0_0 a0_1 a0_2).bind fun t179 => ((lockgateref1_Inodes.f a0_0 a0_1 a0_2).bind fun t180 => (if t179 = t180 then ((geom_Blocks.f a0_0 a0_1 a0_2).bind fun t181 => ((lockgateref1_Blocks.f a0_0 a0_1 a0_2).bind fun t182 => (lockgatelaw3_GeomTells.j0 k a1 (t181 != t182) a0_0 a0_1 a0_2))) else (lockgatelaw3_GeomTells.j0 k a1 true a0_0 a0_1 a0_2)))) else (lockgatelaw3_GeomTells.j0 k a1 true a0_0 a0_1 a0_2)))) else (lockgatelaw3_GeomTells.j0 k a1 true a0_0 a0_1 a0_2)))))) else (lockgatelaw3_GeomTells.j0 k a1 true a0_0 a0_1 a0_2)) = some r := H
  have A5 := Aside0.mk A50
  clear A50
  have HC6 := Aside0.mk H
  clear H
  go_enter Try.func5, Try.ntmps5
  go_upto_region 4 with (first | ((with_reducible refine gate_dst (N := 2) rfl ?_); refine box_event ?hg (N := 2) ?hd (cs := #[.int .i64 a0_0, .int .i64 a0_1, .int .i64 a0_2]) (t := 24) ?hr ?_; (case hd => rfl); (case hg => rfl); (case hr => first | (go_simp; done) | (go_simp; rfl)); intro gb165 hg w7 hbox hb; have n0_ := Aside0.mk (below_step (by repeat (first | (with_reducible first | exact HB.out | apply below_alloc | apply pw_below_drewN | apply below_drew1) | exact HB.out)) hb); have n1_ := Aside0.mk (hbox); have n2_ := Aside0.mk ((by rw [hg]; exact (below_size (by repeat (first | (with_reducible first | exact HB.out | apply below_alloc | apply pw_below_drewN | apply below_drew1) | exact HB.out))) : w.heap.size ≤ gb165)); have n3_ := Aside0.mk ((by rw [hg]; exact (below_size (by repeat (first | (with_reducible first | exact HB.out | apply below_alloc | apply pw_below_drewN | apply below_drew1) | exact HB.out))) : w.heap.size ≤ gb165)); clear HB; have HB := n0_; have BK165 := n1_; have GW165 := n2_; have GE165 := n3_; clear n0_ n1_ n2_ n3_; clear hb hbox hg) | ((with_reducible refine gate_callee (f := 9) rfl ?_); refine goesL_ (some 18) rfl rfl Try.func9 (by kernel_rfl) rfl #[] rfl (by (try simp only [List.map_toArray, List.map_cons, List.map_nil]); first | done | rfl | (simp only [List.length_drop, List.length_take]; rfl)) ?_; (with_reducible refine (lockgatelaw3_alive.calls k  t166 _ A3.out).mono ?_); rintro e w8 ⟨rfl, hb⟩; refine ⟨_, rfl, ?_⟩; have n0_ := Aside0.mk (blk_below (g := gb165) (o := .cells #[.int .i64 a0_0, .int .i64 a0_1, .int .i64 a0_2] 24 (0, 0)) (by (with_reducible repeat (first | refine blk_drewN ?_ _ | refine blk_drew ?_ | refine blk_alloc ?_ _)); exact BK165.out) hb); have n1_ := Aside0.mk (below_step (by repeat (first | (with_reducible first | exact HB.out | apply below_alloc | apply pw_below_drewN | apply below_drew1 | refine below_set ?_ GE165.out) | exact HB.out)) hb); clear BK165; clear HB; have BK165 := n0_; have HB := n1_; clear n0_ n1_; (try clear hb); (try clear hb2); (try clear hk); (try clear hi); have hcz9_0 : w8.cell? ⟨gb165, 0, none⟩ = some (.int .i64 a0_0) := (blk_cell BK165.out 0).trans rfl; have hcz9_1 : w8.cell? ⟨gb165, 1, none⟩ = some (.int .i64 a0_1) := (blk_cell BK165.out 1).trans rfl; have hcz9_2 : w8.cell? ⟨gb165, 2, none⟩ = some (.int .i64 a0_2) := (blk_cell BK165.out 2).trans rfl; have hfz9_0 := blk_frozen BK165.out 0; have hfz9_1 := blk_frozen BK165.out 1; have hfz9_2 := blk_frozen BK165.out 2) | ((with_reducible refine gate_callee (f := 18) rfl ?_); refine goesL_ (some 20) rfl rfl Try.func18 (by kernel_rfl) rfl #[.agg #[.int .i64 a0_0, .int .i64 a0_1, .int .i64 a0_2]] rfl (by (try simp only [List.map_toArray, List.map_cons, List.map_nil]); first | done | rfl | (simp only [List.length_drop, List.length_take]; rfl)) ?_; (with_reducible refine (lockgateref1_Good.calls a0_0 a0_1 a0_2 t167 _ A4.out).mono ?_); rintro e w10 ⟨rfl, hb⟩; refine ⟨_, rfl, ?_⟩; have n0_ := Aside0.mk (blk_below (g := gb165) (o := .cells #[.int .i64 a0_0, .int .i64 a0_1, .int .i64 a0_2] 24 (0, 0)) (by (with_reducible repeat (first | refine blk_drewN ?_ _ | refine blk_drew ?_ | refine blk_alloc ?_ _)); exact BK165.out) hb); have n1_ := Aside0.mk (below_step (by repeat (first | (with_reducible first | exact HB.out | apply below_alloc | apply pw_below_drewN | apply below_drew1 | refine below_set ?_ GE165.out) | exact HB.out)) hb); clear BK165; clear HB; have BK165 := n0_; have HB := n1_; clear n0_ n1_; (try clear hb); (try clear hb2); (try clear hk); (try clear hi); have hcz11_0 : w10.cell? ⟨gb165, 0, none⟩ = some (.int .i64 a0_0) := (blk_cell BK165.out 0).trans rfl; have hcz11_1 : w10.cell? ⟨gb165, 1, none⟩ = some (.int .i64 a0_1) := (blk_cell BK165.out 1).trans rfl; have hcz11_2 : w10.cell? ⟨gb165, 2, none⟩ = some (.int .i64 a0_2) := (blk_cell BK165.out 2).trans rfl; have hfz11_0 := blk_frozen BK165.out 0; have hfz11_1 := blk_frozen BK165.out 1; have hfz11_2 := blk_frozen BK165.out 2) | ((with_reducible refine gate_callee (f := 11) rfl ?_); refine goesL_ (some 22) rfl rfl Try.func11 (by kernel_rfl) rfl #[.agg #[.int .i64 a0_0, .int .i64 a0_1, .int .i64 a0_2]] rfl (by (try simp only [List.map_toArray, List.map_cons, List.map_nil]); first | done | rfl | (simp only [List.length_drop, List.length_take]; rfl)) ?_; (with_reducible refine (geom_Check.calls a0_0 a0_1 a0_2 t168 _ A5.out).mono ?_); rintro e w12 ⟨rfl, hb⟩; refine ⟨_, rfl, ?_⟩; have n0_ := Aside0.mk (blk_below (g := gb165) (o := .cells #[.int .i64 a0_0, .int .i64 a0_1, .int .i64 a0_2] 24 (0, 0)) (by (with_reducible repeat (first | refine blk_drewN ?_ _ | refine blk_drew ?_ | refine blk_alloc ?_ _)); exact BK165.out) hb); have n1_ := Aside0.mk (below_step (by repeat (first | (with_reducible first | exact HB.out | apply below_alloc | apply pw_below_drewN | apply below_drew1 | refine below_set ?_ GE165.out) | exact HB.out)) hb); clear BK165; clear HB; have BK165 := n0_; have HB := n1_; clear n0_ n1_; (try clear hb); (try clear hb2); (try clear hk); (try clear hi)))
  (try simp only [Act.put, List.setIfInBounds_toArray, List.set_cons_zero, List.set_cons_succ])
  go_cut [61] (fun v61 wc => ∃ (kq : Nat) (x61_5 : Bool), v61 = .bool x61_5 ∧ Aside0 (lockgatelaw3_GeomTells.j0 kq a1 x61_5 a0_0 a0_1 a0_2 = some r) ∧ Aside0 (kq ≤ k) ∧ Aside0 (wc.heap[gb165]? = some (.cells #[.int .i64 a0_0, .int .i64 a0_1, .int .i64 a0_2] 24 (0, 0))) ∧ Aside0 (Below w.heap.size w wc))
  case first =>
    have H := HC6.out
    clear HC6
    by_cases c13 : t166 = true
    · subst c13
      have H1 : ((lockgatelaw3_num.f t168).bind fun t169 => (if ((t169 == 0) != t167) = true then (lockgatelaw3_GeomTells.j0 k a1 true a0_0 a0_1 a0_2) else (if t167 = true then ((geom_Total.f a0_0 a0_1 a0_2).bind fun t170 => ((lockgateref1_Total.f a0_0 a0_1 a0_2).bind fun t171 => (if t170 = t171 then ((geom_Inodes.f a0_0 a0_1 a0_2).bind fun t172 => ((lockgateref1_Inodes.f a0_0 a0_1 a0_2).bind fun t173 => (if t172 = t173 then ((geom_Blocks.f a0_0 a0_1 a0_2).bind fun t174 => ((lockgateref1_Blocks.f a0_0 a0_1 a0_2).bind fun t175 => (lockgatelaw3_GeomTells.j0 k a1 (t174 != t175) a0_0 a0_1 a0_2))) else (lockgatelaw3_GeomTells.j0 k a1 true a0_0 a0_1 a0_2)))) else (lockgatelaw3_GeomTells.j0 k a1 true a0_0 a0_1 a0_2)))) else ((lockgatelaw3_num.f t168).bind fun t176 => (if t176 = 1 then ((geom_Total.f a0_0 a0_1 a0_2).bind fun t177 => ((lockgateref1_Total.f a0_0 a0_1 a0_2).bind fun t178 => (if t177 = t178 then ((geom_Inodes.f a0_0 a0_1 a0_2).bind fun t179 => ((lockgateref1_Inodes.f a0_0 a0_1 a0_2).bind fun t180 => (if t179 = t180 then ((geom_Blocks.f a0_0 a0_1 a0_2).bind fun t181 => ((lockgateref1_Blocks.f a0_0 a0_1 a0_2).bind fun t182 => (lockgatelaw3_GeomTells.j0 k a1 (t181 != t182) a0_0 a0_1 a0_2))) else (lockgatelaw3_GeomTells.j0 k a1 true a0_0 a0_1 a0_2)))) else (lockgatelaw3_GeomTells.j0 k a1 true a0_0 a0_1 a0_2)))) else (lockgatelaw3_GeomTells.j0 k a1 true a0_0 a0_1 a0_2)))))) = some r := by rw [if_pos rfl] at H; exact H
      clear H
      have H := H1
      clear H1
      replace H := Option.bind_eq_some_iff.mp H
      obtain ⟨t169, A140, H⟩ := H
      replace H : (if ((t169 == 0) != t167) = true then (lockgatelaw3_GeomTells.j0 k a1 true a0_0 a0_1 a0_2) else (if t167 = true then ((geom_Total.f a0_0 a0_1 a0_2).bind fun t170 => ((lockgateref1_Total.f a0_0 a0_1 a0_2).bind fun t171 => (if t170 = t171 then ((geom_Inodes.f a0_0 a0_1 a0_2).bind fun t172 => ((lockgateref1_Inodes.f a0_0 a0_1 a0_2).bind fun t173 => (if t172 = t173 then ((geom_Blocks.f a0_0 a0_1 a0_2).bind fun t174 => ((lockgateref1_Blocks.f a0_0 a0_1 a0_2).bind fun t175 => (lockgatelaw3_GeomTells.j0 k a1 (t174 != t175) a0_0 a0_1 a0_2))) else (lockgatelaw3_GeomTells.j0 k a1 true a0_0 a0_1 a0_2)))) else (lockgatelaw3_GeomTells.j0 k a1 true a0_0 a0_1 a0_2)))) else ((lockgatelaw3_num.f t168).bind fun t176 => (if t176 = 1 then ((geom_Total.f a0_0 a0_1 a0_2).bind fun t177 => ((lockgateref1_Total.f a0_0 a0_1 a0_2).bind fun t178 => (if t177 = t178 then ((geom_Inodes.f a0_0 a0_1 a0_2).bind fun t179 => ((lockgateref1_Inodes.f a0_0 a0_1 a0_2).bind fun t180 => (if t179 = t180 then ((geom_Blocks.f a0_0 a0_1 a0_2).bind fun t181 => ((lockgateref1_Blocks.f a0_0 a0_1 a0_2).bind fun t182 => (lockgatelaw3_GeomTells.j0 k a1 (t181 != t182) a0_0 a0_1 a0_2))) else (lockgatelaw3_GeomTells.j0 k a1 true a0_0 a0_1 a0_2)))) else (lockgatelaw3_GeomTells.j0 k a1 true a0_0 a0_1 a0_2)))) else (lockgatelaw3_GeomTells.j0 k a1 true a0_0 a0_1 a0_2))))) = some r := H
      have A14 := Aside0.mk A140
      clear A140
      by_cases c15 : ((t169 == 0) != t167) = true
      · rw [if_pos c15] at H
        have c15b0 : ((t169 == 0) != t167) = true := c15
        (try (have c15b1 : decide ((t169 == 0) = t167) = false := by simpa using c15))
        (try (have c15b2 : ((t169 == 0) == t167) = false := by simpa using c15))
        (try (have c15b3 : ¬ ((t169 == 0) = t167) := by simpa using c15))
        clear c15
        (first | rw [c15b0] | (simp only [i64_w, i32_w]; rw [c15b0]) | skip)
        exact (pruned hT.out H).elim
      · rw [if_neg c15] at H
        have c15b0 : ((t169 == 0) != t167) = false := by simpa using c15
        (try (have c15b1 : decide ((t169 == 0) = t167) = true := by simpa using c15))
        (try (have c15b2 : ((t169 == 0) == t167) = true := by simpa using c15))
        clear c15
        (first | rw [c15b0] | (simp only [i64_w, i32_w]; rw [c15b0]) | skip)
        by_cases c17 : t167 = true
        · subst c17
          have H1 : ((geom_Total.f a0_0 a0_1 a0_2).bind fun t170 => ((lockgateref1_Total.f a0_0 a0_1 a0_2).bind fun t171 => (if t170 = t171 then ((geom_Inodes.f a0_0 a0_1 a0_2).bind fun t172 => ((lockgateref1_Inodes.f a0_0 a0_1 a0_2).bind fun t173 => (if t172 = t173 then ((geom_Blocks.f a0_0 a0_1 a0_2).bind fun t174 => ((lockgateref1_Blocks.f a0_0 a0_1 a0_2).bind fun t175 => (lockgatelaw3_GeomTells.j0 k a1 (t174 != t175) a0_0 a0_1 a0_2))) else (lockgatelaw3_GeomTells.j0 k a1 true a0_0 a0_1 a0_2)))) else (lockgatelaw3_GeomTells.j0 k a1 true a0_0 a0_1 a0_2)))) = some r := by rw [if_pos rfl] at H; exact H
          clear H
          have H := H1
          clear H1
          replace H := Option.bind_eq_some_iff.mp H
          obtain ⟨t170, A180, H⟩ := H
          replace H : ((lockgateref1_Total.f a0_0 a0_1 a0_2).bind fun t171 => (if t170 = t171 then ((geom_Inodes.f a0_0 a0_1 a0_2).bind fun t172 => ((lockgateref1_Inodes.f a0_0 a0_1 a0_2).bind fun t173 => (if t172 = t173 then ((geom_Blocks.f a0_0 a0_1 a0_2).bind fun t174 => ((lockgateref1_Blocks.f a0_0 a0_1 a0_2).bind fun t175 => (lockgatelaw3_GeomTells.j0 k a1 (t174 != t175) a0_0 a0_1 a0_2))) else (lockgatelaw3_GeomTells.j0 k a1 true a0_0 a0_1 a0_2)))) else (lockgatelaw3_GeomTells.j0 k a1 true a0_0 a0_1 a0_2))) = some r := H
          have A18 := Aside0.mk A180
          clear A180
          replace H := Option.bind_eq_some_iff.mp H
          obtain ⟨t171, A190, H⟩ := H
          replace H : (if t170 = t171 then ((geom_Inodes.f a0_0 a0_1 a0_2).bind fun t172 => ((lockgateref1_Inodes.f a0_0 a0_1 a0_2).bind fun t173 => (if t172 = t173 then ((geom_Blocks.f a0_0 a0_1 a0_2).bind fun t174 => ((lockgateref1_Blocks.f a0_0 a0_1 a0_2).bind fun t175 => (lockgatelaw3_GeomTells.j0 k a1 (t174 != t175) a0_0 a0_1 a0_2))) else (lockgatelaw3_GeomTells.j0 k a1 true a0_0 a0_1 a0_2)))) else (lockgatelaw3_GeomTells.j0 k a1 true a0_0 a0_1 a0_2)) = some r := H
          have A19 := Aside0.mk A190
          clear A190
          by_cases c20 : t170 = t171
          · rw [if_pos c20] at H
            have c20b0 : (t170 == t171) = true := beq_iff_eq.mpr c20
            have c20b1 : (t170 != t171) = false := bne_eq_false_iff_eq.mpr c20
            clear c20
            replace H := Option.bind_eq_some_iff.mp H
            obtain ⟨t172, A210, H⟩ := H
            replace H : ((lockgateref1_Inodes.f a0_0 a0_1 a0_2).bind fun t173 => (if t172 = t173 then ((geom_Blocks.f a0_0 a0_1 a0_2).bind fun t174 => ((lockgateref1_Blocks.f a0_0 a0_1 a0_2).bind fun t175 => (lockgatelaw3_GeomTells.j0 k a1 (t174 != t175) a0_0 a0_1 a0_2))) else (lockgatelaw3_GeomTells.j0 k a1 true a0_0 a0_1 a0_2))) = some r := H
            have A21 := Aside0.mk A210
            clear A210
            replace H := Option.bind_eq_some_iff.mp H
            obtain ⟨t173, A220, H⟩ := H
            replace H : (if t172 = t173 then ((geom_Blocks.f a0_0 a0_1 a0_2).bind fun t174 => ((lockgateref1_Blocks.f a0_0 a0_1 a0_2).bind fun t175 => (lockgatelaw3_GeomTells.j0 k a1 (t174 != t175) a0_0 a0_1 a0_2))) else (lockgatelaw3_GeomTells.j0 k a1 true a0_0 a0_1 a0_2)) = some r := H
            have A22 := Aside0.mk A220
            clear A220
            by_cases c23 : t172 = t173
            · rw [if_pos c23] at H
              have c23b0 : (t172 == t173) = true := beq_iff_eq.mpr c23
              have c23b1 : (t172 != t173) = false := bne_eq_false_iff_eq.mpr c23
              clear c23
              replace H := Option.bind_eq_some_iff.mp H
              obtain ⟨t174, A240, H⟩ := H
              replace H : ((lockgateref1_Blocks.f a0_0 a0_1 a0_2).bind fun t175 => (lockgatelaw3_GeomTells.j0 k a1 (t174 != t175) a0_0 a0_1 a0_2)) = some r := H
              have A24 := Aside0.mk A240
              clear A240
              replace H := Option.bind_eq_some_iff.mp H
              obtain ⟨t175, A250, H⟩ := H
              replace H : (lockgatelaw3_GeomTells.j0 k a1 (t174 != t175) a0_0 a0_1 a0_2) = some r := H
              have A25 := Aside0.mk A250
              clear A250
              have H' := Aside0.mk H
              clear H
              try go_wp2
              have n0_ := Aside0.mk (blk_drew BK165.out)
              have n1_ := Aside0.mk (below_drew1 HB.out)
              clear BK165
              clear HB
              have BK165 := n0_
              have HB := n1_
              clear n0_ n1_
              refine start_ (n := 39) (S := fun w' => w'.cell? ⟨gb165, 0, none⟩ = some (.int .i64 a0_0) ∧ w'.cell? ⟨gb165, 1, none⟩ = some (.int .i64 a0_1) ∧ w'.cell? ⟨gb165, 2, none⟩ = some (.int .i64 a0_2)) (ds := []) #[false, false, false, false, false, false, false, false, false, false, false, false, false, false, false, false, false, false, false, false, false, false, false, false, false, false, false, false, false, false, false, false, false, false, false, false, false, false, false] (by kernel_rfl) rfl rfl ⟨(blk_cell BK165.out 0).trans rfl, (blk_cell BK165.out 1).trans rfl, (blk_cell BK165.out 2).trans rfl⟩ (fun hHeld => ?_); refine with_tabW lockgatelaw3_GeomTells.tab4 lockgatelaw3_GeomTells.bits4 (fun HT_ HW_ => ?_)
              generalize w12.drew = w26 at BK165 HB hHeld ⊢
              refine pure_ (i := 0) (N := some 23) (v := ?_) (a' := ?_) #[true, false, false, false, false, false, false, false, false, false, false, false, false, false, false, false, false, false, false, false, false, false, false, false, false, false, false, false, false, false, false, false, false, false, false, false, false, false, false] rfl rfl (any_of HT_.out (by kernel_rfl)) (fun _ _ _ h => h) (Or.inl ⟨by rfl, ?_⟩) ?_ ?_
              rotate_left
              · intro w'
                go_simp
                with_reducible rfl
              rotate_left
              · simp only [Act.put, List.setIfInBounds_toArray, List.set_cons_zero, List.set_cons_succ, i64_w, i32_w]
                rfl
              refine pure_ (i := 1) (N := some 24) (v := ?_) (a' := ?_) #[true, true, false, false, false, false, false, false, false, false, false, false, false, false, false, false, false, false, false, false, false, false, false, false, false, false, false, false, false, false, false, false, false, false, false, false, false, false, false] rfl rfl (any_of HT_.out (by kernel_rfl)) (fun _ _ _ h => h) (Or.inl ⟨by rfl, ?_⟩) ?_ ?_
              rotate_left
              · intro w'
                go_simp
                with_reducible rfl
              rotate_left
              · simp only [Act.put, List.setIfInBounds_toArray, List.set_cons_zero, List.set_cons_succ, i64_w, i32_w]
                rfl
              refine pure_ (i := 2) (N := some 25) (v := ?_) (a' := ?_) #[true, true, true, false, false, false, false, false, false, false, false, false, false, false, false, false, false, false, false, false, false, false, false, false, false, false, false, false, false, false, false, false, false, false, false, false, false, false, false] rfl rfl (any_of HT_.out (by kernel_rfl)) (fun _ _ _ h => h) (Or.inl ⟨by rfl, ?_⟩) ?_ ?_
              rotate_left
              · intro w'
                go_simp
                with_reducible rfl
              rotate_left
              · simp only [Act.put, List.setIfInBounds_toArray, List.set_cons_zero, List.set_cons_succ, i64_w, i32_w]
                rfl
              refine pure_ (i := 3) (N := some 26) (v := ?_) (a' := ?_) #[true, true, true, true, false, false, false, false, false, false, false, false, false, false, false, false, false, false, false, false, false, false, false, false, false, false, false, false, false, false, false, false, false, false, false, false, false, false, false] rfl rfl (any_of HT_.out (by kernel_rfl)) (fun _ _ _ h => h) (Or.inl ⟨by rfl, ?_⟩) ?_ ?_
              rotate_left
              · intro w'
                go_simp
                with_reducible rfl
              rotate_left
              · simp only [Act.put, List.setIfInBounds_toArray, List.set_cons_zero, List.set_cons_succ, i64_w, i32_w]
                rfl
              refine pure_ (i := 6) (N := some 29) (v := ?_) (a' := ?_) #[true, true, true, true, false, false, true, false, false, false, false, false, false, false, false, false, false, false, false, false, false, false, false, false, false, false, false, false, false, false, false, false, false, false, false, false, false, false, false] rfl rfl (any_of HT_.out (by kernel_rfl)) (fun _ _ _ h => h) (Or.inl ⟨by rfl, ?_⟩) ?_ ?_
              rotate_left
              · intro w'
                go_simp
                with_reducible rfl
              rotate_left
              · simp only [Act.put, List.setIfInBounds_toArray, List.set_cons_zero, List.set_cons_succ, i64_w, i32_w]
                rfl
              refine one_ (i := 4) (N := some 27) #[true, true, true, true, true, false, true, false, false, false, false, false, false, false, false, false, false, false, false, false, false, false, false, false, false, false, false, false, false, false, false, false, false, false, false, false, false, false, false] rfl rfl (one_of HT_.out (by kernel_rfl)) (by decide) (fun K hK => ?_)
              refine goes_ Try.func10 (by kernel_rfl) rfl #[.int .i64 t168] (by rfl) rfl rfl (by (try simp only [List.map_toArray, List.map_cons, List.map_nil]); first | done | rfl | (simp only [List.length_drop, List.length_take]; rfl)) ?_
              with_reducible refine (lockgatelaw3_num.calls t168 t169 _ A14.out).mono ?_
              rintro e w' ⟨rfl, ⟨nd, rfl⟩⟩
              refine ⟨_, rfl, ?_⟩
              refine hK.out _ _ ⟨(blk_cell BK165.out 0).trans rfl, (blk_cell BK165.out 1).trans rfl, (blk_cell BK165.out 2).trans rfl⟩ (fun hHeld => ?_)
              clear hK K
              refine norm_ (a' := ?_) ?_ ?_
              rotate_left
              · show Act.put _ (some 27) _ = _
                simp only [Act.put, List.setIfInBounds_toArray, List.set_cons_zero, List.set_cons_succ, i64_w, i32_w]
                rfl
              refine pure_ (i := 5) (N := some 28) (v := ?_) (a' := ?_) #[true, true, true, true, true, true, true, false, false, false, false, false, false, false, false, false, false, false, false, false, false, false, false, false, false, false, false, false, false, false, false, false, false, false, false, false, false, false, false] rfl rfl (any_of HT_.out (by kernel_rfl)) (fun _ _ _ h => h) (Or.inl ⟨by rfl, ?_⟩) ?_ ?_
              rotate_left
              · intro w'
                go_simp
                with_reducible rfl
              rotate_left
              · simp only [Act.put, List.setIfInBounds_toArray, List.set_cons_zero, List.set_cons_succ, i64_w, i32_w]
                rfl
              refine pure_ (i := 7) (N := some 30) (v := ?_) (a' := ?_) #[true, true, true, true, true, true, true, true, false, false, false, false, false, false, false, false, false, false, false, false, false, false, false, false, false, false, false, false, false, false, false, false, false, false, false, false, false, false, false] rfl rfl (any_of HT_.out (by kernel_rfl)) (fun _ _ _ h => h) (Or.inl ⟨by rfl, ?_⟩) ?_ ?_
              rotate_left
              · intro w'
                go_simp
                with_reducible rfl
              rotate_left
              · simp only [Act.put, List.setIfInBounds_toArray, List.set_cons_zero, List.set_cons_succ, i64_w, i32_w]
                rfl
              refine pure_ (i := 8) (N := some 31) (v := ?_) (a' := ?_) #[true, true, true, true, true, true, true, true, true, false, false, false, false, false, false, false, false, false, false, false, false, false, false, false, false, false, false, false, false, false, false, false, false, false, false, false, false, false, false] rfl rfl (any_of HT_.out (by kernel_rfl)) (fun _ _ _ h => h) (Or.inl ⟨by rfl, ?_⟩) ?_ ?_
              rotate_left
              · intro w'
                go_simp
                with_reducible rfl
              rotate_left
              · simp only [Act.put, List.setIfInBounds_toArray, List.set_cons_zero, List.set_cons_succ, i64_w, i32_w]
                rfl
              refine pure_ (i := 9) (N := some 32) (v := ?_) (a' := ?_) #[true, true, true, true, true, true, true, true, true, true, false, false, false, false, false, false, false, false, false, false, false, false, false, false, false, false, false, false, false, false, false, false, false, false, false, false, false, false, false] rfl rfl (any_of HT_.out (by kernel_rfl)) (fun _ _ _ h => h) (Or.inl ⟨by rfl, ?_⟩) ?_ ?_
              rotate_left
              · intro w'
                go_simp
                with_reducible rfl
              rotate_left
              · simp only [Act.put, List.setIfInBounds_toArray, List.set_cons_zero, List.set_cons_succ, i64_w, i32_w]
                rfl
              refine pure_ (i := 10) (N := some 33) (v := ?_) (a' := ?_) #[true, true, true, true, true, true, true, true, true, true, true, false, false, false, false, false, false, false, false, false, false, false, false, false, false, false, false, false, false, false, false, false, false, false, false, false, false, false, false] rfl rfl (any_of HT_.out (by kernel_rfl)) (fun _ _ _ h => h) (Or.inl ⟨by rfl, ?_⟩) ?_ ?_
              rotate_left
              · intro w'
                go_simp
                with_reducible rfl
              rotate_left
              · simp only [Act.put, List.setIfInBounds_toArray, List.set_cons_zero, List.set_cons_succ, i64_w, i32_w]
                rfl
              refine pure_ (i := 11) (N := some 34) (v := ?_) (a' := ?_) #[true, true, true, true, true, true, true, true, true, true, true, true, false, false, false, false, false, false, false, false, false, false, false, false, false, false, false, false, false, false, false, false, false, false, false, false, false, false, false] rfl rfl (any_of HT_.out (by kernel_rfl)) (fun _ _ _ h => h) (Or.inl ⟨by rfl, ?_⟩) ?_ ?_
              rotate_left
              · intro w'
                go_simp
                with_reducible rfl
              rotate_left
              · simp only [Act.put, List.setIfInBounds_toArray, List.set_cons_zero, List.set_cons_succ, i64_w, i32_w]
                rfl
              refine pure_ (i := 12) (N := some 35) (v := ?_) (a' := ?_) #[true, true, true, true, true, true, true, true, true, true, true, true, true, false, false, false, false, false, false, false, false, false, false, false, false, false, false, false, false, false, false, false, false, false, false, false, false, false, false] rfl rfl (any_of HT_.out (by kernel_rfl)) (fun _ _ _ h => h) (Or.inl ⟨by rfl, ?_⟩) ?_ ?_
              rotate_left
              · intro w'
                go_simp
                with_reducible rfl
              rotate_left
              · simp only [Act.put, List.setIfInBounds_toArray, List.set_cons_zero, List.set_cons_succ, i64_w, i32_w]
                rfl
              refine pure_ (i := 13) (N := some 36) (v := undef) (a' := ?_) #[true, true, true, true, true, true, true, true, true, true, true, true, true, true, false, false, false, false, false, false, false, false, false, false, false, false, false, false, false, false, false, false, false, false, false, false, false, false, false] rfl rfl (any_of HT_.out (by kernel_rfl)) (fun _ _ _ h => h) (Or.inr ⟨by rfl, rfl⟩) ?_ ?_
              rotate_left
              · simp only [Act.put, List.setIfInBounds_toArray, List.set_cons_zero, List.set_cons_succ, i64_w, i32_w]
                rfl
              refine pure_ (i := 14) (N := some 37) (v := undef) (a' := ?_) #[true, true, true, true, true, true, true, true, true, true, true, true, true, true, true, false, false, false, false, false, false, false, false, false, false, false, false, false, false, false, false, false, false, false, false, false, false, false, false] rfl rfl (any_of HT_.out (by kernel_rfl)) (fun _ _ _ h => h) (Or.inr ⟨by rfl, rfl⟩) ?_ ?_
              rotate_left
              · simp only [Act.put, List.setIfInBounds_toArray, List.set_cons_zero, List.set_cons_succ, i64_w, i32_w]
                rfl
              refine pure_ (i := 15) (N := some 38) (v := undef) (a' := ?_) #[true, true, true, true, true, true, true, true, true, true, true, true, true, true, true, true, false, false, false, false, false, false, false, false, false, false, false, false, false, false, false, false, false, false, false, false, false, false, false] rfl rfl (any_of HT_.out (by kernel_rfl)) (fun _ _ _ h => h) (Or.inr ⟨by rfl, rfl⟩) ?_ ?_
              rotate_left
              · simp only [Act.put, List.setIfInBounds_toArray, List.set_cons_zero, List.set_cons_succ, i64_w, i32_w]
                rfl
              refine pure_ (i := 16) (N := some 39) (v := ?_) (a' := ?_) #[true, true, true, true, true, true, true, true, true, true, true, true, true, true, true, true, true, false, false, false, false, false, false, false, false, false, false, false, false, false, false, false, false, false, false, false, false, false, false] rfl rfl (any_of HT_.out (by kernel_rfl)) (fun _ _ _ h => h) (Or.inl ⟨by rfl, ?_⟩) ?_ ?_
              rotate_left
              · intro w'
                go_simp
                with_reducible rfl
              rotate_left
              · simp only [Act.put, List.setIfInBounds_toArray, List.set_cons_zero, List.set_cons_succ, i64_w, i32_w]
                rfl
              refine pure_ (i := 17) (N := some 40) (v := ?_) (a' := ?_) #[true, true, true, true, true, true, true, true, true, true, true, true, true, true, true, true, true, true, false, false, false, false, false, false, false, false, false, false, false, false, false, false, false, false, false, false, false, false, false] rfl rfl (any_of HT_.out (by kernel_rfl)) (fun _ _ _ h => h) (Or.inl ⟨by rfl, ?_⟩) ?_ ?_
              rotate_left
              · intro w'
                go_simp
                with_reducible rfl
              rotate_left
              · simp only [Act.put, List.setIfInBounds_toArray, List.set_cons_zero, List.set_cons_succ, i64_w, i32_w]
                rfl
              refine pure_ (i := 18) (N := some 41) (v := ?_) (a' := ?_) #[true, true, true, true, true, true, true, true, true, true, true, true, true, true, true, true, true, true, true, false, false, false, false, false, false, false, false, false, false, false, false, false, false, false, false, false, false, false, false] rfl rfl (any_of HT_.out (by kernel_rfl)) (fun _ _ _ h => h) (Or.inl ⟨by rfl, ?_⟩) ?_ ?_
              rotate_left
              · intro w'
                go_simp
                with_reducible rfl
              rotate_left
              · simp only [Act.put, List.setIfInBounds_toArray, List.set_cons_zero, List.set_cons_succ, i64_w, i32_w]
                rfl
              refine take_ (i := 19) (N := some 42) (v := ?_) (a' := ?_) #[true, true, true, true, true, true, true, true, true, true, true, true, true, true, true, true, true, true, true, true, false, false, false, false, false, false, false, false, false, false, false, false, false, false, false, false, false, false, false] rfl rfl (take_ofW HT_.out HW_.out (by kernel_rfl)) (fun _ _ _ h => h) (Or.inl ⟨by rfl, ?_⟩) hHeld ?_ ?_
              rotate_left
              · rintro w' ⟨s0, s1, s2⟩
                go_simp
                with_reducible rfl
              rotate_left
              · simp only [Act.put, List.setIfInBounds_toArray, List.set_cons_zero, List.set_cons_succ, i64_w, i32_w]
                rfl
              refine take_ (i := 21) (N := some 44) (v := ?_) (a' := ?_) #[true, true, true, true, true, true, true, true, true, true, true, true, true, true, true, true, true, true, true, true, false, true, false, false, false, false, false, false, false, false, false, false, false, false, false, false, false, false, false] rfl rfl (take_ofW HT_.out HW_.out (by kernel_rfl)) (fun _ _ _ h => h) (Or.inl ⟨by rfl, ?_⟩) hHeld ?_ ?_
              rotate_left
              · rintro w' ⟨s0, s1, s2⟩
                go_simp
                with_reducible rfl
              rotate_left
              · simp only [Act.put, List.setIfInBounds_toArray, List.set_cons_zero, List.set_cons_succ, i64_w, i32_w]
                rfl
              refine one_ (i := 20) (N := some 43) #[true, true, true, true, true, true, true, true, true, true, true, true, true, true, true, true, true, true, true, true, true, true, false, false, false, false, false, false, false, false, false, false, false, false, false, false, false, false, false] rfl rfl (one_of HT_.out (by kernel_rfl)) (by decide) (fun K hK => ?_)
              refine goes_ Try.func15 (by kernel_rfl) rfl #[.agg #[.int .i64 a0_0, .int .i64 a0_1, .int .i64 a0_2]] (by rfl) rfl rfl (by (try simp only [List.map_toArray, List.map_cons, List.map_nil]); first | done | rfl | (simp only [List.length_drop, List.length_take]; rfl)) ?_
              with_reducible refine (geom_Total.calls a0_0 a0_1 a0_2 t170 _ A18.out).mono ?_
              rintro e w27 ⟨rfl, hb⟩
              refine ⟨_, rfl, ?_⟩
              have n0_ := Aside0.mk (blk_below (g := gb165) (o := .cells #[.int .i64 a0_0, .int .i64 a0_1, .int .i64 a0_2] 24 (0, 0)) (by (with_reducible repeat (first | refine blk_drewN ?_ _ | refine blk_drew ?_ | refine blk_alloc ?_ _)); exact BK165.out) hb)
              have n1_ := Aside0.mk (below_step (by repeat (first | (with_reducible first | exact HB.out | apply below_alloc | apply pw_below_drewN | apply below_drew1 | refine below_set ?_ GE165.out) | exact HB.out)) hb)
              clear BK165
              clear HB
              have BK165 := n0_
              have HB := n1_
              clear n0_ n1_
              (try clear hb)
              (try clear hb2)
              (try clear hk)
              (try clear hi)
              refine hK.out _ _ ⟨(blk_cell BK165.out 0).trans rfl, (blk_cell BK165.out 1).trans rfl, (blk_cell BK165.out 2).trans rfl⟩ (fun hHeld => ?_)
              clear hK K
              refine norm_ (a' := ?_) ?_ ?_
              rotate_left
              · show Act.put _ (some 43) _ = _
                simp only [Act.put, List.setIfInBounds_toArray, List.set_cons_zero, List.set_cons_succ, i64_w, i32_w]
                rfl
              refine one_ (i := 22) (N := some 45) #[true, true, true, true, true, true, true, true, true, true, true, true, true, true, true, true, true, true, true, true, true, true, true, false, false, false, false, false, false, false, false, false, false, false, false, false, false, false, false] rfl rfl (one_of HT_.out (by kernel_rfl)) (by decide) (fun K hK => ?_)
              refine goes_ Try.func19 (by kernel_rfl) rfl #[.agg #[.int .i64 a0_0, .int .i64 a0_1, .int .i64 a0_2]] (by rfl) rfl rfl (by (try simp only [List.map_toArray, List.map_cons, List.map_nil]); first | done | rfl | (simp only [List.length_drop, List.length_take]; rfl)) ?_
              with_reducible refine (lockgateref1_Total.calls a0_0 a0_1 a0_2 t171 _ A19.out).mono ?_
              rintro e w28 ⟨rfl, hb⟩
              refine ⟨_, rfl, ?_⟩
              have n0_ := Aside0.mk (blk_below (g := gb165) (o := .cells #[.int .i64 a0_0, .int .i64 a0_1, .int .i64 a0_2] 24 (0, 0)) (by (with_reducible repeat (first | refine blk_drewN ?_ _ | refine blk_drew ?_ | refine blk_alloc ?_ _)); exact BK165.out) hb)
              have n1_ := Aside0.mk (below_step (by repeat (first | (with_reducible first | exact HB.out | apply below_alloc | apply pw_below_drewN | apply below_drew1 | refine below_set ?_ GE165.out) | exact HB.out)) hb)
              clear BK165
              clear HB
              have BK165 := n0_
              have HB := n1_
              clear n0_ n1_
              (try clear hb)
              (try clear hb2)
              (try clear hk)
              (try clear hi)
              refine hK.out _ _ ⟨(blk_cell BK165.out 0).trans rfl, (blk_cell BK165.out 1).trans rfl, (blk_cell BK165.out 2).trans rfl⟩ (fun hHeld => ?_)
              clear hK K
              refine norm_ (a' := ?_) ?_ ?_
              rotate_left
              · show Act.put _ (some 45) _ = _
                simp only [Act.put, List.setIfInBounds_toArray, List.set_cons_zero, List.set_cons_succ, i64_w, i32_w]
                rfl
              refine pure_ (i := 23) (N := some 46) (v := ?_) (a' := ?_) #[true, true, true, true, true, true, true, true, true, true, true, true, true, true, true, true, true, true, true, true, true, true, true, true, false, false, false, false, false, false, false, false, false, false, false, false, false, false, false] rfl rfl (any_of HT_.out (by kernel_rfl)) (fun _ _ _ h => h) (Or.inl ⟨by rfl, ?_⟩) ?_ ?_
              rotate_left
              · intro w'
                go_simp
                with_reducible rfl
              rotate_left
              · simp only [Act.put, List.setIfInBounds_toArray, List.set_cons_zero, List.set_cons_succ, i64_w, i32_w]
                rfl
              refine pure_ (i := 24) (N := some 47) (v := ?_) (a' := ?_) #[true, true, true, true, true, true, true, true, true, true, true, true, true, true, true, true, true, true, true, true, true, true, true, true, true, false, false, false, false, false, false, false, false, false, false, false, false, false, false] rfl rfl (any_of HT_.out (by kernel_rfl)) (fun _ _ _ h => h) (Or.inl ⟨by rfl, ?_⟩) ?_ ?_
              rotate_left
              · intro w'
                go_simp
                with_reducible rfl
              rotate_left
              · simp only [Act.put, List.setIfInBounds_toArray, List.set_cons_zero, List.set_cons_succ, i64_w, i32_w]
                rfl
              refine pure_ (i := 25) (N := some 48) (v := ?_) (a' := ?_) #[true, true, true, true, true, true, true, true, true, true, true, true, true, true, true, true, true, true, true, true, true, true, true, true, true, true, false, false, false, false, false, false, false, false, false, false, false, false, false] rfl rfl (any_of HT_.out (by kernel_rfl)) (fun _ _ _ h => h) (Or.inl ⟨by rfl, ?_⟩) ?_ ?_
              rotate_left
              · intro w'
                go_simp
                with_reducible rfl
              rotate_left
              · simp only [Act.put, List.setIfInBounds_toArray, List.set_cons_zero, List.set_cons_succ, i64_w, i32_w]
                rfl
              refine take_ (i := 26) (N := some 49) (v := ?_) (a' := ?_) #[true, true, true, true, true, true, true, true, true, true, true, true, true, true, true, true, true, true, true, true, true, true, true, true, true, true, true, false, false, false, false, false, false, false, false, false, false, false, false] rfl rfl (take_ofW HT_.out HW_.out (by kernel_rfl)) (fun _ _ _ h => h) (Or.inl ⟨by rfl, ?_⟩) hHeld ?_ ?_
              rotate_left
              · rintro w' ⟨s0, s1, s2⟩
                go_simp
                with_reducible rfl
              rotate_left
              · simp only [Act.put, List.setIfInBounds_toArray, List.set_cons_zero, List.set_cons_succ, i64_w, i32_w]
                rfl
              refine take_ (i := 28) (N := some 51) (v := ?_) (a' := ?_) #[true, true, true, true, true, true, true, true, true, true, true, true, true, true, true, true, true, true, true, true, true, true, true, true, true, true, true, false, true, false, false, false, false, false, false, false, false, false, false] rfl rfl (take_ofW HT_.out HW_.out (by kernel_rfl)) (fun _ _ _ h => h) (Or.inl ⟨by rfl, ?_⟩) hHeld ?_ ?_
              rotate_left
              · rintro w' ⟨s0, s1, s2⟩
                go_simp
                with_reducible rfl
              rotate_left
              · simp only [Act.put, List.setIfInBounds_toArray, List.set_cons_zero, List.set_cons_succ, i64_w, i32_w]
                rfl
              refine one_ (i := 27) (N := some 50) #[true, true, true, true, true, true, true, true, true, true, true, true, true, true, true, true, true, true, true, true, true, true, true, true, true, true, true, true, true, false, false, false, false, false, false, false, false, false, false] rfl rfl (one_of HT_.out (by kernel_rfl)) (by decide) (fun K hK => ?_)
              refine goes_ Try.func16 (by kernel_rfl) rfl #[.agg #[.int .i64 a0_0, .int .i64 a0_1, .int .i64 a0_2]] (by rfl) rfl rfl (by (try simp only [List.map_toArray, List.map_cons, List.map_nil]); first | done | rfl | (simp only [List.length_drop, List.length_take]; rfl)) ?_
              with_reducible refine (geom_Inodes.calls a0_0 a0_1 a0_2 t172 _ A21.out).mono ?_
              rintro e w29 ⟨rfl, hb⟩
              refine ⟨_, rfl, ?_⟩
              have n0_ := Aside0.mk (blk_below (g := gb165) (o := .cells #[.int .i64 a0_0, .int .i64 a0_1, .int .i64 a0_2] 24 (0, 0)) (by (with_reducible repeat (first | refine blk_drewN ?_ _ | refine blk_drew ?_ | refine blk_alloc ?_ _)); exact BK165.out) hb)
              have n1_ := Aside0.mk (below_step (by repeat (first | (with_reducible first | exact HB.out | apply below_alloc | apply pw_below_drewN | apply below_drew1 | refine below_set ?_ GE165.out) | exact HB.out)) hb)
              clear BK165
              clear HB
              have BK165 := n0_
              have HB := n1_
              clear n0_ n1_
              (try clear hb)
              (try clear hb2)
              (try clear hk)
              (try clear hi)
              refine hK.out _ _ ⟨(blk_cell BK165.out 0).trans rfl, (blk_cell BK165.out 1).trans rfl, (blk_cell BK165.out 2).trans rfl⟩ (fun hHeld => ?_)
              clear hK K
              refine norm_ (a' := ?_) ?_ ?_
              rotate_left
              · show Act.put _ (some 50) _ = _
                simp only [Act.put, List.setIfInBounds_toArray, List.set_cons_zero, List.set_cons_succ, i64_w, i32_w]
                rfl
              refine one_ (i := 29) (N := some 52) #[true, true, true, true, true, true, true, true, true, true, true, true, true, true, true, true, true, true, true, true, true, true, true, true, true, true, true, true, true, true, false, false, false, false, false, false, false, false, false] rfl rfl (one_of HT_.out (by kernel_rfl)) (by decide) (fun K hK => ?_)
              refine goes_ Try.func20 (by kernel_rfl) rfl #[.agg #[.int .i64 a0_0, .int .i64 a0_1, .int .i64 a0_2]] (by rfl) rfl rfl (by (try simp only [List.map_toArray, List.map_cons, List.map_nil]); first | done | rfl | (simp only [List.length_drop, List.length_take]; rfl)) ?_
              with_reducible refine (lockgateref1_Inodes.calls a0_0 a0_1 a0_2 t173 _ A22.out).mono ?_
              rintro e w30 ⟨rfl, hb⟩
              refine ⟨_, rfl, ?_⟩
              have n0_ := Aside0.mk (blk_below (g := gb165) (o := .cells #[.int .i64 a0_0, .int .i64 a0_1, .int .i64 a0_2] 24 (0, 0)) (by (with_reducible repeat (first | refine blk_drewN ?_ _ | refine blk_drew ?_ | refine blk_alloc ?_ _)); exact BK165.out) hb)
              have n1_ := Aside0.mk (below_step (by repeat (first | (with_reducible first | exact HB.out | apply below_alloc | apply pw_below_drewN | apply below_drew1 | refine below_set ?_ GE165.out) | exact HB.out)) hb)
              clear BK165
              clear HB
              have BK165 := n0_
              have HB := n1_
              clear n0_ n1_
              (try clear hb)
              (try clear hb2)
              (try clear hk)
              (try clear hi)
              refine hK.out _ _ ⟨(blk_cell BK165.out 0).trans rfl, (blk_cell BK165.out 1).trans rfl, (blk_cell BK165.out 2).trans rfl⟩ (fun hHeld => ?_)
              clear hK K
              refine norm_ (a' := ?_) ?_ ?_
              rotate_left
              · show Act.put _ (some 52) _ = _
                simp only [Act.put, List.setIfInBounds_toArray, List.set_cons_zero, List.set_cons_succ, i64_w, i32_w]
                rfl
              refine pure_ (i := 30) (N := some 53) (v := ?_) (a' := ?_) #[true, true, true, true, true, true, true, true, true, true, true, true, true, true, true, true, true, true, true, true, true, true, true, true, true, true, true, true, true, true, true, false, false, false, false, false, false, false, false] rfl rfl (any_of HT_.out (by kernel_rfl)) (fun _ _ _ h => h) (Or.inl ⟨by rfl, ?_⟩) ?_ ?_
              rotate_left
              · intro w'
                go_simp
                with_reducible rfl
              rotate_left
              · simp only [Act.put, List.setIfInBounds_toArray, List.set_cons_zero, List.set_cons_succ, i64_w, i32_w]
                rfl
              refine pure_ (i := 31) (N := some 54) (v := ?_) (a' := ?_) #[true, true, true, true, true, true, true, true, true, true, true, true, true, true, true, true, true, true, true, true, true, true, true, true, true, true, true, true, true, true, true, true, false, false, false, false, false, false, false] rfl rfl (any_of HT_.out (by kernel_rfl)) (fun _ _ _ h => h) (Or.inl ⟨by rfl, ?_⟩) ?_ ?_
              rotate_left
              · intro w'
                go_simp
                with_reducible rfl
              rotate_left
              · simp only [Act.put, List.setIfInBounds_toArray, List.set_cons_zero, List.set_cons_succ, i64_w, i32_w]
                rfl
              refine pure_ (i := 32) (N := some 55) (v := ?_) (a' := ?_) #[true, true, true, true, true, true, true, true, true, true, true, true, true, true, true, true, true, true, true, true, true, true, true, true, true, true, true, true, true, true, true, true, true, false, false, false, false, false, false] rfl rfl (any_of HT_.out (by kernel_rfl)) (fun _ _ _ h => h) (Or.inl ⟨by rfl, ?_⟩) ?_ ?_
              rotate_left
              · intro w'
                go_simp
                with_reducible rfl
              rotate_left
              · simp only [Act.put, List.setIfInBounds_toArray, List.set_cons_zero, List.set_cons_succ, i64_w, i32_w]
                rfl
              refine take_ (i := 33) (N := some 56) (v := ?_) (a' := ?_) #[true, true, true, true, true, true, true, true, true, true, true, true, true, true, true, true, true, true, true, true, true, true, true, true, true, true, true, true, true, true, true, true, true, true, false, false, false, false, false] rfl rfl (take_ofW HT_.out HW_.out (by kernel_rfl)) (fun _ _ _ h => h) (Or.inl ⟨by rfl, ?_⟩) hHeld ?_ ?_
              rotate_left
              · rintro w' ⟨s0, s1, s2⟩
                go_simp
                with_reducible rfl
              rotate_left
              · simp only [Act.put, List.setIfInBounds_toArray, List.set_cons_zero, List.set_cons_succ, i64_w, i32_w]
                rfl
              refine take_ (i := 35) (N := some 58) (v := ?_) (a' := ?_) #[true, true, true, true, true, true, true, true, true, true, true, true, true, true, true, true, true, true, true, true, true, true, true, true, true, true, true, true, true, true, true, true, true, true, false, true, false, false, false] rfl rfl (take_ofW HT_.out HW_.out (by kernel_rfl)) (fun _ _ _ h => h) (Or.inl ⟨by rfl, ?_⟩) hHeld ?_ ?_
              rotate_left
              · rintro w' ⟨s0, s1, s2⟩
                go_simp
                with_reducible rfl
              rotate_left
              · simp only [Act.put, List.setIfInBounds_toArray, List.set_cons_zero, List.set_cons_succ, i64_w, i32_w]
                rfl
              refine one_ (i := 34) (N := some 57) #[true, true, true, true, true, true, true, true, true, true, true, true, true, true, true, true, true, true, true, true, true, true, true, true, true, true, true, true, true, true, true, true, true, true, true, true, false, false, false] rfl rfl (one_of HT_.out (by kernel_rfl)) (by decide) (fun K hK => ?_)
              refine goes_ Try.func17 (by kernel_rfl) rfl #[.agg #[.int .i64 a0_0, .int .i64 a0_1, .int .i64 a0_2]] (by rfl) rfl rfl (by (try simp only [List.map_toArray, List.map_cons, List.map_nil]); first | done | rfl | (simp only [List.length_drop, List.length_take]; rfl)) ?_
              with_reducible refine (geom_Blocks.calls a0_0 a0_1 a0_2 t174 _ A24.out).mono ?_
              rintro e w31 ⟨rfl, hb⟩
              refine ⟨_, rfl, ?_⟩
              have n0_ := Aside0.mk (blk_below (g := gb165) (o := .cells #[.int .i64 a0_0, .int .i64 a0_1, .int .i64 a0_2] 24 (0, 0)) (by (with_reducible repeat (first | refine blk_drewN ?_ _ | refine blk_drew ?_ | refine blk_alloc ?_ _)); exact BK165.out) hb)
              have n1_ := Aside0.mk (below_step (by repeat (first | (with_reducible first | exact HB.out | apply below_alloc | apply pw_below_drewN | apply below_drew1 | refine below_set ?_ GE165.out) | exact HB.out)) hb)
              clear BK165
              clear HB
              have BK165 := n0_
              have HB := n1_
              clear n0_ n1_
              (try clear hb)
              (try clear hb2)
              (try clear hk)
              (try clear hi)
              refine hK.out _ _ ⟨(blk_cell BK165.out 0).trans rfl, (blk_cell BK165.out 1).trans rfl, (blk_cell BK165.out 2).trans rfl⟩ (fun hHeld => ?_)
              clear hK K
              refine norm_ (a' := ?_) ?_ ?_
              rotate_left
              · show Act.put _ (some 57) _ = _
                simp only [Act.put, List.setIfInBounds_toArray, List.set_cons_zero, List.set_cons_succ, i64_w, i32_w]
                rfl
              refine one_ (i := 36) (N := some 59) #[true, true, true, true, true, true, true, true, true, true, true, true, true, true, true, true, true, true, true, true, true, true, true, true, true, true, true, true, true, true, true, true, true, true, true, true, true, false, false] rfl rfl (one_of HT_.out (by kernel_rfl)) (by decide) (fun K hK => ?_)
              refine goes_ Try.func21 (by kernel_rfl) rfl #[.agg #[.int .i64 a0_0, .int .i64 a0_1, .int .i64 a0_2]] (by rfl) rfl rfl (by (try simp only [List.map_toArray, List.map_cons, List.map_nil]); first | done | rfl | (simp only [List.length_drop, List.length_take]; rfl)) ?_
              with_reducible refine (lockgateref1_Blocks.calls a0_0 a0_1 a0_2 t175 _ A25.out).mono ?_
              rintro e w32 ⟨rfl, hb⟩
              refine ⟨_, rfl, ?_⟩
              have n0_ := Aside0.mk (blk_below (g := gb165) (o := .cells #[.int .i64 a0_0, .int .i64 a0_1, .int .i64 a0_2] 24 (0, 0)) (by (with_reducible repeat (first | refine blk_drewN ?_ _ | refine blk_drew ?_ | refine blk_alloc ?_ _)); exact BK165.out) hb)
              have n1_ := Aside0.mk (below_step (by repeat (first | (with_reducible first | exact HB.out | apply below_alloc | apply pw_below_drewN | apply below_drew1 | refine below_set ?_ GE165.out) | exact HB.out)) hb)
              clear BK165
              clear HB
              have BK165 := n0_
              have HB := n1_
              clear n0_ n1_
              (try clear hb)
              (try clear hb2)
              (try clear hk)
              (try clear hi)
              refine hK.out _ _ ⟨(blk_cell BK165.out 0).trans rfl, (blk_cell BK165.out 1).trans rfl, (blk_cell BK165.out 2).trans rfl⟩ (fun hHeld => ?_)
              clear hK K
              refine norm_ (a' := ?_) ?_ ?_
              rotate_left
              · show Act.put _ (some 59) _ = _
                simp only [Act.put, List.setIfInBounds_toArray, List.set_cons_zero, List.set_cons_succ, i64_w, i32_w]
                rfl
              refine pure_ (i := 37) (N := some 60) (v := ?_) (a' := ?_) #[true, true, true, true, true, true, true, true, true, true, true, true, true, true, true, true, true, true, true, true, true, true, true, true, true, true, true, true, true, true, true, true, true, true, true, true, true, true, false] rfl rfl (any_of HT_.out (by kernel_rfl)) (fun _ _ _ h => h) (Or.inl ⟨by rfl, ?_⟩) ?_ ?_
              rotate_left
              · intro w'
                go_simp
                with_reducible rfl
              rotate_left
              · simp only [Act.put, List.setIfInBounds_toArray, List.set_cons_zero, List.set_cons_succ, i64_w, i32_w]
                rfl
              refine pure_ (i := 38) (N := some 61) (v := ?_) (a' := ?_) #[true, true, true, true, true, true, true, true, true, true, true, true, true, true, true, true, true, true, true, true, true, true, true, true, true, true, true, true, true, true, true, true, true, true, true, true, true, true, true] rfl rfl (any_of HT_.out (by kernel_rfl)) (fun _ _ _ h => h) (Or.inl ⟨by rfl, ?_⟩) ?_ ?_
              rotate_left
              · intro w'
                go_simp
                with_reducible rfl
              rotate_left
              · simp only [Act.put, List.setIfInBounds_toArray, List.set_cons_zero, List.set_cons_succ, i64_w, i32_w]
                rfl
              refine done_ (done_of HT_.out (by kernel_rfl)) ?_
              try go_wp2
              go_meet
              case rel => exact ⟨_, ((t174 != t175)), (by first | rfl | (simp; done) | (simp [*]; done)), H', ⟨by first | omega | exact Nat.le_refl _⟩, ⟨by (with_reducible repeat (first | refine blk_drewN ?_ _ | refine blk_drew ?_ | refine blk_alloc ?_ _)); exact BK165.out⟩, ⟨by repeat (first | (with_reducible first | exact HB.out | apply below_alloc | apply pw_below_drewN | apply below_drew1 | refine below_set ?_ GE165.out) | exact HB.out)⟩⟩
            · rw [if_neg c23] at H
              have c23b0 : (t172 == t173) = false := beq_eq_false_iff_ne.mpr c23
              have c23b1 : (t172 != t173) = true := bne_iff_ne.mpr c23
              exact (pruned hT.out H).elim
          · rw [if_neg c20] at H
            have c20b0 : (t170 == t171) = false := beq_eq_false_iff_ne.mpr c20
            have c20b1 : (t170 != t171) = true := bne_iff_ne.mpr c20
            exact (pruned hT.out H).elim
        · replace c17 := Bool.eq_false_iff.mpr c17
          subst c17
          have H1 : ((lockgatelaw3_num.f t168).bind fun t176 => (if t176 = 1 then ((geom_Total.f a0_0 a0_1 a0_2).bind fun t177 => ((lockgateref1_Total.f a0_0 a0_1 a0_2).bind fun t178 => (if t177 = t178 then ((geom_Inodes.f a0_0 a0_1 a0_2).bind fun t179 => ((lockgateref1_Inodes.f a0_0 a0_1 a0_2).bind fun t180 => (if t179 = t180 then ((geom_Blocks.f a0_0 a0_1 a0_2).bind fun t181 => ((lockgateref1_Blocks.f a0_0 a0_1 a0_2).bind fun t182 => (lockgatelaw3_GeomTells.j0 k a1 (t181 != t182) a0_0 a0_1 a0_2))) else (lockgatelaw3_GeomTells.j0 k a1 true a0_0 a0_1 a0_2)))) else (lockgatelaw3_GeomTells.j0 k a1 true a0_0 a0_1 a0_2)))) else (lockgatelaw3_GeomTells.j0 k a1 true a0_0 a0_1 a0_2))) = some r := by rw [if_neg (show ¬ (false = true) by decide)] at H; exact H
          clear H
          have H := H1
          clear H1
          replace H := Option.bind_eq_some_iff.mp H
          obtain ⟨t176, A410, H⟩ := H
          replace H : (if t176 = 1 then ((geom_Total.f a0_0 a0_1 a0_2).bind fun t177 => ((lockgateref1_Total.f a0_0 a0_1 a0_2).bind fun t178 => (if t177 = t178 then ((geom_Inodes.f a0_0 a0_1 a0_2).bind fun t179 => ((lockgateref1_Inodes.f a0_0 a0_1 a0_2).bind fun t180 => (if t179 = t180 then ((geom_Blocks.f a0_0 a0_1 a0_2).bind fun t181 => ((lockgateref1_Blocks.f a0_0 a0_1 a0_2).bind fun t182 => (lockgatelaw3_GeomTells.j0 k a1 (t181 != t182) a0_0 a0_1 a0_2))) else (lockgatelaw3_GeomTells.j0 k a1 true a0_0 a0_1 a0_2)))) else (lockgatelaw3_GeomTells.j0 k a1 true a0_0 a0_1 a0_2)))) else (lockgatelaw3_GeomTells.j0 k a1 true a0_0 a0_1 a0_2)) = some r := H
          have A41 := Aside0.mk A410
          clear A410
          by_cases c42 : t176 = 1
          · rw [if_pos c42] at H
            have c42b0 : (t176 == 1) = true := beq_iff_eq.mpr c42
            have c42b1 : (t176 != 1) = false := bne_eq_false_iff_eq.mpr c42
            clear c42
            replace H := Option.bind_eq_some_iff.mp H
            obtain ⟨t177, A430, H⟩ := H
            replace H : ((lockgateref1_Total.f a0_0 a0_1 a0_2).bind fun t178 => (if t177 = t178 then ((geom_Inodes.f a0_0 a0_1 a0_2).bind fun t179 => ((lockgateref1_Inodes.f a0_0 a0_1 a0_2).bind fun t180 => (if t179 = t180 then ((geom_Blocks.f a0_0 a0_1 a0_2).bind fun t181 => ((lockgateref1_Blocks.f a0_0 a0_1 a0_2).bind fun t182 => (lockgatelaw3_GeomTells.j0 k a1 (t181 != t182) a0_0 a0_1 a0_2))) else (lockgatelaw3_GeomTells.j0 k a1 true a0_0 a0_1 a0_2)))) else (lockgatelaw3_GeomTells.j0 k a1 true a0_0 a0_1 a0_2))) = some r := H
            have A43 := Aside0.mk A430
            clear A430
            replace H := Option.bind_eq_some_iff.mp H
            obtain ⟨t178, A440, H⟩ := H
            replace H : (if t177 = t178 then ((geom_Inodes.f a0_0 a0_1 a0_2).bind fun t179 => ((lockgateref1_Inodes.f a0_0 a0_1 a0_2).bind fun t180 => (if t179 = t180 then ((geom_Blocks.f a0_0 a0_1 a0_2).bind fun t181 => ((lockgateref1_Blocks.f a0_0 a0_1 a0_2).bind fun t182 => (lockgatelaw3_GeomTells.j0 k a1 (t181 != t182) a0_0 a0_1 a0_2))) else (lockgatelaw3_GeomTells.j0 k a1 true a0_0 a0_1 a0_2)))) else (lockgatelaw3_GeomTells.j0 k a1 true a0_0 a0_1 a0_2)) = some r := H
            have A44 := Aside0.mk A440
            clear A440
            by_cases c45 : t177 = t178
            · rw [if_pos c45] at H
              have c45b0 : (t177 == t178) = true := beq_iff_eq.mpr c45
              have c45b1 : (t177 != t178) = false := bne_eq_false_iff_eq.mpr c45
              clear c45
              replace H := Option.bind_eq_some_iff.mp H
              obtain ⟨t179, A460, H⟩ := H
              replace H : ((lockgateref1_Inodes.f a0_0 a0_1 a0_2).bind fun t180 => (if t179 = t180 then ((geom_Blocks.f a0_0 a0_1 a0_2).bind fun t181 => ((lockgateref1_Blocks.f a0_0 a0_1 a0_2).bind fun t182 => (lockgatelaw3_GeomTells.j0 k a1 (t181 != t182) a0_0 a0_1 a0_2))) else (lockgatelaw3_GeomTells.j0 k a1 true a0_0 a0_1 a0_2))) = some r := H
              have A46 := Aside0.mk A460
              clear A460
              replace H := Option.bind_eq_some_iff.mp H
              obtain ⟨t180, A470, H⟩ := H
              replace H : (if t179 = t180 then ((geom_Blocks.f a0_0 a0_1 a0_2).bind fun t181 => ((lockgateref1_Blocks.f a0_0 a0_1 a0_2).bind fun t182 => (lockgatelaw3_GeomTells.j0 k a1 (t181 != t182) a0_0 a0_1 a0_2))) else (lockgatelaw3_GeomTells.j0 k a1 true a0_0 a0_1 a0_2)) = some r := H
              have A47 := Aside0.mk A470
              clear A470
              by_cases c48 : t179 = t180
              · rw [if_pos c48] at H
                have c48b0 : (t179 == t180) = true := beq_iff_eq.mpr c48
                have c48b1 : (t179 != t180) = false := bne_eq_false_iff_eq.mpr c48
                clear c48
                replace H := Option.bind_eq_some_iff.mp H
                obtain ⟨t181, A490, H⟩ := H
                replace H : ((lockgateref1_Blocks.f a0_0 a0_1 a0_2).bind fun t182 => (lockgatelaw3_GeomTells.j0 k a1 (t181 != t182) a0_0 a0_1 a0_2)) = some r := H
                have A49 := Aside0.mk A490
                clear A490
                replace H := Option.bind_eq_some_iff.mp H
                obtain ⟨t182, A500, H⟩ := H
                replace H : (lockgatelaw3_GeomTells.j0 k a1 (t181 != t182) a0_0 a0_1 a0_2) = some r := H
                have A50 := Aside0.mk A500
                clear A500
                have H' := Aside0.mk H
                clear H
                try go_wp2
                have n0_ := Aside0.mk (blk_drew BK165.out)
                have n1_ := Aside0.mk (below_drew1 HB.out)
                clear BK165
                clear HB
                have BK165 := n0_
                have HB := n1_
                clear n0_ n1_
                refine start_ (n := 39) (S := fun w' => w'.cell? ⟨gb165, 0, none⟩ = some (.int .i64 a0_0) ∧ w'.cell? ⟨gb165, 1, none⟩ = some (.int .i64 a0_1) ∧ w'.cell? ⟨gb165, 2, none⟩ = some (.int .i64 a0_2)) (ds := []) #[false, false, false, false, false, false, false, false, false, false, false, false, false, false, false, false, false, false, false, false, false, false, false, false, false, false, false, false, false, false, false, false, false, false, false, false, false, false, false] (by kernel_rfl) rfl rfl ⟨(blk_cell BK165.out 0).trans rfl, (blk_cell BK165.out 1).trans rfl, (blk_cell BK165.out 2).trans rfl⟩ (fun hHeld => ?_); refine with_tabW lockgatelaw3_GeomTells.tab4 lockgatelaw3_GeomTells.bits4 (fun HT_ HW_ => ?_)
                generalize w12.drew = w51 at BK165 HB hHeld ⊢
                refine pure_ (i := 0) (N := some 23) (v := ?_) (a' := ?_) #[true, false, false, false, false, false, false, false, false, false, false, false, false, false, false, false, false, false, false, false, false, false, false, false, false, false, false, false, false, false, false, false, false, false, false, false, false, false, false] rfl rfl (any_of HT_.out (by kernel_rfl)) (fun _ _ _ h => h) (Or.inl ⟨by rfl, ?_⟩) ?_ ?_
                rotate_left
                · intro w'
                  go_simp
                  with_reducible rfl
                rotate_left
                · simp only [Act.put, List.setIfInBounds_toArray, List.set_cons_zero, List.set_cons_succ, i64_w, i32_w]
                  rfl
                refine pure_ (i := 1) (N := some 24) (v := ?_) (a' := ?_) #[true, true, false, false, false, false, false, false, false, false, false, false, false, false, false, false, false, false, false, false, false, false, false, false, false, false, false, false, false, false, false, false, false, false, false, false, false, false, false] rfl rfl (any_of HT_.out (by kernel_rfl)) (fun _ _ _ h => h) (Or.inl ⟨by rfl, ?_⟩) ?_ ?_
                rotate_left
                · intro w'
                  go_simp
                  with_reducible rfl
                rotate_left
                · simp only [Act.put, List.setIfInBounds_toArray, List.set_cons_zero, List.set_cons_succ, i64_w, i32_w]
                  rfl
                refine pure_ (i := 2) (N := some 25) (v := ?_) (a' := ?_) #[true, true, true, false, false, false, false, false, false, false, false, false, false, false, false, false, false, false, false, false, false, false, false, false, false, false, false, false, false, false, false, false, false, false, false, false, false, false, false] rfl rfl (any_of HT_.out (by kernel_rfl)) (fun _ _ _ h => h) (Or.inl ⟨by rfl, ?_⟩) ?_ ?_
                rotate_left
                · intro w'
                  go_simp
                  with_reducible rfl
                rotate_left
                · simp only [Act.put, List.setIfInBounds_toArray, List.set_cons_zero, List.set_cons_succ, i64_w, i32_w]
                  rfl
                refine pure_ (i := 3) (N := some 26) (v := ?_) (a' := ?_) #[true, true, true, true, false, false, false, false, false, false, false, false, false, false, false, false, false, false, false, false, false, false, false, false, false, false, false, false, false, false, false, false, false, false, false, false, false, false, false] rfl rfl (any_of HT_.out (by kernel_rfl)) (fun _ _ _ h => h) (Or.inl ⟨by rfl, ?_⟩) ?_ ?_
                rotate_left
                · intro w'
                  go_simp
                  with_reducible rfl
                rotate_left
                · simp only [Act.put, List.setIfInBounds_toArray, List.set_cons_zero, List.set_cons_succ, i64_w, i32_w]
                  rfl
                refine pure_ (i := 6) (N := some 29) (v := ?_) (a' := ?_) #[true, true, true, true, false, false, true, false, false, false, false, false, false, false, false, false, false, false, false, false, false, false, false, false, false, false, false, false, false, false, false, false, false, false, false, false, false, false, false] rfl rfl (any_of HT_.out (by kernel_rfl)) (fun _ _ _ h => h) (Or.inl ⟨by rfl, ?_⟩) ?_ ?_
                rotate_left
                · intro w'
                  go_simp
                  with_reducible rfl
                rotate_left
                · simp only [Act.put, List.setIfInBounds_toArray, List.set_cons_zero, List.set_cons_succ, i64_w, i32_w]
                  rfl
                refine one_ (i := 4) (N := some 27) #[true, true, true, true, true, false, true, false, false, false, false, false, false, false, false, false, false, false, false, false, false, false, false, false, false, false, false, false, false, false, false, false, false, false, false, false, false, false, false] rfl rfl (one_of HT_.out (by kernel_rfl)) (by decide) (fun K hK => ?_)
                refine goes_ Try.func10 (by kernel_rfl) rfl #[.int .i64 t168] (by rfl) rfl rfl (by (try simp only [List.map_toArray, List.map_cons, List.map_nil]); first | done | rfl | (simp only [List.length_drop, List.length_take]; rfl)) ?_
                with_reducible refine (lockgatelaw3_num.calls t168 t169 _ A14.out).mono ?_
                rintro e w' ⟨rfl, ⟨nd, rfl⟩⟩
                refine ⟨_, rfl, ?_⟩
                refine hK.out _ _ ⟨(blk_cell BK165.out 0).trans rfl, (blk_cell BK165.out 1).trans rfl, (blk_cell BK165.out 2).trans rfl⟩ (fun hHeld => ?_)
                clear hK K
                refine norm_ (a' := ?_) ?_ ?_
                rotate_left
                · show Act.put _ (some 27) _ = _
                  simp only [Act.put, List.setIfInBounds_toArray, List.set_cons_zero, List.set_cons_succ, i64_w, i32_w]
                  rfl
                refine pure_ (i := 5) (N := some 28) (v := ?_) (a' := ?_) #[true, true, true, true, true, true, true, false, false, false, false, false, false, false, false, false, false, false, false, false, false, false, false, false, false, false, false, false, false, false, false, false, false, false, false, false, false, false, false] rfl rfl (any_of HT_.out (by kernel_rfl)) (fun _ _ _ h => h) (Or.inl ⟨by rfl, ?_⟩) ?_ ?_
                rotate_left
                · intro w'
                  go_simp
                  with_reducible rfl
                rotate_left
                · simp only [Act.put, List.setIfInBounds_toArray, List.set_cons_zero, List.set_cons_succ, i64_w, i32_w]
                  rfl
                refine pure_ (i := 7) (N := some 30) (v := ?_) (a' := ?_) #[true, true, true, true, true, true, true, true, false, false, false, false, false, false, false, false, false, false, false, false, false, false, false, false, false, false, false, false, false, false, false, false, false, false, false, false, false, false, false] rfl rfl (any_of HT_.out (by kernel_rfl)) (fun _ _ _ h => h) (Or.inl ⟨by rfl, ?_⟩) ?_ ?_
                rotate_left
                · intro w'
                  go_simp
                  with_reducible rfl
                rotate_left
                · simp only [Act.put, List.setIfInBounds_toArray, List.set_cons_zero, List.set_cons_succ, i64_w, i32_w]
                  rfl
                refine pure_ (i := 8) (N := some 31) (v := ?_) (a' := ?_) #[true, true, true, true, true, true, true, true, true, false, false, false, false, false, false, false, false, false, false, false, false, false, false, false, false, false, false, false, false, false, false, false, false, false, false, false, false, false, false] rfl rfl (any_of HT_.out (by kernel_rfl)) (fun _ _ _ h => h) (Or.inl ⟨by rfl, ?_⟩) ?_ ?_
                rotate_left
                · intro w'
                  go_simp
                  with_reducible rfl
                rotate_left
                · simp only [Act.put, List.setIfInBounds_toArray, List.set_cons_zero, List.set_cons_succ, i64_w, i32_w]
                  rfl
                refine pure_ (i := 9) (N := some 32) (v := ?_) (a' := ?_) #[true, true, true, true, true, true, true, true, true, true, false, false, false, false, false, false, false, false, false, false, false, false, false, false, false, false, false, false, false, false, false, false, false, false, false, false, false, false, false] rfl rfl (any_of HT_.out (by kernel_rfl)) (fun _ _ _ h => h) (Or.inl ⟨by rfl, ?_⟩) ?_ ?_
                rotate_left
                · intro w'
                  go_simp
                  with_reducible rfl
                rotate_left
                · simp only [Act.put, List.setIfInBounds_toArray, List.set_cons_zero, List.set_cons_succ, i64_w, i32_w]
                  rfl
                refine pure_ (i := 10) (N := some 33) (v := ?_) (a' := ?_) #[true, true, true, true, true, true, true, true, true, true, true, false, false, false, false, false, false, false, false, false, false, false, false, false, false, false, false, false, false, false, false, false, false, false, false, false, false, false, false] rfl rfl (any_of HT_.out (by kernel_rfl)) (fun _ _ _ h => h) (Or.inl ⟨by rfl, ?_⟩) ?_ ?_
                rotate_left
                · intro w'
                  go_simp
                  with_reducible rfl
                rotate_left
                · simp only [Act.put, List.setIfInBounds_toArray, List.set_cons_zero, List.set_cons_succ, i64_w, i32_w]
                  rfl
                refine pure_ (i := 11) (N := some 34) (v := ?_) (a' := ?_) #[true, true, true, true, true, true, true, true, true, true, true, true, false, false, false, false, false, false, false, false, false, false, false, false, false, false, false, false, false, false, false, false, false, false, false, false, false, false, false] rfl rfl (any_of HT_.out (by kernel_rfl)) (fun _ _ _ h => h) (Or.inl ⟨by rfl, ?_⟩) ?_ ?_
                rotate_left
                · intro w'
                  go_simp
                  with_reducible rfl
                rotate_left
                · simp only [Act.put, List.setIfInBounds_toArray, List.set_cons_zero, List.set_cons_succ, i64_w, i32_w]
                  rfl
                refine pure_ (i := 12) (N := some 35) (v := ?_) (a' := ?_) #[true, true, true, true, true, true, true, true, true, true, true, true, true, false, false, false, false, false, false, false, false, false, false, false, false, false, false, false, false, false, false, false, false, false, false, false, false, false, false] rfl rfl (any_of HT_.out (by kernel_rfl)) (fun _ _ _ h => h) (Or.inl ⟨by rfl, ?_⟩) ?_ ?_
                rotate_left
                · intro w'
                  go_simp
                  with_reducible rfl
                rotate_left
                · simp only [Act.put, List.setIfInBounds_toArray, List.set_cons_zero, List.set_cons_succ, i64_w, i32_w]
                  rfl
                refine pure_ (i := 13) (N := some 36) (v := ?_) (a' := ?_) #[true, true, true, true, true, true, true, true, true, true, true, true, true, true, false, false, false, false, false, false, false, false, false, false, false, false, false, false, false, false, false, false, false, false, false, false, false, false, false] rfl rfl (any_of HT_.out (by kernel_rfl)) (fun _ _ _ h => h) (Or.inl ⟨by rfl, ?_⟩) ?_ ?_
                rotate_left
                · intro w'
                  go_simp
                  with_reducible rfl
                rotate_left
                · simp only [Act.put, List.setIfInBounds_toArray, List.set_cons_zero, List.set_cons_succ, i64_w, i32_w]
                  rfl
                refine one_ (i := 14) (N := some 37) #[true, true, true, true, true, true, true, true, true, true, true, true, true, true, true, false, false, false, false, false, false, false, false, false, false, false, false, false, false, false, false, false, false, false, false, false, false, false, false] rfl rfl (one_of HT_.out (by kernel_rfl)) (by decide) (fun K hK => ?_)
                refine goes_ Try.func10 (by kernel_rfl) rfl #[.int .i64 t168] (by rfl) rfl rfl (by (try simp only [List.map_toArray, List.map_cons, List.map_nil]); first | done | rfl | (simp only [List.length_drop, List.length_take]; rfl)) ?_
                with_reducible refine (lockgatelaw3_num.calls t168 t176 _ A41.out).mono ?_
                rintro e w' ⟨rfl, ⟨nd, rfl⟩⟩
                refine ⟨_, rfl, ?_⟩
                refine hK.out _ _ ⟨(blk_cell BK165.out 0).trans rfl, (blk_cell BK165.out 1).trans rfl, (blk_cell BK165.out 2).trans rfl⟩ (fun hHeld => ?_)
                clear hK K
                refine norm_ (a' := ?_) ?_ ?_
                rotate_left
                · show Act.put _ (some 37) _ = _
                  simp only [Act.put, List.setIfInBounds_toArray, List.set_cons_zero, List.set_cons_succ, i64_w, i32_w]
                  rfl
                refine pure_ (i := 15) (N := some 38) (v := ?_) (a' := ?_) #[true, true, true, true, true, true, true, true, true, true, true, true, true, true, true, true, false, false, false, false, false, false, false, false, false, false, false, false, false, false, false, false, false, false, false, false, false, false, false] rfl rfl (any_of HT_.out (by kernel_rfl)) (fun _ _ _ h => h) (Or.inl ⟨by rfl, ?_⟩) ?_ ?_
                rotate_left
                · intro w'
                  go_simp
                  with_reducible rfl
                rotate_left
                · simp only [Act.put, List.setIfInBounds_toArray, List.set_cons_zero, List.set_cons_succ, i64_w, i32_w]
                  rfl
                refine pure_ (i := 16) (N := some 39) (v := ?_) (a' := ?_) #[true, true, true, true, true, true, true, true, true, true, true, true, true, true, true, true, true, false, false, false, false, false, false, false, false, false, false, false, false, false, false, false, false, false, false, false, false, false, false] rfl rfl (any_of HT_.out (by kernel_rfl)) (fun _ _ _ h => h) (Or.inl ⟨by rfl, ?_⟩) ?_ ?_
                rotate_left
                · intro w'
                  go_simp
                  with_reducible rfl
                rotate_left
                · simp only [Act.put, List.setIfInBounds_toArray, List.set_cons_zero, List.set_cons_succ, i64_w, i32_w]
                  rfl
                refine pure_ (i := 17) (N := some 40) (v := ?_) (a' := ?_) #[true, true, true, true, true, true, true, true, true, true, true, true, true, true, true, true, true, true, false, false, false, false, false, false, false, false, false, false, false, false, false, false, false, false, false, false, false, false, false] rfl rfl (any_of HT_.out (by kernel_rfl)) (fun _ _ _ h => h) (Or.inl ⟨by rfl, ?_⟩) ?_ ?_
                rotate_left
                · intro w'
                  go_simp
                  with_reducible rfl
                rotate_left
                · simp only [Act.put, List.setIfInBounds_toArray, List.set_cons_zero, List.set_cons_succ, i64_w, i32_w]
                  rfl
                refine pure_ (i := 18) (N := some 41) (v := ?_) (a' := ?_) #[true, true, true, true, true, true, true, true, true, true, true, true, true, true, true, true, true, true, true, false, false, false, false, false, false, false, false, false, false, false, false, false, false, false, false, false, false, false, false] rfl rfl (any_of HT_.out (by kernel_rfl)) (fun _ _ _ h => h) (Or.inl ⟨by rfl, ?_⟩) ?_ ?_
                rotate_left
                · intro w'
                  go_simp
                  with_reducible rfl
                rotate_left
                · simp only [Act.put, List.setIfInBounds_toArray, List.set_cons_zero, List.set_cons_succ, i64_w, i32_w]
                  rfl
                refine take_ (i := 19) (N := some 42) (v := ?_) (a' := ?_) #[true, true, true, true, true, true, true, true, true, true, true, true, true, true, true, true, true, true, true, true, false, false, false, false, false, false, false, false, false, false, false, false, false, false, false, false, false, false, false] rfl rfl (take_ofW HT_.out HW_.out (by kernel_rfl)) (fun _ _ _ h => h) (Or.inl ⟨by rfl, ?_⟩) hHeld ?_ ?_
                rotate_left
                · rintro w' ⟨s0, s1, s2⟩
                  go_simp
                  with_reducible rfl
                rotate_left
                · simp only [Act.put, List.setIfInBounds_toArray, List.set_cons_zero, List.set_cons_succ, i64_w, i32_w]
                  rfl
                refine take_ (i := 21) (N := some 44) (v := ?_) (a' := ?_) #[true, true, true, true, true, true, true, true, true, true, true, true, true, true, true, true, true, true, true, true, false, true, false, false, false, false, false, false, false, false, false, false, false, false, false, false, false, false, false] rfl rfl (take_ofW HT_.out HW_.out (by kernel_rfl)) (fun _ _ _ h => h) (Or.inl ⟨by rfl, ?_⟩) hHeld ?_ ?_
                rotate_left
                · rintro w' ⟨s0, s1, s2⟩
                  go_simp
                  with_reducible rfl
                rotate_left
                · simp only [Act.put, List.setIfInBounds_toArray, List.set_cons_zero, List.set_cons_succ, i64_w, i32_w]
                  rfl
                refine one_ (i := 20) (N := some 43) #[true, true, true, true, true, true, true, true, true, true, true, true, true, true, true, true, true, true, true, true, true, true, false, false, false, false, false, false, false, false, false, false, false, false, false, false, false, false, false] rfl rfl (one_of HT_.out (by kernel_rfl)) (by decide) (fun K hK => ?_)
                refine goes_ Try.func15 (by kernel_rfl) rfl #[.agg #[.int .i64 a0_0, .int .i64 a0_1, .int .i64 a0_2]] (by rfl) rfl rfl (by (try simp only [List.map_toArray, List.map_cons, List.map_nil]); first | done | rfl | (simp only [List.length_drop, List.length_take]; rfl)) ?_
                with_reducible refine (geom_Total.calls a0_0 a0_1 a0_2 t177 _ A43.out).mono ?_
                rintro e w52 ⟨rfl, hb⟩
                refine ⟨_, rfl, ?_⟩
                have n0_ := Aside0.mk (blk_below (g := gb165) (o := .cells #[.int .i64 a0_0, .int .i64 a0_1, .int .i64 a0_2] 24 (0, 0)) (by (with_reducible repeat (first | refine blk_drewN ?_ _ | refine blk_drew ?_ | refine blk_alloc ?_ _)); exact BK165.out) hb)
                have n1_ := Aside0.mk (below_step (by repeat (first | (with_reducible first | exact HB.out | apply below_alloc | apply pw_below_drewN | apply below_drew1 | refine below_set ?_ GE165.out) | exact HB.out)) hb)
                clear BK165
                clear HB
                have BK165 := n0_
                have HB := n1_
                clear n0_ n1_
                (try clear hb)
                (try clear hb2)
                (try clear hk)
                (try clear hi)
                refine hK.out _ _ ⟨(blk_cell BK165.out 0).trans rfl, (blk_cell BK165.out 1).trans rfl, (blk_cell BK165.out 2).trans rfl⟩ (fun hHeld => ?_)
                clear hK K
                refine norm_ (a' := ?_) ?_ ?_
                rotate_left
                · show Act.put _ (some 43) _ = _
                  simp only [Act.put, List.setIfInBounds_toArray, List.set_cons_zero, List.set_cons_succ, i64_w, i32_w]
                  rfl
                refine one_ (i := 22) (N := some 45) #[true, true, true, true, true, true, true, true, true, true, true, true, true, true, true, true, true, true, true, true, true, true, true, false, false, false, false, false, false, false, false, false, false, false, false, false, false, false, false] rfl rfl (one_of HT_.out (by kernel_rfl)) (by decide) (fun K hK => ?_)
                refine goes_ Try.func19 (by kernel_rfl) rfl #[.agg #[.int .i64 a0_0, .int .i64 a0_1, .int .i64 a0_2]] (by rfl) rfl rfl (by (try simp only [List.map_toArray, List.map_cons, List.map_nil]); first | done | rfl | (simp only [List.length_drop, List.length_take]; rfl)) ?_
                with_reducible refine (lockgateref1_Total.calls a0_0 a0_1 a0_2 t178 _ A44.out).mono ?_
                rintro e w53 ⟨rfl, hb⟩
                refine ⟨_, rfl, ?_⟩
                have n0_ := Aside0.mk (blk_below (g := gb165) (o := .cells #[.int .i64 a0_0, .int .i64 a0_1, .int .i64 a0_2] 24 (0, 0)) (by (with_reducible repeat (first | refine blk_drewN ?_ _ | refine blk_drew ?_ | refine blk_alloc ?_ _)); exact BK165.out) hb)
                have n1_ := Aside0.mk (below_step (by repeat (first | (with_reducible first | exact HB.out | apply below_alloc | apply pw_below_drewN | apply below_drew1 | refine below_set ?_ GE165.out) | exact HB.out)) hb)
                clear BK165
                clear HB
                have BK165 := n0_
                have HB := n1_
                clear n0_ n1_
                (try clear hb)
                (try clear hb2)
                (try clear hk)
                (try clear hi)
                refine hK.out _ _ ⟨(blk_cell BK165.out 0).trans rfl, (blk_cell BK165.out 1).trans rfl, (blk_cell BK165.out 2).trans rfl⟩ (fun hHeld => ?_)
                clear hK K
                refine norm_ (a' := ?_) ?_ ?_
                rotate_left
                · show Act.put _ (some 45) _ = _
                  simp only [Act.put, List.setIfInBounds_toArray, List.set_cons_zero, List.set_cons_succ, i64_w, i32_w]
                  rfl
                refine pure_ (i := 23) (N := some 46) (v := ?_) (a' := ?_) #[true, true, true, true, true, true, true, true, true, true, true, true, true, true, true, true, true, true, true, true, true, true, true, true, false, false, false, false, false, false, false, false, false, false, false, false, false, false, false] rfl rfl (any_of HT_.out (by kernel_rfl)) (fun _ _ _ h => h) (Or.inl ⟨by rfl, ?_⟩) ?_ ?_
                rotate_left
                · intro w'
                  go_simp
                  with_reducible rfl
                rotate_left
                · simp only [Act.put, List.setIfInBounds_toArray, List.set_cons_zero, List.set_cons_succ, i64_w, i32_w]
                  rfl
                refine pure_ (i := 24) (N := some 47) (v := ?_) (a' := ?_) #[true, true, true, true, true, true, true, true, true, true, true, true, true, true, true, true, true, true, true, true, true, true, true, true, true, false, false, false, false, false, false, false, false, false, false, false, false, false, false] rfl rfl (any_of HT_.out (by kernel_rfl)) (fun _ _ _ h => h) (Or.inl ⟨by rfl, ?_⟩) ?_ ?_
                rotate_left
                · intro w'
                  go_simp
                  with_reducible rfl
                rotate_left
                · simp only [Act.put, List.setIfInBounds_toArray, List.set_cons_zero, List.set_cons_succ, i64_w, i32_w]
                  rfl
                refine pure_ (i := 25) (N := some 48) (v := ?_) (a' := ?_) #[true, true, true, true, true, true, true, true, true, true, true, true, true, true, true, true, true, true, true, true, true, true, true, true, true, true, false, false, false, false, false, false, false, false, false, false, false, false, false] rfl rfl (any_of HT_.out (by kernel_rfl)) (fun _ _ _ h => h) (Or.inl ⟨by rfl, ?_⟩) ?_ ?_
                rotate_left
                · intro w'
                  go_simp
                  with_reducible rfl
                rotate_left
                · simp only [Act.put, List.setIfInBounds_toArray, List.set_cons_zero, List.set_cons_succ, i64_w, i32_w]
                  rfl
                refine take_ (i := 26) (N := some 49) (v := ?_) (a' := ?_) #[true, true, true, true, true, true, true, true, true, true, true, true, true, true, true, true, true, true, true, true, true, true, true, true, true, true, true, false, false, false, false, false, false, false, false, false, false, false, false] rfl rfl (take_ofW HT_.out HW_.out (by kernel_rfl)) (fun _ _ _ h => h) (Or.inl ⟨by rfl, ?_⟩) hHeld ?_ ?_
                rotate_left
                · rintro w' ⟨s0, s1, s2⟩
                  go_simp
                  with_reducible rfl
                rotate_left
                · simp only [Act.put, List.setIfInBounds_toArray, List.set_cons_zero, List.set_cons_succ, i64_w, i32_w]
                  rfl
                refine take_ (i := 28) (N := some 51) (v := ?_) (a' := ?_) #[true, true, true, true, true, true, true, true, true, true, true, true, true, true, true, true, true, true, true, true, true, true, true, true, true, true, true, false, true, false, false, false, false, false, false, false, false, false, false] rfl rfl (take_ofW HT_.out HW_.out (by kernel_rfl)) (fun _ _ _ h => h) (Or.inl ⟨by rfl, ?_⟩) hHeld ?_ ?_
                rotate_left
                · rintro w' ⟨s0, s1, s2⟩
                  go_simp
                  with_reducible rfl
                rotate_left
                · simp only [Act.put, List.setIfInBounds_toArray, List.set_cons_zero, List.set_cons_succ, i64_w, i32_w]
                  rfl
                refine one_ (i := 27) (N := some 50) #[true, true, true, true, true, true, true, true, true, true, true, true, true, true, true, true, true, true, true, true, true, true, true, true, true, true, true, true, true, false, false, false, false, false, false, false, false, false, false] rfl rfl (one_of HT_.out (by kernel_rfl)) (by decide) (fun K hK => ?_)
                refine goes_ Try.func16 (by kernel_rfl) rfl #[.agg #[.int .i64 a0_0, .int .i64 a0_1, .int .i64 a0_2]] (by rfl) rfl rfl (by (try simp only [List.map_toArray, List.map_cons, List.map_nil]); first | done | rfl | (simp only [List.length_drop, List.length_take]; rfl)) ?_
                with_reducible refine (geom_Inodes.calls a0_0 a0_1 a0_2 t179 _ A46.out).mono ?_
                rintro e w54 ⟨rfl, hb⟩
                refine ⟨_, rfl, ?_⟩
                have n0_ := Aside0.mk (blk_below (g := gb165) (o := .cells #[.int .i64 a0_0, .int .i64 a0_1, .int .i64 a0_2] 24 (0, 0)) (by (with_reducible repeat (first | refine blk_drewN ?_ _ | refine blk_drew ?_ | refine blk_alloc ?_ _)); exact BK165.out) hb)
                have n1_ := Aside0.mk (below_step (by repeat (first | (with_reducible first | exact HB.out | apply below_alloc | apply pw_below_drewN | apply below_drew1 | refine below_set ?_ GE165.out) | exact HB.out)) hb)
                clear BK165
                clear HB
                have BK165 := n0_
                have HB := n1_
                clear n0_ n1_
                (try clear hb)
                (try clear hb2)
                (try clear hk)
                (try clear hi)
                refine hK.out _ _ ⟨(blk_cell BK165.out 0).trans rfl, (blk_cell BK165.out 1).trans rfl, (blk_cell BK165.out 2).trans rfl⟩ (fun hHeld => ?_)
                clear hK K
                refine norm_ (a' := ?_) ?_ ?_
                rotate_left
                · show Act.put _ (some 50) _ = _
                  simp only [Act.put, List.setIfInBounds_toArray, List.set_cons_zero, List.set_cons_succ, i64_w, i32_w]
                  rfl
                refine one_ (i := 29) (N := some 52) #[true, true, true, true, true, true, true, true, true, true, true, true, true, true, true, true, true, true, true, true, true, true, true, true, true, true, true, true, true, true, false, false, false, false, false, false, false, false, false] rfl rfl (one_of HT_.out (by kernel_rfl)) (by decide) (fun K hK => ?_)
                refine goes_ Try.func20 (by kernel_rfl) rfl #[.agg #[.int .i64 a0_0, .int .i64 a0_1, .int .i64 a0_2]] (by rfl) rfl rfl (by (try simp only [List.map_toArray, List.map_cons, List.map_nil]); first | done | rfl | (simp only [List.length_drop, List.length_take]; rfl)) ?_
                with_reducible refine (lockgateref1_Inodes.calls a0_0 a0_1 a0_2 t180 _ A47.out).mono ?_
                rintro e w55 ⟨rfl, hb⟩
                refine ⟨_, rfl, ?_⟩
                have n0_ := Aside0.mk (blk_below (g := gb165) (o := .cells #[.int .i64 a0_0, .int .i64 a0_1, .int .i64 a0_2] 24 (0, 0)) (by (with_reducible repeat (first | refine blk_drewN ?_ _ | refine blk_drew ?_ | refine blk_alloc ?_ _)); exact BK165.out) hb)
                have n1_ := Aside0.mk (below_step (by repeat (first | (with_reducible first | exact HB.out | apply below_alloc | apply pw_below_drewN | apply below_drew1 | refine below_set ?_ GE165.out) | exact HB.out)) hb)
                clear BK165
                clear HB
                have BK165 := n0_
                have HB := n1_
                clear n0_ n1_
                (try clear hb)
                (try clear hb2)
                (try clear hk)
                (try clear hi)
                refine hK.out _ _ ⟨(blk_cell BK165.out 0).trans rfl, (blk_cell BK165.out 1).trans rfl, (blk_cell BK165.out 2).trans rfl⟩ (fun hHeld => ?_)
                clear hK K
                refine norm_ (a' := ?_) ?_ ?_
                rotate_left
                · show Act.put _ (some 52) _ = _
                  simp only [Act.put, List.setIfInBounds_toArray, List.set_cons_zero, List.set_cons_succ, i64_w, i32_w]
                  rfl
                refine pure_ (i := 30) (N := some 53) (v := ?_) (a' := ?_) #[true, true, true, true, true, true, true, true, true, true, true, true, true, true, true, true, true, true, true, true, true, true, true, true, true, true, true, true, true, true, true, false, false, false, false, false, false, false, false] rfl rfl (any_of HT_.out (by kernel_rfl)) (fun _ _ _ h => h) (Or.inl ⟨by rfl, ?_⟩) ?_ ?_
                rotate_left
                · intro w'
                  go_simp
                  with_reducible rfl
                rotate_left
                · simp only [Act.put, List.setIfInBounds_toArray, List.set_cons_zero, List.set_cons_succ, i64_w, i32_w]
                  rfl
                refine pure_ (i := 31) (N := some 54) (v := ?_) (a' := ?_) #[true, true, true, true, true, true, true, true, true, true, true, true, true, true, true, true, true, true, true, true, true, true, true, true, true, true, true, true, true, true, true, true, false, false, false, false, false, false, false] rfl rfl (any_of HT_.out (by kernel_rfl)) (fun _ _ _ h => h) (Or.inl ⟨by rfl, ?_⟩) ?_ ?_
                rotate_left
                · intro w'
                  go_simp
                  with_reducible rfl
                rotate_left
                · simp only [Act.put, List.setIfInBounds_toArray, List.set_cons_zero, List.set_cons_succ, i64_w, i32_w]
                  rfl
                refine pure_ (i := 32) (N := some 55) (v := ?_) (a' := ?_) #[true, true, true, true, true, true, true, true, true, true, true, true, true, true, true, true, true, true, true, true, true, true, true, true, true, true, true, true, true, true, true, true, true, false, false, false, false, false, false] rfl rfl (any_of HT_.out (by kernel_rfl)) (fun _ _ _ h => h) (Or.inl ⟨by rfl, ?_⟩) ?_ ?_
                rotate_left
                · intro w'
                  go_simp
                  with_reducible rfl
                rotate_left
                · simp only [Act.put, List.setIfInBounds_toArray, List.set_cons_zero, List.set_cons_succ, i64_w, i32_w]
                  rfl
                refine take_ (i := 33) (N := some 56) (v := ?_) (a' := ?_) #[true, true, true, true, true, true, true, true, true, true, true, true, true, true, true, true, true, true, true, true, true, true, true, true, true, true, true, true, true, true, true, true, true, true, false, false, false, false, false] rfl rfl (take_ofW HT_.out HW_.out (by kernel_rfl)) (fun _ _ _ h => h) (Or.inl ⟨by rfl, ?_⟩) hHeld ?_ ?_
                rotate_left
                · rintro w' ⟨s0, s1, s2⟩
                  go_simp
                  with_reducible rfl
                rotate_left
                · simp only [Act.put, List.setIfInBounds_toArray, List.set_cons_zero, List.set_cons_succ, i64_w, i32_w]
                  rfl
                refine take_ (i := 35) (N := some 58) (v := ?_) (a' := ?_) #[true, true, true, true, true, true, true, true, true, true, true, true, true, true, true, true, true, true, true, true, true, true, true, true, true, true, true, true, true, true, true, true, true, true, false, true, false, false, false] rfl rfl (take_ofW HT_.out HW_.out (by kernel_rfl)) (fun _ _ _ h => h) (Or.inl ⟨by rfl, ?_⟩) hHeld ?_ ?_
                rotate_left
                · rintro w' ⟨s0, s1, s2⟩
                  go_simp
                  with_reducible rfl
                rotate_left
                · simp only [Act.put, List.setIfInBounds_toArray, List.set_cons_zero, List.set_cons_succ, i64_w, i32_w]
                  rfl
                refine one_ (i := 34) (N := some 57) #[true, true, true, true, true, true, true, true, true, true, true, true, true, true, true, true, true, true, true, true, true, true, true, true, true, true, true, true, true, true, true, true, true, true, true, true, false, false, false] rfl rfl (one_of HT_.out (by kernel_rfl)) (by decide) (fun K hK => ?_)
                refine goes_ Try.func17 (by kernel_rfl) rfl #[.agg #[.int .i64 a0_0, .int .i64 a0_1, .int .i64 a0_2]] (by rfl) rfl rfl (by (try simp only [List.map_toArray, List.map_cons, List.map_nil]); first | done | rfl | (simp only [List.length_drop, List.length_take]; rfl)) ?_
                with_reducible refine (geom_Blocks.calls a0_0 a0_1 a0_2 t181 _ A49.out).mono ?_
                rintro e w56 ⟨rfl, hb⟩
                refine ⟨_, rfl, ?_⟩
                have n0_ := Aside0.mk (blk_below (g := gb165) (o := .cells #[.int .i64 a0_0, .int .i64 a0_1, .int .i64 a0_2] 24 (0, 0)) (by (with_reducible repeat (first | refine blk_drewN ?_ _ | refine blk_drew ?_ | refine blk_alloc ?_ _)); exact BK165.out) hb)
                have n1_ := Aside0.mk (below_step (by repeat (first | (with_reducible first | exact HB.out | apply below_alloc | apply pw_below_drewN | apply below_drew1 | refine below_set ?_ GE165.out) | exact HB.out)) hb)
                clear BK165
                clear HB
                have BK165 := n0_
                have HB := n1_
                clear n0_ n1_
                (try clear hb)
                (try clear hb2)
                (try clear hk)
                (try clear hi)
                refine hK.out _ _ ⟨(blk_cell BK165.out 0).trans rfl, (blk_cell BK165.out 1).trans rfl, (blk_cell BK165.out 2).trans rfl⟩ (fun hHeld => ?_)
                clear hK K
                refine norm_ (a' := ?_) ?_ ?_
                rotate_left
                · show Act.put _ (some 57) _ = _
                  simp only [Act.put, List.setIfInBounds_toArray, List.set_cons_zero, List.set_cons_succ, i64_w, i32_w]
                  rfl
                refine one_ (i := 36) (N := some 59) #[true, true, true, true, true, true, true, true, true, true, true, true, true, true, true, true, true, true, true, true, true, true, true, true, true, true, true, true, true, true, true, true, true, true, true, true, true, false, false] rfl rfl (one_of HT_.out (by kernel_rfl)) (by decide) (fun K hK => ?_)
                refine goes_ Try.func21 (by kernel_rfl) rfl #[.agg #[.int .i64 a0_0, .int .i64 a0_1, .int .i64 a0_2]] (by rfl) rfl rfl (by (try simp only [List.map_toArray, List.map_cons, List.map_nil]); first | done | rfl | (simp only [List.length_drop, List.length_take]; rfl)) ?_
                with_reducible refine (lockgateref1_Blocks.calls a0_0 a0_1 a0_2 t182 _ A50.out).mono ?_
                rintro e w57 ⟨rfl, hb⟩
                refine ⟨_, rfl, ?_⟩
                have n0_ := Aside0.mk (blk_below (g := gb165) (o := .cells #[.int .i64 a0_0, .int .i64 a0_1, .int .i64 a0_2] 24 (0, 0)) (by (with_reducible repeat (first | refine blk_drewN ?_ _ | refine blk_drew ?_ | refine blk_alloc ?_ _)); exact BK165.out) hb)
                have n1_ := Aside0.mk (below_step (by repeat (first | (with_reducible first | exact HB.out | apply below_alloc | apply pw_below_drewN | apply below_drew1 | refine below_set ?_ GE165.out) | exact HB.out)) hb)
                clear BK165
                clear HB
                have BK165 := n0_
                have HB := n1_
                clear n0_ n1_
                (try clear hb)
                (try clear hb2)
                (try clear hk)
                (try clear hi)
                refine hK.out _ _ ⟨(blk_cell BK165.out 0).trans rfl, (blk_cell BK165.out 1).trans rfl, (blk_cell BK165.out 2).trans rfl⟩ (fun hHeld => ?_)
                clear hK K
                refine norm_ (a' := ?_) ?_ ?_
                rotate_left
                · show Act.put _ (some 59) _ = _
                  simp only [Act.put, List.setIfInBounds_toArray, List.set_cons_zero, List.set_cons_succ, i64_w, i32_w]
                  rfl
                refine pure_ (i := 37) (N := some 60) (v := ?_) (a' := ?_) #[true, true, true, true, true, true, true, true, true, true, true, true, true, true, true, true, true, true, true, true, true, true, true, true, true, true, true, true, true, true, true, true, true, true, true, true, true, true, false] rfl rfl (any_of HT_.out (by kernel_rfl)) (fun _ _ _ h => h) (Or.inl ⟨by rfl, ?_⟩) ?_ ?_
                rotate_left
                · intro w'
                  go_simp
                  with_reducible rfl
                rotate_left
                · simp only [Act.put, List.setIfInBounds_toArray, List.set_cons_zero, List.set_cons_succ, i64_w, i32_w]
                  rfl
                refine pure_ (i := 38) (N := some 61) (v := ?_) (a' := ?_) #[true, true, true, true, true, true, true, true, true, true, true, true, true, true, true, true, true, true, true, true, true, true, true, true, true, true, true, true, true, true, true, true, true, true, true, true, true, true, true] rfl rfl (any_of HT_.out (by kernel_rfl)) (fun _ _ _ h => h) (Or.inl ⟨by rfl, ?_⟩) ?_ ?_
                rotate_left
                · intro w'
                  go_simp
                  with_reducible rfl
                rotate_left
                · simp only [Act.put, List.setIfInBounds_toArray, List.set_cons_zero, List.set_cons_succ, i64_w, i32_w]
                  rfl
                refine done_ (done_of HT_.out (by kernel_rfl)) ?_
                try go_wp2
                go_meet
                case rel => exact ⟨_, ((t181 != t182)), (by first | rfl | (simp; done) | (simp [*]; done)), H', ⟨by first | omega | exact Nat.le_refl _⟩, ⟨by (with_reducible repeat (first | refine blk_drewN ?_ _ | refine blk_drew ?_ | refine blk_alloc ?_ _)); exact BK165.out⟩, ⟨by repeat (first | (with_reducible first | exact HB.out | apply below_alloc | apply pw_below_drewN | apply below_drew1 | refine below_set ?_ GE165.out) | exact HB.out)⟩⟩
              · rw [if_neg c48] at H
                have c48b0 : (t179 == t180) = false := beq_eq_false_iff_ne.mpr c48
                have c48b1 : (t179 != t180) = true := bne_iff_ne.mpr c48
                exact (pruned hT.out H).elim
            · rw [if_neg c45] at H
              have c45b0 : (t177 == t178) = false := beq_eq_false_iff_ne.mpr c45
              have c45b1 : (t177 != t178) = true := bne_iff_ne.mpr c45
              exact (pruned hT.out H).elim
          · rw [if_neg c42] at H
            have c42b0 : (t176 == 1) = false := beq_eq_false_iff_ne.mpr c42
            have c42b1 : (t176 != 1) = true := bne_iff_ne.mpr c42
            exact (pruned hT.out H).elim
    · replace c13 := Bool.eq_false_iff.mpr c13
      subst c13
      have H1 : (lockgatelaw3_GeomTells.j0 k a1 true a0_0 a0_1 a0_2) = some r := by rw [if_neg (show ¬ (false = true) by decide)] at H; exact H
      clear H
      have H := H1
      clear H1
      exact (pruned hT.out H).elim
  case rest =>
    clear HC6
    try clear c1
    try clear p2
    try clear c4
    try clear c10
    try clear c13
    try clear c42
    try clear c42b0
    try clear c42b1
    obtain ⟨kq, x61_5, rfl, HA, HJ5, BK165, HB⟩ := hcut
    cases kq with
    | zero => exact absurd HA.out (by simp [lockgatelaw3_GeomTells.j0])
    | succ kj5 =>
      have H := HA.out
      clear HA
      simp only [lockgatelaw3_GeomTells.j0] at H
      by_cases c68 : x61_5 = true
      · subst c68
        have H1 : (some false) = some r := by rw [if_pos rfl] at H; exact H
        clear H
        have H := H1
        clear H1
        obtain rfl := Option.some.inj H
        go_wp2
        go_ret
        exact ⟨by first | rfl | (simp [errW_none, errW_some] <;> rfl) | (simp [*, errW_none, errW_some] <;> rfl), by repeat (first | (with_reducible first | exact HB.out | apply below_alloc | apply pw_below_drewN | apply below_drew1 | refine below_set ?_ GE165.out) | exact HB.out)⟩
      · replace c68 := Bool.eq_false_iff.mpr c68
        subst c68
        have H1 : ((geom_Head.f kj5 a0_0 a0_1 a0_2 a1).bind fun bt183 => ((lockgateref1_Head.f a0_0 a0_1 a0_2 a1).bind fun bt185 => (if bt183.1 = bt185.1 then (lockgatelaw3_GeomTells.j1 kj5 a1 (bt183.2 != bt185.2) a0_0 a0_1 a0_2) else (lockgatelaw3_GeomTells.j1 kj5 a1 true a0_0 a0_1 a0_2)))) = some r := by rw [if_neg (show ¬ (false = true) by decide)] at H; exact H
        clear H
        have H := H1
        clear H1
        replace H := Option.bind_eq_some_iff.mp H
        obtain ⟨⟨t183, t184⟩, A690, H⟩ := H
        replace H : ((lockgateref1_Head.f a0_0 a0_1 a0_2 a1).bind fun bt185 => (if t183 = bt185.1 then (lockgatelaw3_GeomTells.j1 kj5 a1 (t184 != bt185.2) a0_0 a0_1 a0_2) else (lockgatelaw3_GeomTells.j1 kj5 a1 true a0_0 a0_1 a0_2))) = some r := H
        have A69 := Aside0.mk A690
        clear A690
        replace H := Option.bind_eq_some_iff.mp H
        obtain ⟨⟨t185, t186⟩, A700, H⟩ := H
        replace H : (if t183 = t185 then (lockgatelaw3_GeomTells.j1 kj5 a1 (t184 != t186) a0_0 a0_1 a0_2) else (lockgatelaw3_GeomTells.j1 kj5 a1 true a0_0 a0_1 a0_2)) = some r := H
        have A70 := Aside0.mk A700
        clear A700
        have HC71 := Aside0.mk H
        clear H
        have hcz72_0 : wc.cell? ⟨gb165, 0, none⟩ = some (.int .i64 a0_0) := (blk_cell BK165.out 0).trans rfl
        have hcz72_1 : wc.cell? ⟨gb165, 1, none⟩ = some (.int .i64 a0_1) := (blk_cell BK165.out 1).trans rfl
        have hcz72_2 : wc.cell? ⟨gb165, 2, none⟩ = some (.int .i64 a0_2) := (blk_cell BK165.out 2).trans rfl
        have hfz72_0 := blk_frozen BK165.out 0
        have hfz72_1 := blk_frozen BK165.out 1
        have hfz72_2 := blk_frozen BK165.out 2
        go_upto_region 8 with (first | ((with_reducible refine gate_callee (f := 12) rfl ?_); refine goesL_ (some 65) rfl rfl Try.func12 (by kernel_rfl) rfl #[.agg #[.int .i64 a0_0, .int .i64 a0_1, .int .i64 a0_2], .int .i64 a1] rfl (by (try simp only [List.map_toArray, List.map_cons, List.map_nil]); first | done | rfl | (simp only [List.length_drop, List.length_take]; rfl)) ?_; (with_reducible refine (geom_Head.calls kj5 a0_0 a0_1 a0_2 a1 t183 t184 _ A69.out).mono ?_); rintro e w73 ⟨rfl, hb⟩; refine ⟨_, rfl, ?_⟩; have n0_ := Aside0.mk (blk_below (g := gb165) (o := .cells #[.int .i64 a0_0, .int .i64 a0_1, .int .i64 a0_2] 24 (0, 0)) (by (with_reducible repeat (first | refine blk_drewN ?_ _ | refine blk_drew ?_ | refine blk_alloc ?_ _)); exact BK165.out) hb); have n1_ := Aside0.mk (below_step (by repeat (first | (with_reducible first | exact HB.out | apply below_alloc | apply pw_below_drewN | apply below_drew1 | refine below_set ?_ GE165.out) | exact HB.out)) hb); clear BK165; clear HB; have BK165 := n0_; have HB := n1_; clear n0_ n1_; (try clear hb); (try clear hb2); (try clear hk); (try clear hi); have hcz74_0 : w73.cell? ⟨gb165, 0, none⟩ = some (.int .i64 a0_0) := (blk_cell BK165.out 0).trans rfl; have hcz74_1 : w73.cell? ⟨gb165, 1, none⟩ = some (.int .i64 a0_1) := (blk_cell BK165.out 1).trans rfl; have hcz74_2 : w73.cell? ⟨gb165, 2, none⟩ = some (.int .i64 a0_2) := (blk_cell BK165.out 2).trans rfl; have hfz74_0 := blk_frozen BK165.out 0; have hfz74_1 := blk_frozen BK165.out 1; have hfz74_2 := blk_frozen BK165.out 2) | ((with_reducible refine gate_callee (f := 22) rfl ?_); refine goesL_ (some 71) rfl rfl Try.func22 (by kernel_rfl) rfl #[.agg #[.int .i64 a0_0, .int .i64 a0_1, .int .i64 a0_2], .int .i64 a1] rfl (by (try simp only [List.map_toArray, List.map_cons, List.map_nil]); first | done | rfl | (simp only [List.length_drop, List.length_take]; rfl)) ?_; (with_reducible refine (lockgateref1_Head.calls a0_0 a0_1 a0_2 a1 t185 t186 _ A70.out).mono ?_); rintro e w75 ⟨rfl, hb⟩; refine ⟨_, rfl, ?_⟩; have n0_ := Aside0.mk (blk_below (g := gb165) (o := .cells #[.int .i64 a0_0, .int .i64 a0_1, .int .i64 a0_2] 24 (0, 0)) (by (with_reducible repeat (first | refine blk_drewN ?_ _ | refine blk_drew ?_ | refine blk_alloc ?_ _)); exact BK165.out) hb); have n1_ := Aside0.mk (below_step (by repeat (first | (with_reducible first | exact HB.out | apply below_alloc | apply pw_below_drewN | apply below_drew1 | refine below_set ?_ GE165.out) | exact HB.out)) hb); clear BK165; clear HB; have BK165 := n0_; have HB := n1_; clear n0_ n1_; (try clear hb); (try clear hb2); (try clear hk); (try clear hi)))
        (try simp only [Act.put, List.setIfInBounds_toArray, List.set_cons_zero, List.set_cons_succ])
        go_cut [81] (fun v81 wc => ∃ (kq : Nat) (x81_70 : Bool), v81 = .bool x81_70 ∧ Aside0 (lockgatelaw3_GeomTells.j1 kq a1 x81_70 a0_0 a0_1 a0_2 = some r) ∧ Aside0 (kq ≤ kj5) ∧ Aside0 (wc.heap[gb165]? = some (.cells #[.int .i64 a0_0, .int .i64 a0_1, .int .i64 a0_2] 24 (0, 0))) ∧ Aside0 (Below w.heap.size w wc))
        case first =>
          have H := HC71.out
          clear HC71
          by_cases c76 : t183 = t185
          · rw [if_pos c76] at H
            have c76b0 : (t183 == t185) = true := beq_iff_eq.mpr c76
            have c76b1 : (t183 != t185) = false := bne_eq_false_iff_eq.mpr c76
            clear c76
            (first | rw [c76b0] | (simp only [i64_w, i32_w]; rw [c76b0]) | skip)
            have H' := Aside0.mk H
            clear H
            go_wp2
            go_meet
            case rel => exact ⟨_, ((t184 != t186)), (by first | rfl | (simp; done) | (simp [*]; done)), H', ⟨by have := HJ5.out; first | omega | exact Nat.le_refl _⟩, ⟨by (with_reducible repeat (first | refine blk_drewN ?_ _ | refine blk_drew ?_ | refine blk_alloc ?_ _)); exact BK165.out⟩, ⟨by repeat (first | (with_reducible first | exact HB.out | apply below_alloc | apply pw_below_drewN | apply below_drew1 | refine below_set ?_ GE165.out) | exact HB.out)⟩⟩
          · rw [if_neg c76] at H
            have c76b0 : (t183 == t185) = false := beq_eq_false_iff_ne.mpr c76
            have c76b1 : (t183 != t185) = true := bne_iff_ne.mpr c76
            (first | rw [c76b0] | (simp only [i64_w, i32_w]; rw [c76b0]) | skip)
            have H' := Aside0.mk H
            clear H
            go_wp2
            go_meet
            case rel => exact ⟨_, (true), (by first | rfl | (simp; done) | (simp [*]; done)), H', ⟨by have := HJ5.out; first | omega | exact Nat.le_refl _⟩, ⟨by (with_reducible repeat (first | refine blk_drewN ?_ _ | refine blk_drew ?_ | refine blk_alloc ?_ _)); exact BK165.out⟩, ⟨by repeat (first | (with_reducible first | exact HB.out | apply below_alloc | apply pw_below_drewN | apply below_drew1 | refine below_set ?_ GE165.out) | exact HB.out)⟩⟩
        case rest =>
          clear HC71
          try clear c1
          try clear c2
          try clear p2
          try clear c4
          try clear c6
          try clear c7
          try clear c10
          try clear c12
          try clear c13
          try clear c22
          try clear c42
          try clear c42b0
          try clear c42b1
          try clear c68
          try clear c76
          try clear c76b0
          try clear c76b1
          try clear hcz72_0
          try clear hcz72_1
          try clear hcz72_2
          try clear hcz74_0
          try clear hcz74_1
          try clear hcz74_2
          try clear hfz72_0
          try clear hfz72_1
          try clear hfz72_2
          try clear hfz74_0
          try clear hfz74_1
          try clear hfz74_2
          try clear p2
          obtain ⟨kq, x81_70, rfl, HA, HJ70, BK165, HB⟩ := hcut
          cases kq with
          | zero => exact absurd HA.out (by simp [lockgatelaw3_GeomTells.j1])
          | succ kj70 =>
            have H := HA.out
            clear HA
            simp only [lockgatelaw3_GeomTells.j1] at H
            by_cases c77 : x81_70 = true
            · subst c77
              have H1 : (some false) = some r := by rw [if_pos rfl] at H; exact H
              clear H
              have H := H1
              clear H1
              obtain rfl := Option.some.inj H
              go_wp2
              go_ret
              exact ⟨by first | rfl | (simp [errW_none, errW_some] <;> rfl) | (simp [*, errW_none, errW_some] <;> rfl), by repeat (first | (with_reducible first | exact HB.out | apply below_alloc | apply pw_below_drewN | apply below_drew1 | refine below_set ?_ GE165.out) | exact HB.out)⟩
            · replace c77 := Bool.eq_false_iff.mpr c77
              subst c77
              have H1 : ((geom_InodeAt.f kj70 a0_0 a0_1 a0_2 a1).bind fun bt187 => ((lockgateref1_InodeAt.f a0_0 a0_1 a0_2 a1).bind fun bt190 => (if bt187.1 = bt190.1 then (if bt187.2.1 = bt190.2.1 then (lockgatelaw3_GeomTells.j2 kj70 a1 (bt187.2.2 != bt190.2.2) a0_0 a0_1 a0_2) else (lockgatelaw3_GeomTells.j2 kj70 a1 true a0_0 a0_1 a0_2)) else (lockgatelaw3_GeomTells.j2 kj70 a1 true a0_0 a0_1 a0_2)))) = some r := by rw [if_neg (show ¬ (false = true) by decide)] at H; exact H
              clear H
              have H := H1
              clear H1
              replace H := Option.bind_eq_some_iff.mp H
              obtain ⟨⟨t187, t188, t189⟩, A780, H⟩ := H
              replace H : ((lockgateref1_InodeAt.f a0_0 a0_1 a0_2 a1).bind fun bt190 => (if t187 = bt190.1 then (if t188 = bt190.2.1 then (lockgatelaw3_GeomTells.j2 kj70 a1 (t189 != bt190.2.2) a0_0 a0_1 a0_2) else (lockgatelaw3_GeomTells.j2 kj70 a1 true a0_0 a0_1 a0_2)) else (lockgatelaw3_GeomTells.j2 kj70 a1 true a0_0 a0_1 a0_2))) = some r := H
              have A78 := Aside0.mk A780
              clear A780
              replace H := Option.bind_eq_some_iff.mp H
              obtain ⟨⟨t190, t191, t192⟩, A790, H⟩ := H
              replace H : (if t187 = t190 then (if t188 = t191 then (lockgatelaw3_GeomTells.j2 kj70 a1 (t189 != t192) a0_0 a0_1 a0_2) else (lockgatelaw3_GeomTells.j2 kj70 a1 true a0_0 a0_1 a0_2)) else (lockgatelaw3_GeomTells.j2 kj70 a1 true a0_0 a0_1 a0_2)) = some r := H
              have A79 := Aside0.mk A790
              clear A790
              have HC80 := Aside0.mk H
              clear H
              have hcz81_0 : wc.cell? ⟨gb165, 0, none⟩ = some (.int .i64 a0_0) := (blk_cell BK165.out 0).trans rfl
              have hcz81_1 : wc.cell? ⟨gb165, 1, none⟩ = some (.int .i64 a0_1) := (blk_cell BK165.out 1).trans rfl
              have hcz81_2 : wc.cell? ⟨gb165, 2, none⟩ = some (.int .i64 a0_2) := (blk_cell BK165.out 2).trans rfl
              have hfz81_0 := blk_frozen BK165.out 0
              have hfz81_1 := blk_frozen BK165.out 1
              have hfz81_2 := blk_frozen BK165.out 2
              go_upto_region 12 with (first | ((with_reducible refine gate_callee (f := 13) rfl ?_); refine goesL_ (some 85) rfl rfl Try.func13 (by kernel_rfl) rfl #[.agg #[.int .i64 a0_0, .int .i64 a0_1, .int .i64 a0_2], .int .i64 a1] rfl (by (try simp only [List.map_toArray, List.map_cons, List.map_nil]); first | done | rfl | (simp only [List.length_drop, List.length_take]; rfl)) ?_; (with_reducible refine (geom_InodeAt.calls kj70 a0_0 a0_1 a0_2 a1 t187 t188 t189 _ A78.out).mono ?_); rintro e w82 ⟨rfl, hb⟩; refine ⟨_, rfl, ?_⟩; have n0_ := Aside0.mk (blk_below (g := gb165) (o := .cells #[.int .i64 a0_0, .int .i64 a0_1, .int .i64 a0_2] 24 (0, 0)) (by (with_reducible repeat (first | refine blk_drewN ?_ _ | refine blk_drew ?_ | refine blk_alloc ?_ _)); exact BK165.out) hb); have n1_ := Aside0.mk (below_step (by repeat (first | (with_reducible first | exact HB.out | apply below_alloc | apply pw_below_drewN | apply below_drew1 | refine below_set ?_ GE165.out) | exact HB.out)) hb); clear BK165; clear HB; have BK165 := n0_; have HB := n1_; clear n0_ n1_; (try clear hb); (try clear hb2); (try clear hk); (try clear hi); have hcz83_0 : w82.cell? ⟨gb165, 0, none⟩ = some (.int .i64 a0_0) := (blk_cell BK165.out 0).trans rfl; have hcz83_1 : w82.cell? ⟨gb165, 1, none⟩ = some (.int .i64 a0_1) := (blk_cell BK165.out 1).trans rfl; have hcz83_2 : w82.cell? ⟨gb165, 2, none⟩ = some (.int .i64 a0_2) := (blk_cell BK165.out 2).trans rfl; have hfz83_0 := blk_frozen BK165.out 0; have hfz83_1 := blk_frozen BK165.out 1; have hfz83_2 := blk_frozen BK165.out 2) | ((with_reducible refine gate_callee (f := 23) rfl ?_); refine goesL_ (some 92) rfl rfl Try.func23 (by kernel_rfl) rfl #[.agg #[.int .i64 a0_0, .int .i64 a0_1, .int .i64 a0_2], .int .i64 a1] rfl (by (try simp only [List.map_toArray, List.map_cons, List.map_nil]); first | done | rfl | (simp only [List.length_drop, List.length_take]; rfl)) ?_; (with_reducible refine (lockgateref1_InodeAt.calls a0_0 a0_1 a0_2 a1 t190 t191 t192 _ A79.out).mono ?_); rintro e w84 ⟨rfl, hb⟩; refine ⟨_, rfl, ?_⟩; have n0_ := Aside0.mk (blk_below (g := gb165) (o := .cells #[.int .i64 a0_0, .int .i64 a0_1, .int .i64 a0_2] 24 (0, 0)) (by (with_reducible repeat (first | refine blk_drewN ?_ _ | refine blk_drew ?_ | refine blk_alloc ?_ _)); exact BK165.out) hb); have n1_ := Aside0.mk (below_step (by repeat (first | (with_reducible first | exact HB.out | apply below_alloc | apply pw_below_drewN | apply below_drew1 | refine below_set ?_ GE165.out) | exact HB.out)) hb); clear BK165; clear HB; have BK165 := n0_; have HB := n1_; clear n0_ n1_; (try clear hb); (try clear hb2); (try clear hk); (try clear hi)))
              (try simp only [Act.put, List.setIfInBounds_toArray, List.set_cons_zero, List.set_cons_succ])
              go_cut [108] (fun v108 wc => ∃ (kq : Nat) (x108_79 : Bool), v108 = .bool x108_79 ∧ Aside0 (lockgatelaw3_GeomTells.j2 kq a1 x108_79 a0_0 a0_1 a0_2 = some r) ∧ Aside0 (kq ≤ kj70) ∧ Aside0 (wc.heap[gb165]? = some (.cells #[.int .i64 a0_0, .int .i64 a0_1, .int .i64 a0_2] 24 (0, 0))) ∧ Aside0 (Below w.heap.size w wc))
              case first =>
                have H := HC80.out
                clear HC80
                by_cases c85 : t187 = t190
                · rw [if_pos c85] at H
                  have c85b0 : (t187 == t190) = true := beq_iff_eq.mpr c85
                  have c85b1 : (t187 != t190) = false := bne_eq_false_iff_eq.mpr c85
                  clear c85
                  (first | rw [c85b0] | (simp only [i64_w, i32_w]; rw [c85b0]) | skip)
                  by_cases c86 : t188 = t191
                  · rw [if_pos c86] at H
                    have c86b0 : (t188 == t191) = true := beq_iff_eq.mpr c86
                    have c86b1 : (t188 != t191) = false := bne_eq_false_iff_eq.mpr c86
                    clear c86
                    have H' := Aside0.mk H
                    clear H
                    go_wp2
                    go_meet
                    case rel => exact ⟨_, ((t189 != t192)), (by first | rfl | (simp; done) | (simp [*]; done)), H', ⟨by have := HJ5.out; have := HJ70.out; first | omega | exact Nat.le_refl _⟩, ⟨by (with_reducible repeat (first | refine blk_drewN ?_ _ | refine blk_drew ?_ | refine blk_alloc ?_ _)); exact BK165.out⟩, ⟨by repeat (first | (with_reducible first | exact HB.out | apply below_alloc | apply pw_below_drewN | apply below_drew1 | refine below_set ?_ GE165.out) | exact HB.out)⟩⟩
                  · rw [if_neg c86] at H
                    have c86b0 : (t188 == t191) = false := beq_eq_false_iff_ne.mpr c86
                    have c86b1 : (t188 != t191) = true := bne_iff_ne.mpr c86
                    have H' := Aside0.mk H
                    clear H
                    go_wp2
                    go_meet
                    case rel => exact ⟨_, (true), (by first | rfl | (simp; done) | (simp [*]; done)), H', ⟨by have := HJ5.out; have := HJ70.out; first | omega | exact Nat.le_refl _⟩, ⟨by (with_reducible repeat (first | refine blk_drewN ?_ _ | refine blk_drew ?_ | refine blk_alloc ?_ _)); exact BK165.out⟩, ⟨by repeat (first | (with_reducible first | exact HB.out | apply below_alloc | apply pw_below_drewN | apply below_drew1 | refine below_set ?_ GE165.out) | exact HB.out)⟩⟩
                · rw [if_neg c85] at H
                  have c85b0 : (t187 == t190) = false := beq_eq_false_iff_ne.mpr c85
                  have c85b1 : (t187 != t190) = true := bne_iff_ne.mpr c85
                  (first | rw [c85b0] | (simp only [i64_w, i32_w]; rw [c85b0]) | skip)
                  have H' := Aside0.mk H
                  clear H
                  go_wp2
                  go_meet
                  case rel => exact ⟨_, (true), (by first | rfl | (simp; done) | (simp [*]; done)), H', ⟨by have := HJ5.out; have := HJ70.out; first | omega | exact Nat.le_refl _⟩, ⟨by (with_reducible repeat (first | refine blk_drewN ?_ _ | refine blk_drew ?_ | refine blk_alloc ?_ _)); exact BK165.out⟩, ⟨by repeat (first | (with_reducible first | exact HB.out | apply below_alloc | apply pw_below_drewN | apply below_drew1 | refine below_set ?_ GE165.out) | exact HB.out)⟩⟩
              case rest =>
                clear HC80
                try clear c1
                try clear c2
                try clear p2
                try clear c4
                try clear c6
                try clear c7
                try clear c8
                try clear c10
                try clear c12
                try clear c13
                try clear c22
                try clear c23
                try clear c42
                try clear c42b0
                try clear c42b1
                try clear c68
                try clear c76
                try clear c76b0
                try clear c76b1
                try clear c77
                try clear c85
                try clear c85b0
                try clear c85b1
                try clear c86
                try clear c86b0
                try clear c86b1
                try clear hcz72_0
                try clear hcz72_1
                try clear hcz72_2
                try clear hcz74_0
                try clear hcz74_1
                try clear hcz74_2
                try clear hcz81_0
                try clear hcz81_1
                try clear hcz81_2
                try clear hcz83_0
                try clear hcz83_1
                try clear hcz83_2
                try clear hfz72_0
                try clear hfz72_1
                try clear hfz72_2
                try clear hfz74_0
                try clear hfz74_1
                try clear hfz74_2
                try clear hfz81_0
                try clear hfz81_1
                try clear hfz81_2
                try clear hfz83_0
                try clear hfz83_1
                try clear hfz83_2
                try clear p2
                obtain ⟨kq, x108_79, rfl, HA, HJ79, BK165, HB⟩ := hcut
                cases kq with
                | zero => exact absurd HA.out (by simp [lockgatelaw3_GeomTells.j2])
                | succ kj79 =>
                  have H := HA.out
                  clear HA
                  simp only [lockgatelaw3_GeomTells.j2] at H
                  by_cases c87 : x108_79 = true
                  · subst c87
                    have H1 : (some false) = some r := by rw [if_pos rfl] at H; exact H
                    clear H
                    have H := H1
                    clear H1
                    obtain rfl := Option.some.inj H
                    go_wp2
                    go_ret
                    exact ⟨by first | rfl | (simp [errW_none, errW_some] <;> rfl) | (simp [*, errW_none, errW_some] <;> rfl), by repeat (first | (with_reducible first | exact HB.out | apply below_alloc | apply pw_below_drewN | apply below_drew1 | refine below_set ?_ GE165.out) | exact HB.out)⟩
                  · replace c87 := Bool.eq_false_iff.mpr c87
                    subst c87
                    have H1 : ((geom_Data.f kj79 a0_0 a0_1 a0_2 a1).bind fun bt193 => ((lockgateref1_Data.f a0_0 a0_1 a0_2 a1).bind fun bt195 => (if bt193.1 = bt195.1 then (lockgatelaw3_GeomTells.j3 kj79 a1 (bt193.2 != bt195.2) a0_0 a0_1 a0_2) else (lockgatelaw3_GeomTells.j3 kj79 a1 true a0_0 a0_1 a0_2)))) = some r := by rw [if_neg (show ¬ (false = true) by decide)] at H; exact H
                    clear H
                    have H := H1
                    clear H1
                    replace H := Option.bind_eq_some_iff.mp H
                    obtain ⟨⟨t193, t194⟩, A880, H⟩ := H
                    replace H : ((lockgateref1_Data.f a0_0 a0_1 a0_2 a1).bind fun bt195 => (if t193 = bt195.1 then (lockgatelaw3_GeomTells.j3 kj79 a1 (t194 != bt195.2) a0_0 a0_1 a0_2) else (lockgatelaw3_GeomTells.j3 kj79 a1 true a0_0 a0_1 a0_2))) = some r := H
                    have A88 := Aside0.mk A880
                    clear A880
                    replace H := Option.bind_eq_some_iff.mp H
                    obtain ⟨⟨t195, t196⟩, A890, H⟩ := H
                    replace H : (if t193 = t195 then (lockgatelaw3_GeomTells.j3 kj79 a1 (t194 != t196) a0_0 a0_1 a0_2) else (lockgatelaw3_GeomTells.j3 kj79 a1 true a0_0 a0_1 a0_2)) = some r := H
                    have A89 := Aside0.mk A890
                    clear A890
                    have HC90 := Aside0.mk H
                    clear H
                    have hcz91_0 : wc.cell? ⟨gb165, 0, none⟩ = some (.int .i64 a0_0) := (blk_cell BK165.out 0).trans rfl
                    have hcz91_1 : wc.cell? ⟨gb165, 1, none⟩ = some (.int .i64 a0_1) := (blk_cell BK165.out 1).trans rfl
                    have hcz91_2 : wc.cell? ⟨gb165, 2, none⟩ = some (.int .i64 a0_2) := (blk_cell BK165.out 2).trans rfl
                    have hfz91_0 := blk_frozen BK165.out 0
                    have hfz91_1 := blk_frozen BK165.out 1
                    have hfz91_2 := blk_frozen BK165.out 2
                    go_upto_region 16 with (first | ((with_reducible refine gate_callee (f := 14) rfl ?_); refine goesL_ (some 112) rfl rfl Try.func14 (by kernel_rfl) rfl #[.agg #[.int .i64 a0_0, .int .i64 a0_1, .int .i64 a0_2], .int .i64 a1] rfl (by (try simp only [List.map_toArray, List.map_cons, List.map_nil]); first | done | rfl | (simp only [List.length_drop, List.length_take]; rfl)) ?_; (with_reducible refine (geom_Data.calls kj79 a0_0 a0_1 a0_2 a1 t193 t194 _ A88.out).mono ?_); rintro e w92 ⟨rfl, hb⟩; refine ⟨_, rfl, ?_⟩; have n0_ := Aside0.mk (blk_below (g := gb165) (o := .cells #[.int .i64 a0_0, .int .i64 a0_1, .int .i64 a0_2] 24 (0, 0)) (by (with_reducible repeat (first | refine blk_drewN ?_ _ | refine blk_drew ?_ | refine blk_alloc ?_ _)); exact BK165.out) hb); have n1_ := Aside0.mk (below_step (by repeat (first | (with_reducible first | exact HB.out | apply below_alloc | apply pw_below_drewN | apply below_drew1 | refine below_set ?_ GE165.out) | exact HB.out)) hb); clear BK165; clear HB; have BK165 := n0_; have HB := n1_; clear n0_ n1_; (try clear hb); (try clear hb2); (try clear hk); (try clear hi); have hcz93_0 : w92.cell? ⟨gb165, 0, none⟩ = some (.int .i64 a0_0) := (blk_cell BK165.out 0).trans rfl; have hcz93_1 : w92.cell? ⟨gb165, 1, none⟩ = some (.int .i64 a0_1) := (blk_cell BK165.out 1).trans rfl; have hcz93_2 : w92.cell? ⟨gb165, 2, none⟩ = some (.int .i64 a0_2) := (blk_cell BK165.out 2).trans rfl; have hfz93_0 := blk_frozen BK165.out 0; have hfz93_1 := blk_frozen BK165.out 1; have hfz93_2 := blk_frozen BK165.out 2) | ((with_reducible refine gate_callee (f := 24) rfl ?_); refine goesL_ (some 118) rfl rfl Try.func24 (by kernel_rfl) rfl #[.agg #[.int .i64 a0_0, .int .i64 a0_1, .int .i64 a0_2], .int .i64 a1] rfl (by (try simp only [List.map_toArray, List.map_cons, List.map_nil]); first | done | rfl | (simp only [List.length_drop, List.length_take]; rfl)) ?_; (with_reducible refine (lockgateref1_Data.calls a0_0 a0_1 a0_2 a1 t195 t196 _ A89.out).mono ?_); rintro e w94 ⟨rfl, hb⟩; refine ⟨_, rfl, ?_⟩; have n0_ := Aside0.mk (blk_below (g := gb165) (o := .cells #[.int .i64 a0_0, .int .i64 a0_1, .int .i64 a0_2] 24 (0, 0)) (by (with_reducible repeat (first | refine blk_drewN ?_ _ | refine blk_drew ?_ | refine blk_alloc ?_ _)); exact BK165.out) hb); have n1_ := Aside0.mk (below_step (by repeat (first | (with_reducible first | exact HB.out | apply below_alloc | apply pw_below_drewN | apply below_drew1 | refine below_set ?_ GE165.out) | exact HB.out)) hb); clear BK165; clear HB; have BK165 := n0_; have HB := n1_; clear n0_ n1_; (try clear hb); (try clear hb2); (try clear hk); (try clear hi)))
                    (try simp only [Act.put, List.setIfInBounds_toArray, List.set_cons_zero, List.set_cons_succ])
                    go_cut [128] (fun v128 wc => ∃ (kq : Nat) (x128_89 : Bool), v128 = .bool x128_89 ∧ Aside0 (lockgatelaw3_GeomTells.j3 kq a1 x128_89 a0_0 a0_1 a0_2 = some r) ∧ Aside0 (kq ≤ kj79) ∧ Aside0 (wc.heap[gb165]? = some (.cells #[.int .i64 a0_0, .int .i64 a0_1, .int .i64 a0_2] 24 (0, 0))) ∧ Aside0 (Below w.heap.size w wc))
                    case first =>
                      have H := HC90.out
                      clear HC90
                      by_cases c95 : t193 = t195
                      · rw [if_pos c95] at H
                        have c95b0 : (t193 == t195) = true := beq_iff_eq.mpr c95
                        have c95b1 : (t193 != t195) = false := bne_eq_false_iff_eq.mpr c95
                        clear c95
                        (first | rw [c95b0] | (simp only [i64_w, i32_w]; rw [c95b0]) | skip)
                        have H' := Aside0.mk H
                        clear H
                        go_wp2
                        go_meet
                        case rel => exact ⟨_, ((t194 != t196)), (by first | rfl | (simp; done) | (simp [*]; done)), H', ⟨by have := HJ5.out; have := HJ70.out; have := HJ79.out; first | omega | exact Nat.le_refl _⟩, ⟨by (with_reducible repeat (first | refine blk_drewN ?_ _ | refine blk_drew ?_ | refine blk_alloc ?_ _)); exact BK165.out⟩, ⟨by repeat (first | (with_reducible first | exact HB.out | apply below_alloc | apply pw_below_drewN | apply below_drew1 | refine below_set ?_ GE165.out) | exact HB.out)⟩⟩
                      · rw [if_neg c95] at H
                        have c95b0 : (t193 == t195) = false := beq_eq_false_iff_ne.mpr c95
                        have c95b1 : (t193 != t195) = true := bne_iff_ne.mpr c95
                        (first | rw [c95b0] | (simp only [i64_w, i32_w]; rw [c95b0]) | skip)
                        have H' := Aside0.mk H
                        clear H
                        go_wp2
                        go_meet
                        case rel => exact ⟨_, (true), (by first | rfl | (simp; done) | (simp [*]; done)), H', ⟨by have := HJ5.out; have := HJ70.out; have := HJ79.out; first | omega | exact Nat.le_refl _⟩, ⟨by (with_reducible repeat (first | refine blk_drewN ?_ _ | refine blk_drew ?_ | refine blk_alloc ?_ _)); exact BK165.out⟩, ⟨by repeat (first | (with_reducible first | exact HB.out | apply below_alloc | apply pw_below_drewN | apply below_drew1 | refine below_set ?_ GE165.out) | exact HB.out)⟩⟩
                    case rest =>
                      clear HC90
                      try clear c1
                      try clear c2
                      try clear p2
                      try clear c4
                      try clear c6
                      try clear c7
                      try clear c8
                      try clear c9
                      try clear c10
                      try clear c12
                      try clear c13
                      try clear c14
                      try clear c22
                      try clear c23
                      try clear c24
                      try clear c42
                      try clear c42b0
                      try clear c42b1
                      try clear c68
                      try clear c76
                      try clear c76b0
                      try clear c76b1
                      try clear c77
                      try clear c85
                      try clear c85b0
                      try clear c85b1
                      try clear c86
                      try clear c86b0
                      try clear c86b1
                      try clear c87
                      try clear c95
                      try clear c95b0
                      try clear c95b1
                      try clear hcz72_0
                      try clear hcz72_1
                      try clear hcz72_2
                      try clear hcz74_0
                      try clear hcz74_1
                      try clear hcz74_2
                      try clear hcz81_0
                      try clear hcz81_1
                      try clear hcz81_2
                      try clear hcz83_0
                      try clear hcz83_1
                      try clear hcz83_2
                      try clear hcz91_0
                      try clear hcz91_1
                      try clear hcz91_2
                      try clear hcz93_0
                      try clear hcz93_1
                      try clear hcz93_2
                      try clear hfz72_0
                      try clear hfz72_1
                      try clear hfz72_2
                      try clear hfz74_0
                      try clear hfz74_1
                      try clear hfz74_2
                      try clear hfz81_0
                      try clear hfz81_1
                      try clear hfz81_2
                      try clear hfz83_0
                      try clear hfz83_1
                      try clear hfz83_2
                      try clear hfz91_0
                      try clear hfz91_1
                      try clear hfz91_2
                      try clear hfz93_0
                      try clear hfz93_1
                      try clear hfz93_2
                      try clear p2
                      obtain ⟨kq, x128_89, rfl, HA, HJ89, BK165, HB⟩ := hcut
                      cases kq with
                      | zero => exact absurd HA.out (by simp [lockgatelaw3_GeomTells.j3])
                      | succ kj89 =>
                        have H := HA.out
                        clear HA
                        simp only [lockgatelaw3_GeomTells.j3] at H
                        by_cases c96 : x128_89 = true
                        · subst c96
                          have H1 : (some false) = some r := by rw [if_pos rfl] at H; exact H
                          clear H
                          have H := H1
                          clear H1
                          obtain rfl := Option.some.inj H
                          go_wp2
                          go_ret
                          exact ⟨by first | rfl | (simp [errW_none, errW_some] <;> rfl) | (simp [*, errW_none, errW_some] <;> rfl), by repeat (first | (with_reducible first | exact HB.out | apply below_alloc | apply pw_below_drewN | apply below_drew1 | refine below_set ?_ GE165.out) | exact HB.out)⟩
                        · replace c96 := Bool.eq_false_iff.mpr c96
                          subst c96
                          have H1 : ((geom_DataOf.f kj89 a0_0 a0_1 a0_2 a1).bind fun bt197 => ((lockgateref1_DataOf.f kj89 a0_0 a0_1 a0_2 a1).bind fun bt199 => (if bt197.1 = bt199.1 then (lockgatelaw3_GeomTells.j4 kj89 a1 (bt197.2 != bt199.2) a0_0 a0_1 a0_2) else (lockgatelaw3_GeomTells.j4 kj89 a1 true a0_0 a0_1 a0_2)))) = some r := by rw [if_neg (show ¬ (false = true) by decide)] at H; exact H
                          clear H
                          have H := H1
                          clear H1
                          replace H := Option.bind_eq_some_iff.mp H
                          obtain ⟨⟨t197, t198⟩, A970, H⟩ := H
                          replace H : ((lockgateref1_DataOf.f kj89 a0_0 a0_1 a0_2 a1).bind fun bt199 => (if t197 = bt199.1 then (lockgatelaw3_GeomTells.j4 kj89 a1 (t198 != bt199.2) a0_0 a0_1 a0_2) else (lockgatelaw3_GeomTells.j4 kj89 a1 true a0_0 a0_1 a0_2))) = some r := H
                          have A97 := Aside0.mk A970
                          clear A970
                          replace H := Option.bind_eq_some_iff.mp H
                          obtain ⟨⟨t199, t200⟩, A980, H⟩ := H
                          replace H : (if t197 = t199 then (lockgatelaw3_GeomTells.j4 kj89 a1 (t198 != t200) a0_0 a0_1 a0_2) else (lockgatelaw3_GeomTells.j4 kj89 a1 true a0_0 a0_1 a0_2)) = some r := H
                          have A98 := Aside0.mk A980
                          clear A980
                          have HC99 := Aside0.mk H
                          clear H
                          have hcz100_0 : wc.cell? ⟨gb165, 0, none⟩ = some (.int .i64 a0_0) := (blk_cell BK165.out 0).trans rfl
                          have hcz100_1 : wc.cell? ⟨gb165, 1, none⟩ = some (.int .i64 a0_1) := (blk_cell BK165.out 1).trans rfl
                          have hcz100_2 : wc.cell? ⟨gb165, 2, none⟩ = some (.int .i64 a0_2) := (blk_cell BK165.out 2).trans rfl
                          have hfz100_0 := blk_frozen BK165.out 0
                          have hfz100_1 := blk_frozen BK165.out 1
                          have hfz100_2 := blk_frozen BK165.out 2
                          go_upto_region 20 with (first | ((with_reducible refine gate_callee (f := 25) rfl ?_); refine goesL_ (some 132) rfl rfl Try.func25 (by kernel_rfl) rfl #[.agg #[.int .i64 a0_0, .int .i64 a0_1, .int .i64 a0_2], .int .i64 a1] rfl (by (try simp only [List.map_toArray, List.map_cons, List.map_nil]); first | done | rfl | (simp only [List.length_drop, List.length_take]; rfl)) ?_; (with_reducible refine (geom_DataOf.calls kj89 a0_0 a0_1 a0_2 a1 t197 t198 _ A97.out).mono ?_); rintro e w101 ⟨rfl, hb⟩; refine ⟨_, rfl, ?_⟩; have n0_ := Aside0.mk (blk_below (g := gb165) (o := .cells #[.int .i64 a0_0, .int .i64 a0_1, .int .i64 a0_2] 24 (0, 0)) (by (with_reducible repeat (first | refine blk_drewN ?_ _ | refine blk_drew ?_ | refine blk_alloc ?_ _)); exact BK165.out) hb); have n1_ := Aside0.mk (below_step (by repeat (first | (with_reducible first | exact HB.out | apply below_alloc | apply pw_below_drewN | apply below_drew1 | refine below_set ?_ GE165.out) | exact HB.out)) hb); clear BK165; clear HB; have BK165 := n0_; have HB := n1_; clear n0_ n1_; (try clear hb); (try clear hb2); (try clear hk); (try clear hi); have hcz102_0 : w101.cell? ⟨gb165, 0, none⟩ = some (.int .i64 a0_0) := (blk_cell BK165.out 0).trans rfl; have hcz102_1 : w101.cell? ⟨gb165, 1, none⟩ = some (.int .i64 a0_1) := (blk_cell BK165.out 1).trans rfl; have hcz102_2 : w101.cell? ⟨gb165, 2, none⟩ = some (.int .i64 a0_2) := (blk_cell BK165.out 2).trans rfl; have hfz102_0 := blk_frozen BK165.out 0; have hfz102_1 := blk_frozen BK165.out 1; have hfz102_2 := blk_frozen BK165.out 2) | ((with_reducible refine gate_callee (f := 26) rfl ?_); refine goesL_ (some 138) rfl rfl Try.func26 (by kernel_rfl) rfl #[.agg #[.int .i64 a0_0, .int .i64 a0_1, .int .i64 a0_2], .int .i64 a1] rfl (by (try simp only [List.map_toArray, List.map_cons, List.map_nil]); first | done | rfl | (simp only [List.length_drop, List.length_take]; rfl)) ?_; (with_reducible refine (lockgateref1_DataOf.calls kj89 a0_0 a0_1 a0_2 a1 t199 t200 _ A98.out).mono ?_); rintro e w103 ⟨rfl, hb⟩; refine ⟨_, rfl, ?_⟩; have n0_ := Aside0.mk (blk_below (g := gb165) (o := .cells #[.int .i64 a0_0, .int .i64 a0_1, .int .i64 a0_2] 24 (0, 0)) (by (with_reducible repeat (first | refine blk_drewN ?_ _ | refine blk_drew ?_ | refine blk_alloc ?_ _)); exact BK165.out) hb); have n1_ := Aside0.mk (below_step (by repeat (first | (with_reducible first | exact HB.out | apply below_alloc | apply pw_below_drewN | apply below_drew1 | refine below_set ?_ GE165.out) | exact HB.out)) hb); clear BK165; clear HB; have BK165 := n0_; have HB := n1_; clear n0_ n1_; (try clear hb); (try clear hb2); (try clear hk); (try clear hi)))
                          (try simp only [Act.put, List.setIfInBounds_toArray, List.set_cons_zero, List.set_cons_succ])
                          go_cut [148] (fun v148 wc => ∃ (kq : Nat) (x148_98 : Bool), v148 = .bool x148_98 ∧ Aside0 (lockgatelaw3_GeomTells.j4 kq a1 x148_98 a0_0 a0_1 a0_2 = some r) ∧ Aside0 (kq ≤ kj89) ∧ Aside0 (wc.heap[gb165]? = some (.cells #[.int .i64 a0_0, .int .i64 a0_1, .int .i64 a0_2] 24 (0, 0))) ∧ Aside0 (Below w.heap.size w wc))
                          case first =>
                            have H := HC99.out
                            clear HC99
                            by_cases c104 : t197 = t199
                            · rw [if_pos c104] at H
                              have c104b0 : (t197 == t199) = true := beq_iff_eq.mpr c104
                              have c104b1 : (t197 != t199) = false := bne_eq_false_iff_eq.mpr c104
                              clear c104
                              (first | rw [c104b0] | (simp only [i64_w, i32_w]; rw [c104b0]) | skip)
                              have H' := Aside0.mk H
                              clear H
                              go_wp2
                              go_meet
                              case rel => exact ⟨_, ((t198 != t200)), (by first | rfl | (simp; done) | (simp [*]; done)), H', ⟨by have := HJ5.out; have := HJ70.out; have := HJ79.out; have := HJ89.out; first | omega | exact Nat.le_refl _⟩, ⟨by (with_reducible repeat (first | refine blk_drewN ?_ _ | refine blk_drew ?_ | refine blk_alloc ?_ _)); exact BK165.out⟩, ⟨by repeat (first | (with_reducible first | exact HB.out | apply below_alloc | apply pw_below_drewN | apply below_drew1 | refine below_set ?_ GE165.out) | exact HB.out)⟩⟩
                            · rw [if_neg c104] at H
                              have c104b0 : (t197 == t199) = false := beq_eq_false_iff_ne.mpr c104
                              have c104b1 : (t197 != t199) = true := bne_iff_ne.mpr c104
                              (first | rw [c104b0] | (simp only [i64_w, i32_w]; rw [c104b0]) | skip)
                              have H' := Aside0.mk H
                              clear H
                              go_wp2
                              go_meet
                              case rel => exact ⟨_, (true), (by first | rfl | (simp; done) | (simp [*]; done)), H', ⟨by have := HJ5.out; have := HJ70.out; have := HJ79.out; have := HJ89.out; first | omega | exact Nat.le_refl _⟩, ⟨by (with_reducible repeat (first | refine blk_drewN ?_ _ | refine blk_drew ?_ | refine blk_alloc ?_ _)); exact BK165.out⟩, ⟨by repeat (first | (with_reducible first | exact HB.out | apply below_alloc | apply pw_below_drewN | apply below_drew1 | refine below_set ?_ GE165.out) | exact HB.out)⟩⟩
                          case rest =>
                            clear HC99
                            try clear c1
                            try clear c2
                            try clear p2
                            try clear c4
                            try clear c6
                            try clear c7
                            try clear c8
                            try clear c9
                            try clear c10
                            try clear c12
                            try clear c13
                            try clear c14
                            try clear c22
                            try clear c23
                            try clear c24
                            try clear c25
                            try clear c26
                            try clear c42
                            try clear c42b0
                            try clear c42b1
                            try clear c68
                            try clear c76
                            try clear c76b0
                            try clear c76b1
                            try clear c77
                            try clear c85
                            try clear c85b0
                            try clear c85b1
                            try clear c86
                            try clear c86b0
                            try clear c86b1
                            try clear c87
                            try clear c95
                            try clear c95b0
                            try clear c95b1
                            try clear c96
                            try clear c104
                            try clear c104b0
                            try clear c104b1
                            try clear hcz100_0
                            try clear hcz100_1
                            try clear hcz100_2
                            try clear hcz102_0
                            try clear hcz102_1
                            try clear hcz102_2
                            try clear hcz72_0
                            try clear hcz72_1
                            try clear hcz72_2
                            try clear hcz74_0
                            try clear hcz74_1
                            try clear hcz74_2
                            try clear hcz81_0
                            try clear hcz81_1
                            try clear hcz81_2
                            try clear hcz83_0
                            try clear hcz83_1
                            try clear hcz83_2
                            try clear hcz91_0
                            try clear hcz91_1
                            try clear hcz91_2
                            try clear hcz93_0
                            try clear hcz93_1
                            try clear hcz93_2
                            try clear hfz100_0
                            try clear hfz100_1
                            try clear hfz100_2
                            try clear hfz102_0
                            try clear hfz102_1
                            try clear hfz102_2
                            try clear hfz72_0
                            try clear hfz72_1
                            try clear hfz72_2
                            try clear hfz74_0
                            try clear hfz74_1
                            try clear hfz74_2
                            try clear hfz81_0
                            try clear hfz81_1
                            try clear hfz81_2
                            try clear hfz83_0
                            try clear hfz83_1
                            try clear hfz83_2
                            try clear hfz91_0
                            try clear hfz91_1
                            try clear hfz91_2
                            try clear hfz93_0
                            try clear hfz93_1
                            try clear hfz93_2
                            try clear p2
                            obtain ⟨kq, x148_98, rfl, HA, HJ98, BK165, HB⟩ := hcut
                            cases kq with
                            | zero => exact absurd HA.out (by simp [lockgatelaw3_GeomTells.j4])
                            | succ kj98 =>
                              have H := HA.out
                              clear HA
                              simp only [lockgatelaw3_GeomTells.j4] at H
                              by_cases c105 : x148_98 = true
                              · subst c105
                                have H1 : (some false) = some r := by rw [if_pos rfl] at H; exact H
                                clear H
                                have H := H1
                                clear H1
                                obtain rfl := Option.some.inj H
                                go_wp2
                                go_ret
                                exact ⟨by first | rfl | (simp [errW_none, errW_some] <;> rfl) | (simp [*, errW_none, errW_some] <;> rfl), by repeat (first | (with_reducible first | exact HB.out | apply below_alloc | apply pw_below_drewN | apply below_drew1 | refine below_set ?_ GE165.out) | exact HB.out)⟩
                              · replace c105 := Bool.eq_false_iff.mpr c105
                                subst c105
                                have H1 : ((geom_Group.f a0_0 a0_1 a0_2 a1).bind fun bt201 => ((lockgateref1_Group.f a0_0 a0_1 a0_2 a1).bind fun bt204 => (if bt201.1 = bt204.1 then (if bt201.2.1 = bt204.2.1 then (some (bt201.2.2 == bt204.2.2)) else (some false)) else (some false)))) = some r := by rw [if_neg (show ¬ (false = true) by decide)] at H; exact H
                                clear H
                                have H := H1
                                clear H1
                                replace H := Option.bind_eq_some_iff.mp H
                                obtain ⟨⟨t201, t202, t203⟩, A1060, H⟩ := H
                                replace H : ((lockgateref1_Group.f a0_0 a0_1 a0_2 a1).bind fun bt204 => (if t201 = bt204.1 then (if t202 = bt204.2.1 then (some (t203 == bt204.2.2)) else (some false)) else (some false))) = some r := H
                                have A106 := Aside0.mk A1060
                                clear A1060
                                replace H := Option.bind_eq_some_iff.mp H
                                obtain ⟨⟨t204, t205, t206⟩, A1070, H⟩ := H
                                replace H : (if t201 = t204 then (if t202 = t205 then (some (t203 == t206)) else (some false)) else (some false)) = some r := H
                                have A107 := Aside0.mk A1070
                                clear A1070
                                by_cases c108 : t201 = t204
                                · rw [if_pos c108] at H
                                  have c108b0 : (t201 == t204) = true := beq_iff_eq.mpr c108
                                  have c108b1 : (t201 != t204) = false := bne_eq_false_iff_eq.mpr c108
                                  clear c108
                                  by_cases c109 : t202 = t205
                                  · rw [if_pos c109] at H
                                    have c109b0 : (t202 == t205) = true := beq_iff_eq.mpr c109
                                    have c109b1 : (t202 != t205) = false := bne_eq_false_iff_eq.mpr c109
                                    clear c109
                                    obtain rfl := Option.some.inj H
                                    have hcz110_0 : wc.cell? ⟨gb165, 0, none⟩ = some (.int .i64 a0_0) := (blk_cell BK165.out 0).trans rfl
                                    have hcz110_1 : wc.cell? ⟨gb165, 1, none⟩ = some (.int .i64 a0_1) := (blk_cell BK165.out 1).trans rfl
                                    have hcz110_2 : wc.cell? ⟨gb165, 2, none⟩ = some (.int .i64 a0_2) := (blk_cell BK165.out 2).trans rfl
                                    have hfz110_0 := blk_frozen BK165.out 0
                                    have hfz110_1 := blk_frozen BK165.out 1
                                    have hfz110_2 := blk_frozen BK165.out 2
                                    go_wp2_with (first | ((with_reducible refine gate_callee (f := 27) rfl ?_); refine goesL_ (some 152) rfl rfl Try.func27 (by kernel_rfl) rfl #[.agg #[.int .i64 a0_0, .int .i64 a0_1, .int .i64 a0_2], .int .i64 a1] rfl (by (try simp only [List.map_toArray, List.map_cons, List.map_nil]); first | done | rfl | (simp only [List.length_drop, List.length_take]; rfl)) ?_; (with_reducible refine (geom_Group.calls a0_0 a0_1 a0_2 a1 t201 t202 t203 _ A106.out).mono ?_); rintro e w111 ⟨rfl, hb⟩; refine ⟨_, rfl, ?_⟩; have n0_ := Aside0.mk (blk_below (g := gb165) (o := .cells #[.int .i64 a0_0, .int .i64 a0_1, .int .i64 a0_2] 24 (0, 0)) (by (with_reducible repeat (first | refine blk_drewN ?_ _ | refine blk_drew ?_ | refine blk_alloc ?_ _)); exact BK165.out) hb); have n1_ := Aside0.mk (below_step (by repeat (first | (with_reducible first | exact HB.out | apply below_alloc | apply pw_below_drewN | apply below_drew1 | refine below_set ?_ GE165.out) | exact HB.out)) hb); clear BK165; clear HB; have BK165 := n0_; have HB := n1_; clear n0_ n1_; (try clear hb); (try clear hb2); (try clear hk); (try clear hi); have hcz112_0 : w111.cell? ⟨gb165, 0, none⟩ = some (.int .i64 a0_0) := (blk_cell BK165.out 0).trans rfl; have hcz112_1 : w111.cell? ⟨gb165, 1, none⟩ = some (.int .i64 a0_1) := (blk_cell BK165.out 1).trans rfl; have hcz112_2 : w111.cell? ⟨gb165, 2, none⟩ = some (.int .i64 a0_2) := (blk_cell BK165.out 2).trans rfl; have hfz112_0 := blk_frozen BK165.out 0; have hfz112_1 := blk_frozen BK165.out 1; have hfz112_2 := blk_frozen BK165.out 2) | ((with_reducible refine gate_callee (f := 28) rfl ?_); refine goesL_ (some 159) rfl rfl Try.func28 (by kernel_rfl) rfl #[.agg #[.int .i64 a0_0, .int .i64 a0_1, .int .i64 a0_2], .int .i64 a1] rfl (by (try simp only [List.map_toArray, List.map_cons, List.map_nil]); first | done | rfl | (simp only [List.length_drop, List.length_take]; rfl)) ?_; (with_reducible refine (lockgateref1_Group.calls a0_0 a0_1 a0_2 a1 t204 t205 t206 _ A107.out).mono ?_); rintro e w113 ⟨rfl, hb⟩; refine ⟨_, rfl, ?_⟩; have n0_ := Aside0.mk (blk_below (g := gb165) (o := .cells #[.int .i64 a0_0, .int .i64 a0_1, .int .i64 a0_2] 24 (0, 0)) (by (with_reducible repeat (first | refine blk_drewN ?_ _ | refine blk_drew ?_ | refine blk_alloc ?_ _)); exact BK165.out) hb); have n1_ := Aside0.mk (below_step (by repeat (first | (with_reducible first | exact HB.out | apply below_alloc | apply pw_below_drewN | apply below_drew1 | refine below_set ?_ GE165.out) | exact HB.out)) hb); clear BK165; clear HB; have BK165 := n0_; have HB := n1_; clear n0_ n1_; (try clear hb); (try clear hb2); (try clear hk); (try clear hi)))
                                    go_ret
                                    exact ⟨by first | rfl | (simp [errW_none, errW_some] <;> rfl) | (simp [*, errW_none, errW_some] <;> rfl), by repeat (first | (with_reducible first | exact HB.out | apply below_alloc | apply pw_below_drewN | apply below_drew1 | refine below_set ?_ GE165.out) | exact HB.out)⟩
                                  · rw [if_neg c109] at H
                                    have c109b0 : (t202 == t205) = false := beq_eq_false_iff_ne.mpr c109
                                    have c109b1 : (t202 != t205) = true := bne_iff_ne.mpr c109
                                    obtain rfl := Option.some.inj H
                                    have hcz114_0 : wc.cell? ⟨gb165, 0, none⟩ = some (.int .i64 a0_0) := (blk_cell BK165.out 0).trans rfl
                                    have hcz114_1 : wc.cell? ⟨gb165, 1, none⟩ = some (.int .i64 a0_1) := (blk_cell BK165.out 1).trans rfl
                                    have hcz114_2 : wc.cell? ⟨gb165, 2, none⟩ = some (.int .i64 a0_2) := (blk_cell BK165.out 2).trans rfl
                                    have hfz114_0 := blk_frozen BK165.out 0
                                    have hfz114_1 := blk_frozen BK165.out 1
                                    have hfz114_2 := blk_frozen BK165.out 2
                                    go_wp2_with (first | ((with_reducible refine gate_callee (f := 27) rfl ?_); refine goesL_ (some 152) rfl rfl Try.func27 (by kernel_rfl) rfl #[.agg #[.int .i64 a0_0, .int .i64 a0_1, .int .i64 a0_2], .int .i64 a1] rfl (by (try simp only [List.map_toArray, List.map_cons, List.map_nil]); first | done | rfl | (simp only [List.length_drop, List.length_take]; rfl)) ?_; (with_reducible refine (geom_Group.calls a0_0 a0_1 a0_2 a1 t201 t202 t203 _ A106.out).mono ?_); rintro e w115 ⟨rfl, hb⟩; refine ⟨_, rfl, ?_⟩; have n0_ := Aside0.mk (blk_below (g := gb165) (o := .cells #[.int .i64 a0_0, .int .i64 a0_1, .int .i64 a0_2] 24 (0, 0)) (by (with_reducible repeat (first | refine blk_drewN ?_ _ | refine blk_drew ?_ | refine blk_alloc ?_ _)); exact BK165.out) hb); have n1_ := Aside0.mk (below_step (by repeat (first | (with_reducible first | exact HB.out | apply below_alloc | apply pw_below_drewN | apply below_drew1 | refine below_set ?_ GE165.out) | exact HB.out)) hb); clear BK165; clear HB; have BK165 := n0_; have HB := n1_; clear n0_ n1_; (try clear hb); (try clear hb2); (try clear hk); (try clear hi); have hcz116_0 : w115.cell? ⟨gb165, 0, none⟩ = some (.int .i64 a0_0) := (blk_cell BK165.out 0).trans rfl; have hcz116_1 : w115.cell? ⟨gb165, 1, none⟩ = some (.int .i64 a0_1) := (blk_cell BK165.out 1).trans rfl; have hcz116_2 : w115.cell? ⟨gb165, 2, none⟩ = some (.int .i64 a0_2) := (blk_cell BK165.out 2).trans rfl; have hfz116_0 := blk_frozen BK165.out 0; have hfz116_1 := blk_frozen BK165.out 1; have hfz116_2 := blk_frozen BK165.out 2) | ((with_reducible refine gate_callee (f := 28) rfl ?_); refine goesL_ (some 159) rfl rfl Try.func28 (by kernel_rfl) rfl #[.agg #[.int .i64 a0_0, .int .i64 a0_1, .int .i64 a0_2], .int .i64 a1] rfl (by (try simp only [List.map_toArray, List.map_cons, List.map_nil]); first | done | rfl | (simp only [List.length_drop, List.length_take]; rfl)) ?_; (with_reducible refine (lockgateref1_Group.calls a0_0 a0_1 a0_2 a1 t204 t205 t206 _ A107.out).mono ?_); rintro e w117 ⟨rfl, hb⟩; refine ⟨_, rfl, ?_⟩; have n0_ := Aside0.mk (blk_below (g := gb165) (o := .cells #[.int .i64 a0_0, .int .i64 a0_1, .int .i64 a0_2] 24 (0, 0)) (by (with_reducible repeat (first | refine blk_drewN ?_ _ | refine blk_drew ?_ | refine blk_alloc ?_ _)); exact BK165.out) hb); have n1_ := Aside0.mk (below_step (by repeat (first | (with_reducible first | exact HB.out | apply below_alloc | apply pw_below_drewN | apply below_drew1 | refine below_set ?_ GE165.out) | exact HB.out)) hb); clear BK165; clear HB; have BK165 := n0_; have HB := n1_; clear n0_ n1_; (try clear hb); (try clear hb2); (try clear hk); (try clear hi)))
                                    go_ret
                                    exact ⟨by first | rfl | (simp [errW_none, errW_some] <;> rfl) | (simp [*, errW_none, errW_some] <;> rfl), by repeat (first | (with_reducible first | exact HB.out | apply below_alloc | apply pw_below_drewN | apply below_drew1 | refine below_set ?_ GE165.out) | exact HB.out)⟩
                                · rw [if_neg c108] at H
                                  have c108b0 : (t201 == t204) = false := beq_eq_false_iff_ne.mpr c108
                                  have c108b1 : (t201 != t204) = true := bne_iff_ne.mpr c108
                                  obtain rfl := Option.some.inj H
                                  have hcz118_0 : wc.cell? ⟨gb165, 0, none⟩ = some (.int .i64 a0_0) := (blk_cell BK165.out 0).trans rfl
                                  have hcz118_1 : wc.cell? ⟨gb165, 1, none⟩ = some (.int .i64 a0_1) := (blk_cell BK165.out 1).trans rfl
                                  have hcz118_2 : wc.cell? ⟨gb165, 2, none⟩ = some (.int .i64 a0_2) := (blk_cell BK165.out 2).trans rfl
                                  have hfz118_0 := blk_frozen BK165.out 0
                                  have hfz118_1 := blk_frozen BK165.out 1
                                  have hfz118_2 := blk_frozen BK165.out 2
                                  go_wp2_with (first | ((with_reducible refine gate_callee (f := 27) rfl ?_); refine goesL_ (some 152) rfl rfl Try.func27 (by kernel_rfl) rfl #[.agg #[.int .i64 a0_0, .int .i64 a0_1, .int .i64 a0_2], .int .i64 a1] rfl (by (try simp only [List.map_toArray, List.map_cons, List.map_nil]); first | done | rfl | (simp only [List.length_drop, List.length_take]; rfl)) ?_; (with_reducible refine (geom_Group.calls a0_0 a0_1 a0_2 a1 t201 t202 t203 _ A106.out).mono ?_); rintro e w119 ⟨rfl, hb⟩; refine ⟨_, rfl, ?_⟩; have n0_ := Aside0.mk (blk_below (g := gb165) (o := .cells #[.int .i64 a0_0, .int .i64 a0_1, .int .i64 a0_2] 24 (0, 0)) (by (with_reducible repeat (first | refine blk_drewN ?_ _ | refine blk_drew ?_ | refine blk_alloc ?_ _)); exact BK165.out) hb); have n1_ := Aside0.mk (below_step (by repeat (first | (with_reducible first | exact HB.out | apply below_alloc | apply pw_below_drewN | apply below_drew1 | refine below_set ?_ GE165.out) | exact HB.out)) hb); clear BK165; clear HB; have BK165 := n0_; have HB := n1_; clear n0_ n1_; (try clear hb); (try clear hb2); (try clear hk); (try clear hi); have hcz120_0 : w119.cell? ⟨gb165, 0, none⟩ = some (.int .i64 a0_0) := (blk_cell BK165.out 0).trans rfl; have hcz120_1 : w119.cell? ⟨gb165, 1, none⟩ = some (.int .i64 a0_1) := (blk_cell BK165.out 1).trans rfl; have hcz120_2 : w119.cell? ⟨gb165, 2, none⟩ = some (.int .i64 a0_2) := (blk_cell BK165.out 2).trans rfl; have hfz120_0 := blk_frozen BK165.out 0; have hfz120_1 := blk_frozen BK165.out 1; have hfz120_2 := blk_frozen BK165.out 2) | ((with_reducible refine gate_callee (f := 28) rfl ?_); refine goesL_ (some 159) rfl rfl Try.func28 (by kernel_rfl) rfl #[.agg #[.int .i64 a0_0, .int .i64 a0_1, .int .i64 a0_2], .int .i64 a1] rfl (by (try simp only [List.map_toArray, List.map_cons, List.map_nil]); first | done | rfl | (simp only [List.length_drop, List.length_take]; rfl)) ?_; (with_reducible refine (lockgateref1_Group.calls a0_0 a0_1 a0_2 a1 t204 t205 t206 _ A107.out).mono ?_); rintro e w121 ⟨rfl, hb⟩; refine ⟨_, rfl, ?_⟩; have n0_ := Aside0.mk (blk_below (g := gb165) (o := .cells #[.int .i64 a0_0, .int .i64 a0_1, .int .i64 a0_2] 24 (0, 0)) (by (with_reducible repeat (first | refine blk_drewN ?_ _ | refine blk_drew ?_ | refine blk_alloc ?_ _)); exact BK165.out) hb); have n1_ := Aside0.mk (below_step (by repeat (first | (with_reducible first | exact HB.out | apply below_alloc | apply pw_below_drewN | apply below_drew1 | refine below_set ?_ GE165.out) | exact HB.out)) hb); clear BK165; clear HB; have BK165 := n0_; have HB := n1_; clear n0_ n1_; (try clear hb); (try clear hb2); (try clear hk); (try clear hi)))
                                  go_ret
                                  exact ⟨by first | rfl | (simp [errW_none, errW_some] <;> rfl) | (simp [*, errW_none, errW_some] <;> rfl), by repeat (first | (with_reducible first | exact HB.out | apply below_alloc | apply pw_below_drewN | apply below_drew1 | refine below_set ?_ GE165.out) | exact HB.out)⟩

end Go.Proofs.Ytohngcnjahoghaa.PGeomTells
