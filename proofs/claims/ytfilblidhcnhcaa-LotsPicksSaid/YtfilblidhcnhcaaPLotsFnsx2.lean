-- written by the session's program wip/print/patch.py (a turned copy of the print) over contracts that the session proved by hand
import Derived.Test.YtfilblidhcnhcaaPLotsFnsx0
import Derived.Test.YtfilblidhcnhcaaPLotsFnsx1
namespace Go.Proofs.Ytfilblidhcnhcaa.PLotsFns
open Go.RowKit Go.Proofs.YtfilblidhcnhcaaW.PrintWords Go.Proofs.YtfilblidhcnhcaaW.PrintLast Go.Proofs.YtfilblidhcnhcaaW.PrintMore
attribute [local go_sem] max2_int min2_int max_two min_two max_three min_three max_four min_four   -- for this text's walks alone
set_option linter.unusedVariables false
set_option linter.unusedSimpArgs false

/-! ### lockgateref28_Lot_Call: function 19 -/
mutual
def lockgateref28_Lot_Call.j0 : Nat → Bool → Int → Int → ByteArray → ByteArray → Int → Int → Option (Int × ByteArray × ByteArray × Int × Int × List Int × Int)
  | 0, _, _, _, _, _, _, _ => none
  | k + 1, x24, x1000, x119000, x119001, x119002, x119003, x119004 => if x24 = true then ((lockgateref28_Lot_path.f k x1000).bind fun bt123 => (lockgateref28_Lot_Call.j1 k bt123.2 x119000 x119001 bt123.1 x119003 x119004)) else (lockgateref28_Lot_Call.j1 k x1000 x119000 x119001 x119002 x119003 x119004)
def lockgateref28_Lot_Call.j1 : Nat → Int → Int → ByteArray → ByteArray → Int → Int → Option (Int × ByteArray × ByteArray × Int × Int × List Int × Int)
  | 0, _, _, _, _, _, _ => none
  | k + 1, x1000, x119000, x119001, x119002, x119003, x119004 => if x119000 = 7 then (lockgateref28_Lot_Call.j2 k true x1000 x119000 x119001 x119002 x119003 x119004) else (lockgateref28_Lot_Call.j2 k (x119000 == 8) x1000 x119000 x119001 x119002 x119003 x119004)
def lockgateref28_Lot_Call.j2 : Nat → Bool → Int → Int → ByteArray → ByteArray → Int → Int → Option (Int × ByteArray × ByteArray × Int × Int × List Int × Int)
  | 0, _, _, _, _, _, _, _ => none
  | k + 1, x35, x1000, x119000, x119001, x119002, x119003, x119004 => if x35 = true then ((lockgateref28_Lot_Next.f x1000 4).bind fun bt125 => (lockgateref28_Lot_Call.j3 k bt125.2 x119000 x119001 x119002 (wrap64 (bt125.1 * 700)) x119004)) else (lockgateref28_Lot_Call.j3 k x1000 x119000 x119001 x119002 x119003 x119004)
def lockgateref28_Lot_Call.j3 : Nat → Int → Int → ByteArray → ByteArray → Int → Int → Option (Int × ByteArray × ByteArray × Int × Int × List Int × Int)
  | 0, _, _, _, _, _, _ => none
  | k + 1, x1000, x119000, x119001, x119002, x119003, x119004 => if x119000 = 7 then (lockgateref28_Lot_Call.j4 k true x1000 x119000 x119001 x119002 x119003 x119004) else (lockgateref28_Lot_Call.j4 k (x119000 == 9) x1000 x119000 x119001 x119002 x119003 x119004)
def lockgateref28_Lot_Call.j4 : Nat → Bool → Int → Int → ByteArray → ByteArray → Int → Int → Option (Int × ByteArray × ByteArray × Int × Int × List Int × Int)
  | 0, _, _, _, _, _, _, _ => none
  | k + 1, x47, x1000, x119000, x119001, x119002, x119003, x119004 => if x47 = true then ((lockgateref28_Lot_Next.f x1000 3000).bind fun bt127 => (lockgateref28_Lot_Call.j5 k bt127.2 x119000 x119001 x119002 x119003 bt127.1)) else (lockgateref28_Lot_Call.j5 k x1000 x119000 x119001 x119002 x119003 x119004)
def lockgateref28_Lot_Call.j5 : Nat → Int → Int → ByteArray → ByteArray → Int → Int → Option (Int × ByteArray × ByteArray × Int × Int × List Int × Int)
  | 0, _, _, _, _, _, _ => none
  | k + 1, x1000, x119000, x119001, x119002, x119003, x119004 => if x119000 = 8 then ((lockgateref28_Lot_Next.f x1000 1500).bind fun bt129 => (lockgateref28_Lot_Call.l0 k bt129.1 0 bt129.2 x119000 x119001 x119002 x119003 x119004 ([] : List Int))) else (some (x119000, x119001, x119002, x119003, x119004, ([] : List Int), x1000))
def lockgateref28_Lot_Call.l0 : Nat → Int → Int → Int → Int → ByteArray → ByteArray → Int → Int → List Int → Option (Int × ByteArray × ByteArray × Int × Int × List Int × Int)
  | 0, _, _, _, _, _, _, _, _, _ => none
  | k + 1, x4, x5, x1000, x119000, x119001, x119002, x119003, x119004, x119005 => if x5 < x4 then ((lockgateref28_Lot_Next.f x1000 256).bind fun bt131 => (if x119005.length < 140737488355328 then (lockgateref28_Lot_Call.l0 k x4 (wrap64 (x5 + 1)) bt131.2 x119000 x119001 x119002 x119003 x119004 (x119005 ++ [(bt131.1) % 256])) else (none))) else (some (x119000, x119001, x119002, x119003, x119004, x119005, x1000))
end
def lockgateref28_Lot_Call.f (k : Nat) (s0_0 : Int) : Option (Int × ByteArray × ByteArray × Int × Int × List Int × Int) := (lockgateref28_Lot_Next.f s0_0 13).bind fun bt119 => (if (wrap64 (bt119.1 + 1)) = 13 then (some (wrap64 (bt119.1 + 1), (⟨#[]⟩ : ByteArray), (⟨#[]⟩ : ByteArray), 0, 0, ([] : List Int), bt119.2)) else ((lockgateref28_Lot_path.f k bt119.2).bind fun bt121 => (if (wrap64 (bt119.1 + 1)) = 3 then (lockgateref28_Lot_Call.j0 k true bt121.2 (wrap64 (bt119.1 + 1)) bt121.1 (⟨#[]⟩ : ByteArray) 0 0) else (lockgateref28_Lot_Call.j0 k ((wrap64 (bt119.1 + 1)) == 6) bt121.2 (wrap64 (bt119.1 + 1)) bt121.1 (⟨#[]⟩ : ByteArray) 0 0))))
theorem lockgateref28_Lot_Call.mono_l : ∀ k, (∀ y0 y1 y2 y3 y4 y5 y6, LeO (lockgateref28_Lot_Call.j0 k y0 y1 y2 y3 y4 y5 y6) (lockgateref28_Lot_Call.j0 (k + 1) y0 y1 y2 y3 y4 y5 y6)) ∧ (∀ y0 y1 y2 y3 y4 y5, LeO (lockgateref28_Lot_Call.j1 k y0 y1 y2 y3 y4 y5) (lockgateref28_Lot_Call.j1 (k + 1) y0 y1 y2 y3 y4 y5)) ∧ (∀ y0 y1 y2 y3 y4 y5 y6, LeO (lockgateref28_Lot_Call.j2 k y0 y1 y2 y3 y4 y5 y6) (lockgateref28_Lot_Call.j2 (k + 1) y0 y1 y2 y3 y4 y5 y6)) ∧ (∀ y0 y1 y2 y3 y4 y5, LeO (lockgateref28_Lot_Call.j3 k y0 y1 y2 y3 y4 y5) (lockgateref28_Lot_Call.j3 (k + 1) y0 y1 y2 y3 y4 y5)) ∧ (∀ y0 y1 y2 y3 y4 y5 y6, LeO (lockgateref28_Lot_Call.j4 k y0 y1 y2 y3 y4 y5 y6) (lockgateref28_Lot_Call.j4 (k + 1) y0 y1 y2 y3 y4 y5 y6)) ∧ (∀ y0 y1 y2 y3 y4 y5, LeO (lockgateref28_Lot_Call.j5 k y0 y1 y2 y3 y4 y5) (lockgateref28_Lot_Call.j5 (k + 1) y0 y1 y2 y3 y4 y5)) ∧ (∀ y0 y1 y2 y3 y4 y5 y6 y7 y8, LeO (lockgateref28_Lot_Call.l0 k y0 y1 y2 y3 y4 y5 y6 y7 y8) (lockgateref28_Lot_Call.l0 (k + 1) y0 y1 y2 y3 y4 y5 y6 y7 y8))
  | 0 => ⟨fun _ _ _ _ _ _ _ r h => by simp [lockgateref28_Lot_Call.j0] at h, fun _ _ _ _ _ _ r h => by simp [lockgateref28_Lot_Call.j1] at h, fun _ _ _ _ _ _ _ r h => by simp [lockgateref28_Lot_Call.j2] at h, fun _ _ _ _ _ _ r h => by simp [lockgateref28_Lot_Call.j3] at h, fun _ _ _ _ _ _ _ r h => by simp [lockgateref28_Lot_Call.j4] at h, fun _ _ _ _ _ _ r h => by simp [lockgateref28_Lot_Call.j5] at h, fun _ _ _ _ _ _ _ _ _ r h => by simp [lockgateref28_Lot_Call.l0] at h⟩
  | k + 1 => by
    obtain ⟨ih0, ih1, ih2, ih3, ih4, ih5, ih6⟩ := lockgateref28_Lot_Call.mono_l k
    refine ⟨?_, ?_, ?_, ?_, ?_, ?_, ?_⟩
    · intro y0 y1 y2 y3 y4 y5 y6
      unfold lockgateref28_Lot_Call.j0
      repeat' first
      | (with_reducible exact ih0 _ _ _ _ _ _ _)
      | (with_reducible exact ih1 _ _ _ _ _ _)
      | (with_reducible exact ih2 _ _ _ _ _ _ _)
      | (with_reducible exact ih3 _ _ _ _ _ _)
      | (with_reducible exact ih4 _ _ _ _ _ _ _)
      | (with_reducible exact ih5 _ _ _ _ _ _)
      | (with_reducible exact ih6 _ _ _ _ _ _ _ _ _)
      | (with_reducible exact lockgateref28_Lot_path.mono _ _)
      | (with_reducible exact LeO.refl _)
      | (with_reducible exact LeO.none _)
      | (with_reducible refine LeO.ite ?_ ?_)
      | (with_reducible refine LeO.bind ?_ (fun _ => ?_))
      | exact ih0 _ _ _ _ _ _ _
      | exact ih1 _ _ _ _ _ _
      | exact ih2 _ _ _ _ _ _ _
      | exact ih3 _ _ _ _ _ _
      | exact ih4 _ _ _ _ _ _ _
      | exact ih5 _ _ _ _ _ _
      | exact ih6 _ _ _ _ _ _ _ _ _
      | exact lockgateref28_Lot_path.mono _ _
      | exact LeO.none _
      | refine LeO.ite ?_ ?_
      | refine LeO.bind ?_ (fun _ => ?_)
    · intro y0 y1 y2 y3 y4 y5
      unfold lockgateref28_Lot_Call.j1
      repeat' first
      | (with_reducible exact ih0 _ _ _ _ _ _ _)
      | (with_reducible exact ih1 _ _ _ _ _ _)
      | (with_reducible exact ih2 _ _ _ _ _ _ _)
      | (with_reducible exact ih3 _ _ _ _ _ _)
      | (with_reducible exact ih4 _ _ _ _ _ _ _)
      | (with_reducible exact ih5 _ _ _ _ _ _)
      | (with_reducible exact ih6 _ _ _ _ _ _ _ _ _)
      | (with_reducible exact lockgateref28_Lot_path.mono _ _)
      | (with_reducible exact LeO.refl _)
      | (with_reducible exact LeO.none _)
      | (with_reducible refine LeO.ite ?_ ?_)
      | (with_reducible refine LeO.bind ?_ (fun _ => ?_))
      | exact ih0 _ _ _ _ _ _ _
      | exact ih1 _ _ _ _ _ _
      | exact ih2 _ _ _ _ _ _ _
      | exact ih3 _ _ _ _ _ _
      | exact ih4 _ _ _ _ _ _ _
      | exact ih5 _ _ _ _ _ _
      | exact ih6 _ _ _ _ _ _ _ _ _
      | exact lockgateref28_Lot_path.mono _ _
      | exact LeO.none _
      | refine LeO.ite ?_ ?_
      | refine LeO.bind ?_ (fun _ => ?_)
    · intro y0 y1 y2 y3 y4 y5 y6
      unfold lockgateref28_Lot_Call.j2
      repeat' first
      | (with_reducible exact ih0 _ _ _ _ _ _ _)
      | (with_reducible exact ih1 _ _ _ _ _ _)
      | (with_reducible exact ih2 _ _ _ _ _ _ _)
      | (with_reducible exact ih3 _ _ _ _ _ _)
      | (with_reducible exact ih4 _ _ _ _ _ _ _)
      | (with_reducible exact ih5 _ _ _ _ _ _)
      | (with_reducible exact ih6 _ _ _ _ _ _ _ _ _)
      | (with_reducible exact lockgateref28_Lot_path.mono _ _)
      | (with_reducible exact LeO.refl _)
      | (with_reducible exact LeO.none _)
      | (with_reducible refine LeO.ite ?_ ?_)
      | (with_reducible refine LeO.bind ?_ (fun _ => ?_))
      | exact ih0 _ _ _ _ _ _ _
      | exact ih1 _ _ _ _ _ _
      | exact ih2 _ _ _ _ _ _ _
      | exact ih3 _ _ _ _ _ _
      | exact ih4 _ _ _ _ _ _ _
      | exact ih5 _ _ _ _ _ _
      | exact ih6 _ _ _ _ _ _ _ _ _
      | exact lockgateref28_Lot_path.mono _ _
      | exact LeO.none _
      | refine LeO.ite ?_ ?_
      | refine LeO.bind ?_ (fun _ => ?_)
    · intro y0 y1 y2 y3 y4 y5
      unfold lockgateref28_Lot_Call.j3
      repeat' first
      | (with_reducible exact ih0 _ _ _ _ _ _ _)
      | (with_reducible exact ih1 _ _ _ _ _ _)
      | (with_reducible exact ih2 _ _ _ _ _ _ _)
      | (with_reducible exact ih3 _ _ _ _ _ _)
      | (with_reducible exact ih4 _ _ _ _ _ _ _)
      | (with_reducible exact ih5 _ _ _ _ _ _)
      | (with_reducible exact ih6 _ _ _ _ _ _ _ _ _)
      | (with_reducible exact lockgateref28_Lot_path.mono _ _)
      | (with_reducible exact LeO.refl _)
      | (with_reducible exact LeO.none _)
      | (with_reducible refine LeO.ite ?_ ?_)
      | (with_reducible refine LeO.bind ?_ (fun _ => ?_))
      | exact ih0 _ _ _ _ _ _ _
      | exact ih1 _ _ _ _ _ _
      | exact ih2 _ _ _ _ _ _ _
      | exact ih3 _ _ _ _ _ _
      | exact ih4 _ _ _ _ _ _ _
      | exact ih5 _ _ _ _ _ _
      | exact ih6 _ _ _ _ _ _ _ _ _
      | exact lockgateref28_Lot_path.mono _ _
      | exact LeO.none _
      | refine LeO.ite ?_ ?_
      | refine LeO.bind ?_ (fun _ => ?_)
    · intro y0 y1 y2 y3 y4 y5 y6
      unfold lockgateref28_Lot_Call.j4
      repeat' first
      | (with_reducible exact ih0 _ _ _ _ _ _ _)
      | (with_reducible exact ih1 _ _ _ _ _ _)
      | (with_reducible exact ih2 _ _ _ _ _ _ _)
      | (with_reducible exact ih3 _ _ _ _ _ _)
      | (with_reducible exact ih4 _ _ _ _ _ _ _)
      | (with_reducible exact ih5 _ _ _ _ _ _)
      | (with_reducible exact ih6 _ _ _ _ _ _ _ _ _)
      | (with_reducible exact lockgateref28_Lot_path.mono _ _)
      | (with_reducible exact LeO.refl _)
      | (with_reducible exact LeO.none _)
      | (with_reducible refine LeO.ite ?_ ?_)
      | (with_reducible refine LeO.bind ?_ (fun _ => ?_))
      | exact ih0 _ _ _ _ _ _ _
      | exact ih1 _ _ _ _ _ _
      | exact ih2 _ _ _ _ _ _ _
      | exact ih3 _ _ _ _ _ _
      | exact ih4 _ _ _ _ _ _ _
      | exact ih5 _ _ _ _ _ _
      | exact ih6 _ _ _ _ _ _ _ _ _
      | exact lockgateref28_Lot_path.mono _ _
      | exact LeO.none _
      | refine LeO.ite ?_ ?_
      | refine LeO.bind ?_ (fun _ => ?_)
    · intro y0 y1 y2 y3 y4 y5
      unfold lockgateref28_Lot_Call.j5
      repeat' first
      | (with_reducible exact ih0 _ _ _ _ _ _ _)
      | (with_reducible exact ih1 _ _ _ _ _ _)
      | (with_reducible exact ih2 _ _ _ _ _ _ _)
      | (with_reducible exact ih3 _ _ _ _ _ _)
      | (with_reducible exact ih4 _ _ _ _ _ _ _)
      | (with_reducible exact ih5 _ _ _ _ _ _)
      | (with_reducible exact ih6 _ _ _ _ _ _ _ _ _)
      | (with_reducible exact lockgateref28_Lot_path.mono _ _)
      | (with_reducible exact LeO.refl _)
      | (with_reducible exact LeO.none _)
      | (with_reducible refine LeO.ite ?_ ?_)
      | (with_reducible refine LeO.bind ?_ (fun _ => ?_))
      | exact ih0 _ _ _ _ _ _ _
      | exact ih1 _ _ _ _ _ _
      | exact ih2 _ _ _ _ _ _ _
      | exact ih3 _ _ _ _ _ _
      | exact ih4 _ _ _ _ _ _ _
      | exact ih5 _ _ _ _ _ _
      | exact ih6 _ _ _ _ _ _ _ _ _
      | exact lockgateref28_Lot_path.mono _ _
      | exact LeO.none _
      | refine LeO.ite ?_ ?_
      | refine LeO.bind ?_ (fun _ => ?_)
    · intro y0 y1 y2 y3 y4 y5 y6 y7 y8
      unfold lockgateref28_Lot_Call.l0
      repeat' first
      | (with_reducible exact ih0 _ _ _ _ _ _ _)
      | (with_reducible exact ih1 _ _ _ _ _ _)
      | (with_reducible exact ih2 _ _ _ _ _ _ _)
      | (with_reducible exact ih3 _ _ _ _ _ _)
      | (with_reducible exact ih4 _ _ _ _ _ _ _)
      | (with_reducible exact ih5 _ _ _ _ _ _)
      | (with_reducible exact ih6 _ _ _ _ _ _ _ _ _)
      | (with_reducible exact lockgateref28_Lot_path.mono _ _)
      | (with_reducible exact LeO.refl _)
      | (with_reducible exact LeO.none _)
      | (with_reducible refine LeO.ite ?_ ?_)
      | (with_reducible refine LeO.bind ?_ (fun _ => ?_))
      | exact ih0 _ _ _ _ _ _ _
      | exact ih1 _ _ _ _ _ _
      | exact ih2 _ _ _ _ _ _ _
      | exact ih3 _ _ _ _ _ _
      | exact ih4 _ _ _ _ _ _ _
      | exact ih5 _ _ _ _ _ _
      | exact ih6 _ _ _ _ _ _ _ _ _
      | exact lockgateref28_Lot_path.mono _ _
      | exact LeO.none _
      | refine LeO.ite ?_ ?_
      | refine LeO.bind ?_ (fun _ => ?_)
theorem lockgateref28_Lot_Call.mono : ∀ a0 k, LeO (lockgateref28_Lot_Call.f k a0) (lockgateref28_Lot_Call.f (k + 1) a0) := by
  intro a0 k
  obtain ⟨ih0, ih1, ih2, ih3, ih4, ih5, ih6⟩ := lockgateref28_Lot_Call.mono_l k
  unfold lockgateref28_Lot_Call.f
  repeat' first
      | (with_reducible exact ih0 _ _ _ _ _ _ _)
      | (with_reducible exact ih1 _ _ _ _ _ _)
      | (with_reducible exact ih2 _ _ _ _ _ _ _)
      | (with_reducible exact ih3 _ _ _ _ _ _)
      | (with_reducible exact ih4 _ _ _ _ _ _ _)
      | (with_reducible exact ih5 _ _ _ _ _ _)
      | (with_reducible exact ih6 _ _ _ _ _ _ _ _ _)
      | (with_reducible exact lockgateref28_Lot_path.mono _ _)
      | (with_reducible exact LeO.refl _)
      | (with_reducible exact LeO.none _)
      | (with_reducible refine LeO.ite ?_ ?_)
      | (with_reducible refine LeO.bind ?_ (fun _ => ?_))
      | exact ih0 _ _ _ _ _ _ _
      | exact ih1 _ _ _ _ _ _
      | exact ih2 _ _ _ _ _ _ _
      | exact ih3 _ _ _ _ _ _
      | exact ih4 _ _ _ _ _ _ _
      | exact ih5 _ _ _ _ _ _
      | exact ih6 _ _ _ _ _ _ _ _ _
      | exact lockgateref28_Lot_path.mono _ _
      | exact LeO.none _
      | refine LeO.ite ?_ ?_
      | refine LeO.bind ?_ (fun _ => ?_)
def lockgateref28_Lot_Call.T17 : Bool × List (List Nat × List Nat) := (true, [([], []), ([0], [0]), ([], []), ([2], [2]), ([3], [3]), ([4], [4]), ([1, 5, 3], [1, 5]), ([0, 1, 2, 3, 4, 5, 6], []), ([7, 6, 6, 0, 1, 2, 3, 4, 5, 6], [6, 7])])
def lockgateref28_Lot_Call.B17 : List Nat := [0, 1, 0, 4, 12, 28, 63, 127, 255]
theorem lockgateref28_Lot_Call.tab17 : rtab .any (opsOf Try.f19 17) = lockgateref28_Lot_Call.T17 := by kernel_rfl
theorem lockgateref28_Lot_Call.bits17 : waitsOk lockgateref28_Lot_Call.T17.2 lockgateref28_Lot_Call.B17 = true := by kernel_rfl
set_option maxHeartbeats 8000000 in
set_option maxRecDepth 100000 in
theorem lockgateref28_Lot_Call.calls (k : Nat) (g : Nat) (s0_0 : Int) (r1 : Int) (r2 : ByteArray) (r3 : ByteArray) (r4 : Int) (r5 : Int) (r6 : List Int) (r7 : Int) (w0 w : World) (hI : IsS46 w0 w g s0_0) (hB : Below w0.heap.size w0 w) (h : lockgateref28_Lot_Call.f k s0_0 = some (r1, r2, r3, r4, r5, r6, r7)) :
    Calls Try.prog 19 #[.pointer (some ⟨g, 0, none⟩)] w fun e w' => ∃ v5_ : Value, e = .returned (.agg #[.int .i64 r1, .string r2, .string r3, .int .i64 r4, .int .i64 r5, v5_]) ∧ Kd.R (Kd.int .u8) 5 w' w.heap.size (fun _ => True) v5_ r6 ∧ IsS46 w0 w' g r7 ∧ Below w0.heap.size w0 w' ∧ KeepBut w w' g none := by
  have hu35 := Try.underlying35
  have HI0 := Aside0.mk hI
  have HK := Aside0.mk (KeepBut.refl w g none)
  have HL := Aside0.mk hB.size
  clear hI
  have HW0 := Aside0.mk hB.size
  have HB := Aside0.mk hB
  clear hB
  have H : ((lockgateref28_Lot_Next.f s0_0 13).bind fun bt119 => (if (wrap64 (bt119.1 + 1)) = 13 then (some (wrap64 (bt119.1 + 1), (⟨#[]⟩ : ByteArray), (⟨#[]⟩ : ByteArray), 0, 0, ([] : List Int), bt119.2)) else ((lockgateref28_Lot_path.f k bt119.2).bind fun bt121 => (if (wrap64 (bt119.1 + 1)) = 3 then (lockgateref28_Lot_Call.j0 k true bt121.2 (wrap64 (bt119.1 + 1)) bt121.1 (⟨#[]⟩ : ByteArray) 0 0) else (lockgateref28_Lot_Call.j0 k ((wrap64 (bt119.1 + 1)) == 6) bt121.2 (wrap64 (bt119.1 + 1)) bt121.1 (⟨#[]⟩ : ByteArray) 0 0))))) = some (r1, r2, r3, r4, r5, r6, r7) := h
  clear h
  replace H := Option.bind_eq_some_iff.mp H
  obtain ⟨⟨t119, t120⟩, A20, H⟩ := H
  replace H : (if (wrap64 (t119 + 1)) = 13 then (some (wrap64 (t119 + 1), (⟨#[]⟩ : ByteArray), (⟨#[]⟩ : ByteArray), 0, 0, ([] : List Int), t120)) else ((lockgateref28_Lot_path.f k t120).bind fun bt121 => (if (wrap64 (t119 + 1)) = 3 then (lockgateref28_Lot_Call.j0 k true bt121.2 (wrap64 (t119 + 1)) bt121.1 (⟨#[]⟩ : ByteArray) 0 0) else (lockgateref28_Lot_Call.j0 k ((wrap64 (t119 + 1)) == 6) bt121.2 (wrap64 (t119 + 1)) bt121.1 (⟨#[]⟩ : ByteArray) 0 0)))) = some (r1, r2, r3, r4, r5, r6, r7) := H
  have A2 := Aside0.mk A20
  clear A20
  by_cases c3 : (wrap64 (t119 + 1)) = 13
  · rw [if_pos c3] at H
    have c3b0 : ((wrap64 (t119 + 1)) == 13) = true := beq_iff_eq.mpr c3
    have c3b1 : ((wrap64 (t119 + 1)) != 13) = false := bne_eq_false_iff_eq.mpr c3
    clear c3
    simp only [Option.some.injEq, Prod.mk.injEq] at H
    obtain ⟨rfl, rfl, rfl, rfl, rfl, rfl, rfl⟩ := H
    go_enter Try.func19, Try.ntmps19
    go_wp2_with (first | ((with_reducible refine gate_dst (N := 2) rfl ?_); refine box_event ?hg (N := 2) ?hd (cs := #[.int .i64 0, .string (⟨#[]⟩ : ByteArray), .string (⟨#[]⟩ : ByteArray), .int .i64 0, .int .i64 0, .slice none 0 0]) (t := 35) ?hr ?_; (case hd => rfl); (case hg => rfl); (case hr => first | (go_simp; done) | (go_simp; rfl)); intro gb117 hg w4 hbox hb; have n0_ := Aside0.mk (IsS46.below (by repeat (first | (with_reducible first | exact HI0.out | apply IsS46.alloc | apply IsS46.drewN | apply IsS46.drew | apply IsS46.set_0) | exact HI0.out)) hb); have n1_ := Aside0.mk (KeepBut.trans (by repeat (first | (with_reducible first | exact HK.out | apply KeepBut.set_ | apply keep_drewN | apply keep_drew | apply keep_alloc) | exact HK.out)) (KeepBut.of_below hb g none) (.inl rfl)); have n2_ := Aside0.mk (below_step (by repeat (first | (with_reducible first | exact HB.out | apply below_alloc | apply pw_below_drewN | apply below_drew1 | refine below_set ?_ (IsS46.ge HI0.out)) | exact HB.out)) hb); have n3_ := Aside0.mk (hbox); have n4_ := Aside0.mk ((by rw [hg]; exact (keep_size (w := w) (g := g) (row := none) (by repeat (first | (with_reducible first | exact HK.out | apply KeepBut.set_ | apply keep_drewN | apply keep_drew | apply keep_alloc) | exact HK.out))) : w.heap.size ≤ gb117)); have n5_ := Aside0.mk ((Nat.le_trans HW0.out (by rw [hg]; exact (keep_size (w := w) (g := g) (row := none) (by repeat (first | (with_reducible first | exact HK.out | apply KeepBut.set_ | apply keep_drewN | apply keep_drew | apply keep_alloc) | exact HK.out))) : w.heap.size ≤ gb117) : w0.heap.size ≤ gb117)); have n6_ := Aside0.mk ((by rw [hg]; exact Nat.ne_of_lt (IsS46.lt (show IsS46 w0 _ g s0_0 from by repeat (first | (with_reducible first | exact HI0.out | apply IsS46.alloc | apply IsS46.drewN | apply IsS46.drew | apply IsS46.set_0) | exact HI0.out))) : g ≠ gb117)); have n7_ := Aside0.mk ((by rw [hg]; exact Nat.ne_of_gt (IsS46.lt (show IsS46 w0 _ g s0_0 from by repeat (first | (with_reducible first | exact HI0.out | apply IsS46.alloc | apply IsS46.drewN | apply IsS46.drew | apply IsS46.set_0) | exact HI0.out))) : gb117 ≠ g)); clear HI0; clear HK; clear HB; have HI0 := n0_; have HK := n1_; have HB := n2_; have BK117 := n3_; have GW117 := n4_; have GE117 := n5_; have NB0_117 := n6_; have NB117_0 := n7_; clear n0_ n1_ n2_ n3_ n4_ n5_ n6_ n7_; clear hb hbox hg) | ((with_reducible refine gate_dst (N := 3) rfl ?_); refine box_event ?hg (N := 3) ?hd (cs := #[.int .i64 0, .string (⟨#[]⟩ : ByteArray), .string (⟨#[]⟩ : ByteArray), .int .i64 0, .int .i64 0, .slice none 0 0]) (t := 35) ?hr ?_; (case hd => rfl); (case hg => rfl); (case hr => first | (go_simp; done) | (go_simp; rfl)); intro gb118 hg w5 hbox hb; have n0_ := Aside0.mk (IsS46.below (by repeat (first | (with_reducible first | exact HI0.out | apply IsS46.alloc | apply IsS46.drewN | apply IsS46.drew | apply IsS46.set_0 | refine IsS46.far ?_ NB0_117.out _) | exact HI0.out)) hb); have n1_ := Aside0.mk (blk_below (g := gb117) (o := .cells #[.int .i64 0, .string (⟨#[]⟩ : ByteArray), .string (⟨#[]⟩ : ByteArray), .int .i64 0, .int .i64 0, .slice none 0 0] 35 (0, 0)) (by (with_reducible repeat (first | refine blk_drewN ?_ _ | refine blk_drew ?_ | refine blk_alloc ?_ _)); exact BK117.out) hb); have n2_ := Aside0.mk (KeepBut.trans (by repeat (first | (with_reducible first | exact HK.out | apply KeepBut.set_ | apply keep_drewN | apply keep_drew | apply keep_alloc | refine keep_far ?_ GW117.out _) | exact HK.out)) (KeepBut.of_below hb g none) (.inl rfl)); have n3_ := Aside0.mk (below_step (by repeat (first | (with_reducible first | exact HB.out | apply below_alloc | apply pw_below_drewN | apply below_drew1 | refine below_set ?_ (IsS46.ge HI0.out) | refine below_set ?_ GE117.out) | exact HB.out)) hb); have n4_ := Aside0.mk (hbox); have n5_ := Aside0.mk ((by rw [hg]; exact (keep_size (w := w) (g := g) (row := none) (by repeat (first | (with_reducible first | exact HK.out | apply KeepBut.set_ | apply keep_drewN | apply keep_drew | apply keep_alloc | refine keep_far ?_ GW117.out _) | exact HK.out))) : w.heap.size ≤ gb118)); have n6_ := Aside0.mk ((Nat.le_trans HW0.out (by rw [hg]; exact (keep_size (w := w) (g := g) (row := none) (by repeat (first | (with_reducible first | exact HK.out | apply KeepBut.set_ | apply keep_drewN | apply keep_drew | apply keep_alloc | refine keep_far ?_ GW117.out _) | exact HK.out))) : w.heap.size ≤ gb118) : w0.heap.size ≤ gb118)); have n7_ := Aside0.mk ((by rw [hg]; exact Nat.ne_of_lt (blk_lt (g := gb117) (o := .cells #[.int .i64 0, .string (⟨#[]⟩ : ByteArray), .string (⟨#[]⟩ : ByteArray), .int .i64 0, .int .i64 0, .slice none 0 0] 35 (0, 0)) (by (with_reducible repeat (first | refine blk_drewN ?_ _ | refine blk_drew ?_ | refine blk_alloc ?_ _)); exact BK117.out)) : gb117 ≠ gb118)); have n8_ := Aside0.mk ((by rw [hg]; exact Nat.ne_of_gt (blk_lt (g := gb117) (o := .cells #[.int .i64 0, .string (⟨#[]⟩ : ByteArray), .string (⟨#[]⟩ : ByteArray), .int .i64 0, .int .i64 0, .slice none 0 0] 35 (0, 0)) (by (with_reducible repeat (first | refine blk_drewN ?_ _ | refine blk_drew ?_ | refine blk_alloc ?_ _)); exact BK117.out)) : gb118 ≠ gb117)); have n9_ := Aside0.mk ((by rw [hg]; exact Nat.ne_of_lt (IsS46.lt (show IsS46 w0 _ g s0_0 from by repeat (first | (with_reducible first | exact HI0.out | apply IsS46.alloc | apply IsS46.drewN | apply IsS46.drew | apply IsS46.set_0 | refine IsS46.far ?_ NB0_117.out _) | exact HI0.out))) : g ≠ gb118)); have n10_ := Aside0.mk ((by rw [hg]; exact Nat.ne_of_gt (IsS46.lt (show IsS46 w0 _ g s0_0 from by repeat (first | (with_reducible first | exact HI0.out | apply IsS46.alloc | apply IsS46.drewN | apply IsS46.drew | apply IsS46.set_0 | refine IsS46.far ?_ NB0_117.out _) | exact HI0.out))) : gb118 ≠ g)); clear HI0; clear BK117; clear HK; clear HB; have HI0 := n0_; have BK117 := n1_; have HK := n2_; have HB := n3_; have BK118 := n4_; have GW118 := n5_; have GE118 := n6_; have NB117_118 := n7_; have NB118_117 := n8_; have NB0_118 := n9_; have NB118_0 := n10_; clear n0_ n1_ n2_ n3_ n4_ n5_ n6_ n7_ n8_ n9_ n10_; clear hb hbox hg) | ((with_reducible refine gate_callee (f := 11) rfl ?_); refine goesL_ (some 7) rfl rfl Try.func11 (by kernel_rfl) rfl #[.pointer (some ⟨g, 0, none⟩), .int .i64 13] rfl (by (try simp only [List.map_toArray, List.map_cons, List.map_nil]); first | done | rfl | (simp only [List.length_drop, List.length_take]; rfl)) ?_; (with_reducible refine (lockgateref28_Lot_Next.calls g s0_0 13 t119 t120 w0 _ ?side1 ?side2 A2.out).mono ?_); (case side1 => repeat (first | (with_reducible first | exact HI0.out | apply IsS46.alloc | apply IsS46.drewN | apply IsS46.drew | apply IsS46.set_0 | refine IsS46.far ?_ NB0_117.out _ | refine IsS46.far ?_ NB0_118.out _) | exact HI0.out)); (case side2 => repeat (first | (with_reducible first | exact HB.out | apply below_alloc | apply pw_below_drewN | apply below_drew1 | refine below_set ?_ (IsS46.ge HI0.out) | refine below_set ?_ GE117.out | refine below_set ?_ GE118.out) | exact HB.out)); rintro e w6 ⟨rfl, hi, hb, hk⟩; refine ⟨_, rfl, ?_⟩; have n0_ := Aside0.mk (KeepBut.blk hk (g' := gb117) (o := .cells #[.int .i64 0, .string (⟨#[]⟩ : ByteArray), .string (⟨#[]⟩ : ByteArray), .int .i64 0, .int .i64 0, .slice none 0 0] 35 (0, 0)) (by (with_reducible repeat (first | refine blk_drewN ?_ _ | refine blk_drew ?_ | refine blk_alloc ?_ _)); exact BK117.out) NB117_0.out (by simp)); have n1_ := Aside0.mk (KeepBut.blk hk (g' := gb118) (o := .cells #[.int .i64 0, .string (⟨#[]⟩ : ByteArray), .string (⟨#[]⟩ : ByteArray), .int .i64 0, .int .i64 0, .slice none 0 0] 35 (0, 0)) (by (with_reducible repeat (first | refine blk_drewN ?_ _ | refine blk_drew ?_ | refine blk_alloc ?_ _)); exact BK118.out) NB118_0.out (by simp)); have n2_ := Aside0.mk (KeepBut.trans (by repeat (first | (with_reducible first | exact HK.out | apply KeepBut.set_ | apply keep_drewN | apply keep_drew | apply keep_alloc | refine keep_far ?_ GW117.out _ | refine keep_far ?_ GW118.out _) | exact HK.out)) hk (.inl rfl)); have n3_ := Aside0.mk (hb); have n4_ := Aside0.mk (hi); clear BK117; clear BK118; clear HK; clear HB; clear HI0; have BK117 := n0_; have BK118 := n1_; have HK := n2_; have HB := n3_; have HI0 := n4_; clear n0_ n1_ n2_ n3_ n4_; (try clear hb); (try clear hb2); (try clear hk); (try clear hi); have hnb7 := NB118_117.out; have hnc7 := NB117_118.out; have hnb8 := NB118_0.out; have hnc8 := NB0_118.out; have hcz9_0 : w6.cell? ⟨gb118, 0, none⟩ = some (.int .i64 0) := (blk_cell BK118.out 0).trans rfl; have hcz9_1 : w6.cell? ⟨gb118, 1, none⟩ = some (.string (⟨#[]⟩ : ByteArray)) := (blk_cell BK118.out 1).trans rfl; have hcz9_2 : w6.cell? ⟨gb118, 2, none⟩ = some (.string (⟨#[]⟩ : ByteArray)) := (blk_cell BK118.out 2).trans rfl; have hcz9_3 : w6.cell? ⟨gb118, 3, none⟩ = some (.int .i64 0) := (blk_cell BK118.out 3).trans rfl; have hcz9_4 : w6.cell? ⟨gb118, 4, none⟩ = some (.int .i64 0) := (blk_cell BK118.out 4).trans rfl; have hcz9_5 : w6.cell? ⟨gb118, 5, none⟩ = some (.slice none 0 0) := (blk_cell BK118.out 5).trans rfl; have hfz9_0 := blk_frozen BK118.out 0; have hfz9_1 := blk_frozen BK118.out 1; have hfz9_2 := blk_frozen BK118.out 2; have hfz9_3 := blk_frozen BK118.out 3; have hfz9_4 := blk_frozen BK118.out 4; have hfz9_5 := blk_frozen BK118.out 5; have hnb10 := NB117_0.out; have hnc10 := NB0_117.out; have hcz11_0 : w6.cell? ⟨gb117, 0, none⟩ = some (.int .i64 0) := (blk_cell BK117.out 0).trans rfl; have hcz11_1 : w6.cell? ⟨gb117, 1, none⟩ = some (.string (⟨#[]⟩ : ByteArray)) := (blk_cell BK117.out 1).trans rfl; have hcz11_2 : w6.cell? ⟨gb117, 2, none⟩ = some (.string (⟨#[]⟩ : ByteArray)) := (blk_cell BK117.out 2).trans rfl; have hcz11_3 : w6.cell? ⟨gb117, 3, none⟩ = some (.int .i64 0) := (blk_cell BK117.out 3).trans rfl; have hcz11_4 : w6.cell? ⟨gb117, 4, none⟩ = some (.int .i64 0) := (blk_cell BK117.out 4).trans rfl; have hcz11_5 : w6.cell? ⟨gb117, 5, none⟩ = some (.slice none 0 0) := (blk_cell BK117.out 5).trans rfl; have hfz11_0 := blk_frozen BK117.out 0; have hfz11_1 := blk_frozen BK117.out 1; have hfz11_2 := blk_frozen BK117.out 2; have hfz11_3 := blk_frozen BK117.out 3; have hfz11_4 := blk_frozen BK117.out 4; have hfz11_5 := blk_frozen BK117.out 5))
    refine bodyPost_ret (results_cell_row rfl _ _ gb117 35 #[.int .i64 (wrap64 (t119 + 1)), .string (⟨#[]⟩ : ByteArray), .string (⟨#[]⟩ : ByteArray), .int .i64 0, .int .i64 0, .slice none 0 0] (0, 0) _ rfl (by (with_reducible repeat (first | refine blk_drewN ?_ _ | refine blk_drew ?_ | refine blk_alloc ?_ _)); refine blk_put (cs := #[.int .i64 (wrap64 (t119 + 1)), .string (⟨#[]⟩ : ByteArray), .string (⟨#[]⟩ : ByteArray), .int .i64 0, .int .i64 0, .slice none 0 0]) ?_ 5 _ rfl; (with_reducible repeat (first | refine blk_drewN ?_ _ | refine blk_drew ?_ | refine blk_alloc ?_ _)); refine blk_put (cs := #[.int .i64 (wrap64 (t119 + 1)), .string (⟨#[]⟩ : ByteArray), .string (⟨#[]⟩ : ByteArray), .int .i64 0, .int .i64 0, .slice none 0 0]) ?_ 4 _ rfl; (with_reducible repeat (first | refine blk_drewN ?_ _ | refine blk_drew ?_ | refine blk_alloc ?_ _)); refine blk_put (cs := #[.int .i64 (wrap64 (t119 + 1)), .string (⟨#[]⟩ : ByteArray), .string (⟨#[]⟩ : ByteArray), .int .i64 0, .int .i64 0, .slice none 0 0]) ?_ 3 _ rfl; (with_reducible repeat (first | refine blk_drewN ?_ _ | refine blk_drew ?_ | refine blk_alloc ?_ _)); refine blk_put (cs := #[.int .i64 (wrap64 (t119 + 1)), .string (⟨#[]⟩ : ByteArray), .string (⟨#[]⟩ : ByteArray), .int .i64 0, .int .i64 0, .slice none 0 0]) ?_ 2 _ rfl; (with_reducible repeat (first | refine blk_drewN ?_ _ | refine blk_drew ?_ | refine blk_alloc ?_ _)); refine blk_put (cs := #[.int .i64 (wrap64 (t119 + 1)), .string (⟨#[]⟩ : ByteArray), .string (⟨#[]⟩ : ByteArray), .int .i64 0, .int .i64 0, .slice none 0 0]) ?_ 1 _ rfl; (with_reducible repeat (first | refine blk_drewN ?_ _ | refine blk_drew ?_ | refine blk_alloc ?_ _)); refine blk_put (cs := #[.int .i64 0, .string (⟨#[]⟩ : ByteArray), .string (⟨#[]⟩ : ByteArray), .int .i64 0, .int .i64 0, .slice none 0 0]) ?_ 0 _ rfl; (with_reducible repeat (first | refine blk_drewN ?_ _ | refine blk_drew ?_ | refine blk_alloc ?_ _)); refine blk_far ?_ NB117_118.out _; (with_reducible repeat (first | refine blk_drewN ?_ _ | refine blk_drew ?_ | refine blk_alloc ?_ _)); exact BK117.out) Try.underlying35 rfl (by kernel_rfl)) rfl ?_
    exact ⟨_, by first | rfl | (simp [errW_none, errW_some] <;> rfl) | (simp [*, errW_none, errW_some] <;> rfl), by first | exact Kd.R_nil _ _ _ _ _ | exact Kd.N_nil _ _ _ _ _ | exact Kd.V_nil _ _ _ _ _ | exact Kd.Q_nil _ _ _ _ _ | exact Kd.S_nil _ _ _ _ _, by repeat (first | (with_reducible first | exact HI0.out | apply IsS46.alloc | apply IsS46.drewN | apply IsS46.drew | apply IsS46.set_0 | refine IsS46.far ?_ NB0_117.out _ | refine IsS46.far ?_ NB0_118.out _) | exact HI0.out), by repeat (first | (with_reducible first | exact HB.out | apply below_alloc | apply pw_below_drewN | apply below_drew1 | refine below_set ?_ (IsS46.ge HI0.out) | refine below_set ?_ GE117.out | refine below_set ?_ GE118.out) | exact HB.out), by repeat (first | (with_reducible first | exact HK.out | apply KeepBut.set_ | apply keep_drewN | apply keep_drew | apply keep_alloc | refine keep_far ?_ GW117.out _ | refine keep_far ?_ GW118.out _) | exact HK.out)⟩
  · rw [if_neg c3] at H
    have c3b0 : ((wrap64 (t119 + 1)) == 13) = false := beq_eq_false_iff_ne.mpr c3
    have c3b1 : ((wrap64 (t119 + 1)) != 13) = true := bne_iff_ne.mpr c3
    replace H := Option.bind_eq_some_iff.mp H
    obtain ⟨⟨t121, t122⟩, A120, H⟩ := H
    replace H : (if (wrap64 (t119 + 1)) = 3 then (lockgateref28_Lot_Call.j0 k true t122 (wrap64 (t119 + 1)) t121 (⟨#[]⟩ : ByteArray) 0 0) else (lockgateref28_Lot_Call.j0 k ((wrap64 (t119 + 1)) == 6) t122 (wrap64 (t119 + 1)) t121 (⟨#[]⟩ : ByteArray) 0 0)) = some (r1, r2, r3, r4, r5, r6, r7) := H
    have A12 := Aside0.mk A120
    clear A120
    have HC13 := Aside0.mk H
    clear H
    go_enter Try.func19, Try.ntmps19
    go_upto_region 6 with (first | ((with_reducible refine gate_dst (N := 2) rfl ?_); refine box_event ?hg (N := 2) ?hd (cs := #[.int .i64 0, .string (⟨#[]⟩ : ByteArray), .string (⟨#[]⟩ : ByteArray), .int .i64 0, .int .i64 0, .slice none 0 0]) (t := 35) ?hr ?_; (case hd => rfl); (case hg => rfl); (case hr => first | (go_simp; done) | (go_simp; rfl)); intro gb117 hg w14 hbox hb; have n0_ := Aside0.mk (IsS46.below (by repeat (first | (with_reducible first | exact HI0.out | apply IsS46.alloc | apply IsS46.drewN | apply IsS46.drew | apply IsS46.set_0) | exact HI0.out)) hb); have n1_ := Aside0.mk (KeepBut.trans (by repeat (first | (with_reducible first | exact HK.out | apply KeepBut.set_ | apply keep_drewN | apply keep_drew | apply keep_alloc) | exact HK.out)) (KeepBut.of_below hb g none) (.inl rfl)); have n2_ := Aside0.mk (below_step (by repeat (first | (with_reducible first | exact HB.out | apply below_alloc | apply pw_below_drewN | apply below_drew1 | refine below_set ?_ (IsS46.ge HI0.out)) | exact HB.out)) hb); have n3_ := Aside0.mk (hbox); have n4_ := Aside0.mk ((by rw [hg]; exact (keep_size (w := w) (g := g) (row := none) (by repeat (first | (with_reducible first | exact HK.out | apply KeepBut.set_ | apply keep_drewN | apply keep_drew | apply keep_alloc) | exact HK.out))) : w.heap.size ≤ gb117)); have n5_ := Aside0.mk ((Nat.le_trans HW0.out (by rw [hg]; exact (keep_size (w := w) (g := g) (row := none) (by repeat (first | (with_reducible first | exact HK.out | apply KeepBut.set_ | apply keep_drewN | apply keep_drew | apply keep_alloc) | exact HK.out))) : w.heap.size ≤ gb117) : w0.heap.size ≤ gb117)); have n6_ := Aside0.mk ((by rw [hg]; exact Nat.ne_of_lt (IsS46.lt (show IsS46 w0 _ g s0_0 from by repeat (first | (with_reducible first | exact HI0.out | apply IsS46.alloc | apply IsS46.drewN | apply IsS46.drew | apply IsS46.set_0) | exact HI0.out))) : g ≠ gb117)); have n7_ := Aside0.mk ((by rw [hg]; exact Nat.ne_of_gt (IsS46.lt (show IsS46 w0 _ g s0_0 from by repeat (first | (with_reducible first | exact HI0.out | apply IsS46.alloc | apply IsS46.drewN | apply IsS46.drew | apply IsS46.set_0) | exact HI0.out))) : gb117 ≠ g)); clear HI0; clear HK; clear HB; have HI0 := n0_; have HK := n1_; have HB := n2_; have BK117 := n3_; have GW117 := n4_; have GE117 := n5_; have NB0_117 := n6_; have NB117_0 := n7_; clear n0_ n1_ n2_ n3_ n4_ n5_ n6_ n7_; clear hb hbox hg) | ((with_reducible refine gate_dst (N := 3) rfl ?_); refine box_event ?hg (N := 3) ?hd (cs := #[.int .i64 0, .string (⟨#[]⟩ : ByteArray), .string (⟨#[]⟩ : ByteArray), .int .i64 0, .int .i64 0, .slice none 0 0]) (t := 35) ?hr ?_; (case hd => rfl); (case hg => rfl); (case hr => first | (go_simp; done) | (go_simp; rfl)); intro gb118 hg w15 hbox hb; have n0_ := Aside0.mk (IsS46.below (by repeat (first | (with_reducible first | exact HI0.out | apply IsS46.alloc | apply IsS46.drewN | apply IsS46.drew | apply IsS46.set_0 | refine IsS46.far ?_ NB0_117.out _) | exact HI0.out)) hb); have n1_ := Aside0.mk (blk_below (g := gb117) (o := .cells #[.int .i64 0, .string (⟨#[]⟩ : ByteArray), .string (⟨#[]⟩ : ByteArray), .int .i64 0, .int .i64 0, .slice none 0 0] 35 (0, 0)) (by (with_reducible repeat (first | refine blk_drewN ?_ _ | refine blk_drew ?_ | refine blk_alloc ?_ _)); exact BK117.out) hb); have n2_ := Aside0.mk (KeepBut.trans (by repeat (first | (with_reducible first | exact HK.out | apply KeepBut.set_ | apply keep_drewN | apply keep_drew | apply keep_alloc | refine keep_far ?_ GW117.out _) | exact HK.out)) (KeepBut.of_below hb g none) (.inl rfl)); have n3_ := Aside0.mk (below_step (by repeat (first | (with_reducible first | exact HB.out | apply below_alloc | apply pw_below_drewN | apply below_drew1 | refine below_set ?_ (IsS46.ge HI0.out) | refine below_set ?_ GE117.out) | exact HB.out)) hb); have n4_ := Aside0.mk (hbox); have n5_ := Aside0.mk ((by rw [hg]; exact (keep_size (w := w) (g := g) (row := none) (by repeat (first | (with_reducible first | exact HK.out | apply KeepBut.set_ | apply keep_drewN | apply keep_drew | apply keep_alloc | refine keep_far ?_ GW117.out _) | exact HK.out))) : w.heap.size ≤ gb118)); have n6_ := Aside0.mk ((Nat.le_trans HW0.out (by rw [hg]; exact (keep_size (w := w) (g := g) (row := none) (by repeat (first | (with_reducible first | exact HK.out | apply KeepBut.set_ | apply keep_drewN | apply keep_drew | apply keep_alloc | refine keep_far ?_ GW117.out _) | exact HK.out))) : w.heap.size ≤ gb118) : w0.heap.size ≤ gb118)); have n7_ := Aside0.mk ((by rw [hg]; exact Nat.ne_of_lt (blk_lt (g := gb117) (o := .cells #[.int .i64 0, .string (⟨#[]⟩ : ByteArray), .string (⟨#[]⟩ : ByteArray), .int .i64 0, .int .i64 0, .slice none 0 0] 35 (0, 0)) (by (with_reducible repeat (first | refine blk_drewN ?_ _ | refine blk_drew ?_ | refine blk_alloc ?_ _)); exact BK117.out)) : gb117 ≠ gb118)); have n8_ := Aside0.mk ((by rw [hg]; exact Nat.ne_of_gt (blk_lt (g := gb117) (o := .cells #[.int .i64 0, .string (⟨#[]⟩ : ByteArray), .string (⟨#[]⟩ : ByteArray), .int .i64 0, .int .i64 0, .slice none 0 0] 35 (0, 0)) (by (with_reducible repeat (first | refine blk_drewN ?_ _ | refine blk_drew ?_ | refine blk_alloc ?_ _)); exact BK117.out)) : gb118 ≠ gb117)); have n9_ := Aside0.mk ((by rw [hg]; exact Nat.ne_of_lt (IsS46.lt (show IsS46 w0 _ g s0_0 from by repeat (first | (with_reducible first | exact HI0.out | apply IsS46.alloc | apply IsS46.drewN | apply IsS46.drew | apply IsS46.set_0 | refine IsS46.far ?_ NB0_117.out _) | exact HI0.out))) : g ≠ gb118)); have n10_ := Aside0.mk ((by rw [hg]; exact Nat.ne_of_gt (IsS46.lt (show IsS46 w0 _ g s0_0 from by repeat (first | (with_reducible first | exact HI0.out | apply IsS46.alloc | apply IsS46.drewN | apply IsS46.drew | apply IsS46.set_0 | refine IsS46.far ?_ NB0_117.out _) | exact HI0.out))) : gb118 ≠ g)); clear HI0; clear BK117; clear HK; clear HB; have HI0 := n0_; have BK117 := n1_; have HK := n2_; have HB := n3_; have BK118 := n4_; have GW118 := n5_; have GE118 := n6_; have NB117_118 := n7_; have NB118_117 := n8_; have NB0_118 := n9_; have NB118_0 := n10_; clear n0_ n1_ n2_ n3_ n4_ n5_ n6_ n7_ n8_ n9_ n10_; clear hb hbox hg) | ((with_reducible refine gate_callee (f := 11) rfl ?_); refine goesL_ (some 7) rfl rfl Try.func11 (by kernel_rfl) rfl #[.pointer (some ⟨g, 0, none⟩), .int .i64 13] rfl (by (try simp only [List.map_toArray, List.map_cons, List.map_nil]); first | done | rfl | (simp only [List.length_drop, List.length_take]; rfl)) ?_; (with_reducible refine (lockgateref28_Lot_Next.calls g s0_0 13 t119 t120 w0 _ ?side1 ?side2 A2.out).mono ?_); (case side1 => repeat (first | (with_reducible first | exact HI0.out | apply IsS46.alloc | apply IsS46.drewN | apply IsS46.drew | apply IsS46.set_0 | refine IsS46.far ?_ NB0_117.out _ | refine IsS46.far ?_ NB0_118.out _) | exact HI0.out)); (case side2 => repeat (first | (with_reducible first | exact HB.out | apply below_alloc | apply pw_below_drewN | apply below_drew1 | refine below_set ?_ (IsS46.ge HI0.out) | refine below_set ?_ GE117.out | refine below_set ?_ GE118.out) | exact HB.out)); rintro e w16 ⟨rfl, hi, hb, hk⟩; refine ⟨_, rfl, ?_⟩; have n0_ := Aside0.mk (KeepBut.blk hk (g' := gb117) (o := .cells #[.int .i64 0, .string (⟨#[]⟩ : ByteArray), .string (⟨#[]⟩ : ByteArray), .int .i64 0, .int .i64 0, .slice none 0 0] 35 (0, 0)) (by (with_reducible repeat (first | refine blk_drewN ?_ _ | refine blk_drew ?_ | refine blk_alloc ?_ _)); exact BK117.out) NB117_0.out (by simp)); have n1_ := Aside0.mk (KeepBut.blk hk (g' := gb118) (o := .cells #[.int .i64 0, .string (⟨#[]⟩ : ByteArray), .string (⟨#[]⟩ : ByteArray), .int .i64 0, .int .i64 0, .slice none 0 0] 35 (0, 0)) (by (with_reducible repeat (first | refine blk_drewN ?_ _ | refine blk_drew ?_ | refine blk_alloc ?_ _)); exact BK118.out) NB118_0.out (by simp)); have n2_ := Aside0.mk (KeepBut.trans (by repeat (first | (with_reducible first | exact HK.out | apply KeepBut.set_ | apply keep_drewN | apply keep_drew | apply keep_alloc | refine keep_far ?_ GW117.out _ | refine keep_far ?_ GW118.out _) | exact HK.out)) hk (.inl rfl)); have n3_ := Aside0.mk (hb); have n4_ := Aside0.mk (hi); clear BK117; clear BK118; clear HK; clear HB; clear HI0; have BK117 := n0_; have BK118 := n1_; have HK := n2_; have HB := n3_; have HI0 := n4_; clear n0_ n1_ n2_ n3_ n4_; (try clear hb); (try clear hb2); (try clear hk); (try clear hi); have hnb17 := NB118_117.out; have hnc17 := NB117_118.out; have hnb18 := NB118_0.out; have hnc18 := NB0_118.out; have hcz19_0 : w16.cell? ⟨gb118, 0, none⟩ = some (.int .i64 0) := (blk_cell BK118.out 0).trans rfl; have hcz19_1 : w16.cell? ⟨gb118, 1, none⟩ = some (.string (⟨#[]⟩ : ByteArray)) := (blk_cell BK118.out 1).trans rfl; have hcz19_2 : w16.cell? ⟨gb118, 2, none⟩ = some (.string (⟨#[]⟩ : ByteArray)) := (blk_cell BK118.out 2).trans rfl; have hcz19_3 : w16.cell? ⟨gb118, 3, none⟩ = some (.int .i64 0) := (blk_cell BK118.out 3).trans rfl; have hcz19_4 : w16.cell? ⟨gb118, 4, none⟩ = some (.int .i64 0) := (blk_cell BK118.out 4).trans rfl; have hcz19_5 : w16.cell? ⟨gb118, 5, none⟩ = some (.slice none 0 0) := (blk_cell BK118.out 5).trans rfl; have hfz19_0 := blk_frozen BK118.out 0; have hfz19_1 := blk_frozen BK118.out 1; have hfz19_2 := blk_frozen BK118.out 2; have hfz19_3 := blk_frozen BK118.out 3; have hfz19_4 := blk_frozen BK118.out 4; have hfz19_5 := blk_frozen BK118.out 5) | ((with_reducible refine gate_callee (f := 22) rfl ?_); refine goesL_ (some 15) rfl rfl Try.func22 (by kernel_rfl) rfl #[.pointer (some ⟨g, 0, none⟩)] rfl (by (try simp only [List.map_toArray, List.map_cons, List.map_nil]); first | done | rfl | (simp only [List.length_drop, List.length_take]; rfl)) ?_; (with_reducible refine (lockgateref28_Lot_path.calls k g t120 t121 t122 w0 _ ?side1 ?side2 A12.out).mono ?_); (case side1 => repeat (first | (with_reducible first | exact HI0.out | apply IsS46.alloc | apply IsS46.drewN | apply IsS46.drew | apply IsS46.set_0 | refine IsS46.far ?_ NB0_117.out _ | refine IsS46.far ?_ NB0_118.out _) | exact HI0.out)); (case side2 => repeat (first | (with_reducible first | exact HB.out | apply below_alloc | apply pw_below_drewN | apply below_drew1 | refine below_set ?_ (IsS46.ge HI0.out) | refine below_set ?_ GE117.out | refine below_set ?_ GE118.out) | exact HB.out)); rintro e w20 ⟨rfl, hi, hb, hk⟩; refine ⟨_, rfl, ?_⟩; have n0_ := Aside0.mk (KeepBut.blk hk (g' := gb117) (o := .cells #[.int .i64 0, .string (⟨#[]⟩ : ByteArray), .string (⟨#[]⟩ : ByteArray), .int .i64 0, .int .i64 0, .slice none 0 0] 35 (0, 0)) (by (with_reducible repeat (first | refine blk_drewN ?_ _ | refine blk_drew ?_ | refine blk_alloc ?_ _)); refine blk_far ?_ NB117_118.out _; (with_reducible repeat (first | refine blk_drewN ?_ _ | refine blk_drew ?_ | refine blk_alloc ?_ _)); exact BK117.out) NB117_0.out (by simp)); have n1_ := Aside0.mk (KeepBut.blk hk (g' := gb118) (o := .cells #[.int .i64 (wrap64 (t119 + 1)), .string (⟨#[]⟩ : ByteArray), .string (⟨#[]⟩ : ByteArray), .int .i64 0, .int .i64 0, .slice none 0 0] 35 (0, 0)) (by (with_reducible repeat (first | refine blk_drewN ?_ _ | refine blk_drew ?_ | refine blk_alloc ?_ _)); refine blk_put (cs := #[.int .i64 0, .string (⟨#[]⟩ : ByteArray), .string (⟨#[]⟩ : ByteArray), .int .i64 0, .int .i64 0, .slice none 0 0]) ?_ 0 _ rfl; (with_reducible repeat (first | refine blk_drewN ?_ _ | refine blk_drew ?_ | refine blk_alloc ?_ _)); exact BK118.out) NB118_0.out (by simp)); have n2_ := Aside0.mk (KeepBut.trans (by repeat (first | (with_reducible first | exact HK.out | apply KeepBut.set_ | apply keep_drewN | apply keep_drew | apply keep_alloc | refine keep_far ?_ GW117.out _ | refine keep_far ?_ GW118.out _) | exact HK.out)) hk (.inl rfl)); have n3_ := Aside0.mk (hb); have n4_ := Aside0.mk (hi); clear BK117; clear BK118; clear HK; clear HB; clear HI0; have BK117 := n0_; have BK118 := n1_; have HK := n2_; have HB := n3_; have HI0 := n4_; clear n0_ n1_ n2_ n3_ n4_; (try clear hb); (try clear hb2); (try clear hk); (try clear hi); have hcz21_0 : w20.cell? ⟨gb118, 0, none⟩ = some (.int .i64 (wrap64 (t119 + 1))) := (blk_cell BK118.out 0).trans rfl; have hcz21_1 : w20.cell? ⟨gb118, 1, none⟩ = some (.string (⟨#[]⟩ : ByteArray)) := (blk_cell BK118.out 1).trans rfl; have hcz21_2 : w20.cell? ⟨gb118, 2, none⟩ = some (.string (⟨#[]⟩ : ByteArray)) := (blk_cell BK118.out 2).trans rfl; have hcz21_3 : w20.cell? ⟨gb118, 3, none⟩ = some (.int .i64 0) := (blk_cell BK118.out 3).trans rfl; have hcz21_4 : w20.cell? ⟨gb118, 4, none⟩ = some (.int .i64 0) := (blk_cell BK118.out 4).trans rfl; have hcz21_5 : w20.cell? ⟨gb118, 5, none⟩ = some (.slice none 0 0) := (blk_cell BK118.out 5).trans rfl; have hfz21_0 := blk_frozen BK118.out 0; have hfz21_1 := blk_frozen BK118.out 1; have hfz21_2 := blk_frozen BK118.out 2; have hfz21_3 := blk_frozen BK118.out 3; have hfz21_4 := blk_frozen BK118.out 4; have hfz21_5 := blk_frozen BK118.out 5))
    (try simp only [Act.put, List.setIfInBounds_toArray, List.set_cons_zero, List.set_cons_succ])
    go_cut [24] (fun v24 wc => ∃ (kq : Nat) (x24_12 : Bool), v24 = .bool x24_12 ∧ Aside0 (lockgateref28_Lot_Call.j0 kq x24_12 t122 (wrap64 (t119 + 1)) t121 (⟨#[]⟩ : ByteArray) 0 0 = some (r1, r2, r3, r4, r5, r6, r7)) ∧ Aside0 (kq ≤ k) ∧ Aside0 (wc.heap[gb117]? = some (.cells #[.int .i64 0, .string (⟨#[]⟩ : ByteArray), .string (⟨#[]⟩ : ByteArray), .int .i64 0, .int .i64 0, (.slice none 0 0)] 35 (0, 0))) ∧ Aside0 (wc.heap[gb118]? = some (.cells #[.int .i64 (wrap64 (t119 + 1)), .string t121, .string (⟨#[]⟩ : ByteArray), .int .i64 0, .int .i64 0, (.slice none 0 0)] 35 (0, 0))) ∧ Aside0 (IsS46 w0 wc g t122) ∧ Aside0 (KeepBut w wc g none) ∧ Aside0 (Below w0.heap.size w0 wc))
    case first =>
      have H := HC13.out
      clear HC13
      by_cases c22 : (wrap64 (t119 + 1)) = 3
      · rw [if_pos c22] at H
        have c22b0 : ((wrap64 (t119 + 1)) == 3) = true := beq_iff_eq.mpr c22
        have c22b1 : ((wrap64 (t119 + 1)) != 3) = false := bne_eq_false_iff_eq.mpr c22
        clear c22
        (first | rw [c22b0] | (simp only [i64_w, i32_w]; rw [c22b0]) | skip)
        have H' := Aside0.mk H
        clear H
        have hnb23 := NB118_117.out
        have hnc23 := NB117_118.out
        have hnb24 := NB118_0.out
        have hnc24 := NB0_118.out
        have hcz25_0 : w20.cell? ⟨gb118, 0, none⟩ = some (.int .i64 (wrap64 (t119 + 1))) := (blk_cell BK118.out 0).trans rfl
        have hcz25_1 : w20.cell? ⟨gb118, 1, none⟩ = some (.string (⟨#[]⟩ : ByteArray)) := (blk_cell BK118.out 1).trans rfl
        have hcz25_2 : w20.cell? ⟨gb118, 2, none⟩ = some (.string (⟨#[]⟩ : ByteArray)) := (blk_cell BK118.out 2).trans rfl
        have hcz25_3 : w20.cell? ⟨gb118, 3, none⟩ = some (.int .i64 0) := (blk_cell BK118.out 3).trans rfl
        have hcz25_4 : w20.cell? ⟨gb118, 4, none⟩ = some (.int .i64 0) := (blk_cell BK118.out 4).trans rfl
        have hcz25_5 : w20.cell? ⟨gb118, 5, none⟩ = some (.slice none 0 0) := (blk_cell BK118.out 5).trans rfl
        have hfz25_0 := blk_frozen BK118.out 0
        have hfz25_1 := blk_frozen BK118.out 1
        have hfz25_2 := blk_frozen BK118.out 2
        have hfz25_3 := blk_frozen BK118.out 3
        have hfz25_4 := blk_frozen BK118.out 4
        have hfz25_5 := blk_frozen BK118.out 5
        go_wp2
        go_meet
        case rel => exact ⟨_, (true), (by first | rfl | (simp; done) | (simp [*]; done)), H', ⟨by first | omega | exact Nat.le_refl _⟩, ⟨by (with_reducible repeat (first | refine blk_drewN ?_ _ | refine blk_drew ?_ | refine blk_alloc ?_ _)); refine blk_far ?_ NB117_118.out _; (with_reducible repeat (first | refine blk_drewN ?_ _ | refine blk_drew ?_ | refine blk_alloc ?_ _)); exact BK117.out⟩, ⟨by (with_reducible repeat (first | refine blk_drewN ?_ _ | refine blk_drew ?_ | refine blk_alloc ?_ _)); refine blk_put (cs := #[.int .i64 (wrap64 (t119 + 1)), .string (⟨#[]⟩ : ByteArray), .string (⟨#[]⟩ : ByteArray), .int .i64 0, .int .i64 0, .slice none 0 0]) ?_ 1 _ rfl; (with_reducible repeat (first | refine blk_drewN ?_ _ | refine blk_drew ?_ | refine blk_alloc ?_ _)); exact BK118.out⟩, ⟨by repeat (first | (with_reducible first | exact HI0.out | apply IsS46.alloc | apply IsS46.drewN | apply IsS46.drew | apply IsS46.set_0 | refine IsS46.far ?_ NB0_117.out _ | refine IsS46.far ?_ NB0_118.out _) | exact HI0.out)⟩, ⟨by repeat (first | (with_reducible first | exact HK.out | apply KeepBut.set_ | apply keep_drewN | apply keep_drew | apply keep_alloc | refine keep_far ?_ GW117.out _ | refine keep_far ?_ GW118.out _) | exact HK.out)⟩, ⟨by repeat (first | (with_reducible first | exact HB.out | apply below_alloc | apply pw_below_drewN | apply below_drew1 | refine below_set ?_ (IsS46.ge HI0.out) | refine below_set ?_ GE117.out | refine below_set ?_ GE118.out) | exact HB.out)⟩⟩
      · rw [if_neg c22] at H
        have c22b0 : ((wrap64 (t119 + 1)) == 3) = false := beq_eq_false_iff_ne.mpr c22
        have c22b1 : ((wrap64 (t119 + 1)) != 3) = true := bne_iff_ne.mpr c22
        (first | rw [c22b0] | (simp only [i64_w, i32_w]; rw [c22b0]) | skip)
        have H' := Aside0.mk H
        clear H
        have hnb26 := NB118_117.out
        have hnc26 := NB117_118.out
        have hnb27 := NB118_0.out
        have hnc27 := NB0_118.out
        have hcz28_0 : w20.cell? ⟨gb118, 0, none⟩ = some (.int .i64 (wrap64 (t119 + 1))) := (blk_cell BK118.out 0).trans rfl
        have hcz28_1 : w20.cell? ⟨gb118, 1, none⟩ = some (.string (⟨#[]⟩ : ByteArray)) := (blk_cell BK118.out 1).trans rfl
        have hcz28_2 : w20.cell? ⟨gb118, 2, none⟩ = some (.string (⟨#[]⟩ : ByteArray)) := (blk_cell BK118.out 2).trans rfl
        have hcz28_3 : w20.cell? ⟨gb118, 3, none⟩ = some (.int .i64 0) := (blk_cell BK118.out 3).trans rfl
        have hcz28_4 : w20.cell? ⟨gb118, 4, none⟩ = some (.int .i64 0) := (blk_cell BK118.out 4).trans rfl
        have hcz28_5 : w20.cell? ⟨gb118, 5, none⟩ = some (.slice none 0 0) := (blk_cell BK118.out 5).trans rfl
        have hfz28_0 := blk_frozen BK118.out 0
        have hfz28_1 := blk_frozen BK118.out 1
        have hfz28_2 := blk_frozen BK118.out 2
        have hfz28_3 := blk_frozen BK118.out 3
        have hfz28_4 := blk_frozen BK118.out 4
        have hfz28_5 := blk_frozen BK118.out 5
        go_wp2
        go_meet
        case rel => exact ⟨_, (((wrap64 (t119 + 1)) == 6)), (by first | rfl | (simp; done) | (simp [*]; done)), H', ⟨by first | omega | exact Nat.le_refl _⟩, ⟨by (with_reducible repeat (first | refine blk_drewN ?_ _ | refine blk_drew ?_ | refine blk_alloc ?_ _)); refine blk_far ?_ NB117_118.out _; (with_reducible repeat (first | refine blk_drewN ?_ _ | refine blk_drew ?_ | refine blk_alloc ?_ _)); exact BK117.out⟩, ⟨by (with_reducible repeat (first | refine blk_drewN ?_ _ | refine blk_drew ?_ | refine blk_alloc ?_ _)); refine blk_put (cs := #[.int .i64 (wrap64 (t119 + 1)), .string (⟨#[]⟩ : ByteArray), .string (⟨#[]⟩ : ByteArray), .int .i64 0, .int .i64 0, .slice none 0 0]) ?_ 1 _ rfl; (with_reducible repeat (first | refine blk_drewN ?_ _ | refine blk_drew ?_ | refine blk_alloc ?_ _)); exact BK118.out⟩, ⟨by repeat (first | (with_reducible first | exact HI0.out | apply IsS46.alloc | apply IsS46.drewN | apply IsS46.drew | apply IsS46.set_0 | refine IsS46.far ?_ NB0_117.out _ | refine IsS46.far ?_ NB0_118.out _) | exact HI0.out)⟩, ⟨by repeat (first | (with_reducible first | exact HK.out | apply KeepBut.set_ | apply keep_drewN | apply keep_drew | apply keep_alloc | refine keep_far ?_ GW117.out _ | refine keep_far ?_ GW118.out _) | exact HK.out)⟩, ⟨by repeat (first | (with_reducible first | exact HB.out | apply below_alloc | apply pw_below_drewN | apply below_drew1 | refine below_set ?_ (IsS46.ge HI0.out) | refine below_set ?_ GE117.out | refine below_set ?_ GE118.out) | exact HB.out)⟩⟩
    case rest =>
      clear HC13
      try clear c1
      try clear c2
      try clear p2
      try clear c3
      try clear c3b0
      try clear c3b1
      try clear p6
      try clear c7
      try clear c8
      try clear c10
      try clear c11
      try clear c17
      try clear c18
      try clear c19
      try clear c22
      try clear c22b0
      try clear c22b1
      try clear c23
      try clear c24
      try clear c26
      try clear c27
      try clear hcz11_0
      try clear hcz11_1
      try clear hcz11_2
      try clear hcz11_3
      try clear hcz11_4
      try clear hcz11_5
      try clear hcz19_0
      try clear hcz19_1
      try clear hcz19_2
      try clear hcz19_3
      try clear hcz19_4
      try clear hcz19_5
      try clear hcz21_0
      try clear hcz21_1
      try clear hcz21_2
      try clear hcz21_3
      try clear hcz21_4
      try clear hcz21_5
      try clear hcz25_0
      try clear hcz25_1
      try clear hcz25_2
      try clear hcz25_3
      try clear hcz25_4
      try clear hcz25_5
      try clear hcz28_0
      try clear hcz28_1
      try clear hcz28_2
      try clear hcz28_3
      try clear hcz28_4
      try clear hcz28_5
      try clear hcz9_0
      try clear hcz9_1
      try clear hcz9_2
      try clear hcz9_3
      try clear hcz9_4
      try clear hcz9_5
      try clear hfz11_0
      try clear hfz11_1
      try clear hfz11_2
      try clear hfz11_3
      try clear hfz11_4
      try clear hfz11_5
      try clear hfz19_0
      try clear hfz19_1
      try clear hfz19_2
      try clear hfz19_3
      try clear hfz19_4
      try clear hfz19_5
      try clear hfz21_0
      try clear hfz21_1
      try clear hfz21_2
      try clear hfz21_3
      try clear hfz21_4
      try clear hfz21_5
      try clear hfz25_0
      try clear hfz25_1
      try clear hfz25_2
      try clear hfz25_3
      try clear hfz25_4
      try clear hfz25_5
      try clear hfz28_0
      try clear hfz28_1
      try clear hfz28_2
      try clear hfz28_3
      try clear hfz28_4
      try clear hfz28_5
      try clear hfz9_0
      try clear hfz9_1
      try clear hfz9_2
      try clear hfz9_3
      try clear hfz9_4
      try clear hfz9_5
      obtain ⟨kq, x24_12, rfl, HA, HJ12, BK117, BK118, HI0, HK, HB⟩ := hcut
      cases kq with
      | zero => exact absurd HA.out (by simp [lockgateref28_Lot_Call.j0])
      | succ kj12 =>
        have H := HA.out
        clear HA
        simp only [lockgateref28_Lot_Call.j0] at H
        have HC29 := Aside0.mk H
        clear H
        go_upto_if 24 with (fail)
        go_cut [] (fun wc => ∃ (kq : Nat) (x1000_28 : Int) (x119002_28 : ByteArray), Aside0 (lockgateref28_Lot_Call.j1 kq x1000_28 (wrap64 (t119 + 1)) t121 x119002_28 0 0 = some (r1, r2, r3, r4, r5, r6, r7)) ∧ Aside0 (kq ≤ kj12) ∧ Aside0 (wc.heap[gb117]? = some (.cells #[.int .i64 0, .string (⟨#[]⟩ : ByteArray), .string (⟨#[]⟩ : ByteArray), .int .i64 0, .int .i64 0, (.slice none 0 0)] 35 (0, 0))) ∧ Aside0 (wc.heap[gb118]? = some (.cells #[.int .i64 (wrap64 (t119 + 1)), .string t121, .string x119002_28, .int .i64 0, .int .i64 0, (.slice none 0 0)] 35 (0, 0))) ∧ Aside0 (IsS46 w0 wc g x1000_28) ∧ Aside0 (KeepBut w wc g none) ∧ Aside0 (Below w0.heap.size w0 wc))
        case first =>
          have H := HC29.out
          clear HC29
          by_cases c30 : x24_12 = true
          · subst c30
            have H1 : ((lockgateref28_Lot_path.f kj12 t122).bind fun bt123 => (lockgateref28_Lot_Call.j1 kj12 bt123.2 (wrap64 (t119 + 1)) t121 bt123.1 0 0)) = some (r1, r2, r3, r4, r5, r6, r7) := by rw [if_pos rfl] at H; exact H
            clear H
            have H := H1
            clear H1
            replace H := Option.bind_eq_some_iff.mp H
            obtain ⟨⟨t123, t124⟩, A310, H⟩ := H
            replace H : (lockgateref28_Lot_Call.j1 kj12 t124 (wrap64 (t119 + 1)) t121 t123 0 0) = some (r1, r2, r3, r4, r5, r6, r7) := H
            have A31 := Aside0.mk A310
            clear A310
            have H' := Aside0.mk H
            clear H
            go_wp2_with (first | ((with_reducible refine gate_callee (f := 22) rfl ?_); refine goesL_ (some 26) rfl rfl Try.func22 (by kernel_rfl) rfl #[.pointer (some ⟨g, 0, none⟩)] rfl (by (try simp only [List.map_toArray, List.map_cons, List.map_nil]); first | done | rfl | (simp only [List.length_drop, List.length_take]; rfl)) ?_; (with_reducible refine (lockgateref28_Lot_path.calls kj12 g t122 t123 t124 w0 _ ?side1 ?side2 A31.out).mono ?_); (case side1 => repeat (first | (with_reducible first | exact HI0.out | apply IsS46.alloc | apply IsS46.drewN | apply IsS46.drew | apply IsS46.set_0 | refine IsS46.far ?_ NB0_117.out _ | refine IsS46.far ?_ NB0_118.out _) | exact HI0.out)); (case side2 => repeat (first | (with_reducible first | exact HB.out | apply below_alloc | apply pw_below_drewN | apply below_drew1 | refine below_set ?_ (IsS46.ge HI0.out) | refine below_set ?_ GE117.out | refine below_set ?_ GE118.out) | exact HB.out)); rintro e w32 ⟨rfl, hi, hb, hk⟩; refine ⟨_, rfl, ?_⟩; have n0_ := Aside0.mk (KeepBut.blk hk (g' := gb117) (o := .cells #[.int .i64 0, .string (⟨#[]⟩ : ByteArray), .string (⟨#[]⟩ : ByteArray), .int .i64 0, .int .i64 0, .slice none 0 0] 35 (0, 0)) (by (with_reducible repeat (first | refine blk_drewN ?_ _ | refine blk_drew ?_ | refine blk_alloc ?_ _)); exact BK117.out) NB117_0.out (by simp)); have n1_ := Aside0.mk (KeepBut.blk hk (g' := gb118) (o := .cells #[.int .i64 (wrap64 (t119 + 1)), .string t121, .string (⟨#[]⟩ : ByteArray), .int .i64 0, .int .i64 0, .slice none 0 0] 35 (0, 0)) (by (with_reducible repeat (first | refine blk_drewN ?_ _ | refine blk_drew ?_ | refine blk_alloc ?_ _)); exact BK118.out) NB118_0.out (by simp)); have n2_ := Aside0.mk (KeepBut.trans (by repeat (first | (with_reducible first | exact HK.out | apply KeepBut.set_ | apply keep_drewN | apply keep_drew | apply keep_alloc | refine keep_far ?_ GW117.out _ | refine keep_far ?_ GW118.out _) | exact HK.out)) hk (.inl rfl)); have n3_ := Aside0.mk (hb); have n4_ := Aside0.mk (hi); clear BK117; clear BK118; clear HK; clear HB; clear HI0; have BK117 := n0_; have BK118 := n1_; have HK := n2_; have HB := n3_; have HI0 := n4_; clear n0_ n1_ n2_ n3_ n4_; (try clear hb); (try clear hb2); (try clear hk); (try clear hi); have hnb33 := NB118_117.out; have hnc33 := NB117_118.out; have hnb34 := NB118_0.out; have hnc34 := NB0_118.out; have hcz35_0 : w32.cell? ⟨gb118, 0, none⟩ = some (.int .i64 (wrap64 (t119 + 1))) := (blk_cell BK118.out 0).trans rfl; have hcz35_1 : w32.cell? ⟨gb118, 1, none⟩ = some (.string t121) := (blk_cell BK118.out 1).trans rfl; have hcz35_2 : w32.cell? ⟨gb118, 2, none⟩ = some (.string (⟨#[]⟩ : ByteArray)) := (blk_cell BK118.out 2).trans rfl; have hcz35_3 : w32.cell? ⟨gb118, 3, none⟩ = some (.int .i64 0) := (blk_cell BK118.out 3).trans rfl; have hcz35_4 : w32.cell? ⟨gb118, 4, none⟩ = some (.int .i64 0) := (blk_cell BK118.out 4).trans rfl; have hcz35_5 : w32.cell? ⟨gb118, 5, none⟩ = some (.slice none 0 0) := (blk_cell BK118.out 5).trans rfl; have hfz35_0 := blk_frozen BK118.out 0; have hfz35_1 := blk_frozen BK118.out 1; have hfz35_2 := blk_frozen BK118.out 2; have hfz35_3 := blk_frozen BK118.out 3; have hfz35_4 := blk_frozen BK118.out 4; have hfz35_5 := blk_frozen BK118.out 5))
            go_meet
            case rel => exact ⟨_, (t124), (t123), H', ⟨by have := HJ12.out; first | omega | exact Nat.le_refl _⟩, ⟨by (with_reducible repeat (first | refine blk_drewN ?_ _ | refine blk_drew ?_ | refine blk_alloc ?_ _)); refine blk_far ?_ NB117_118.out _; (with_reducible repeat (first | refine blk_drewN ?_ _ | refine blk_drew ?_ | refine blk_alloc ?_ _)); exact BK117.out⟩, ⟨by (with_reducible repeat (first | refine blk_drewN ?_ _ | refine blk_drew ?_ | refine blk_alloc ?_ _)); refine blk_put (cs := #[.int .i64 (wrap64 (t119 + 1)), .string t121, .string (⟨#[]⟩ : ByteArray), .int .i64 0, .int .i64 0, .slice none 0 0]) ?_ 2 _ rfl; (with_reducible repeat (first | refine blk_drewN ?_ _ | refine blk_drew ?_ | refine blk_alloc ?_ _)); exact BK118.out⟩, ⟨by repeat (first | (with_reducible first | exact HI0.out | apply IsS46.alloc | apply IsS46.drewN | apply IsS46.drew | apply IsS46.set_0 | refine IsS46.far ?_ NB0_117.out _ | refine IsS46.far ?_ NB0_118.out _) | exact HI0.out)⟩, ⟨by repeat (first | (with_reducible first | exact HK.out | apply KeepBut.set_ | apply keep_drewN | apply keep_drew | apply keep_alloc | refine keep_far ?_ GW117.out _ | refine keep_far ?_ GW118.out _) | exact HK.out)⟩, ⟨by repeat (first | (with_reducible first | exact HB.out | apply below_alloc | apply pw_below_drewN | apply below_drew1 | refine below_set ?_ (IsS46.ge HI0.out) | refine below_set ?_ GE117.out | refine below_set ?_ GE118.out) | exact HB.out)⟩⟩
          · replace c30 := Bool.eq_false_iff.mpr c30
            subst c30
            have H1 : (lockgateref28_Lot_Call.j1 kj12 t122 (wrap64 (t119 + 1)) t121 (⟨#[]⟩ : ByteArray) 0 0) = some (r1, r2, r3, r4, r5, r6, r7) := by rw [if_neg (show ¬ (false = true) by decide)] at H; exact H
            clear H
            have H := H1
            clear H1
            have H' := Aside0.mk H
            clear H
            go_wp2
            go_meet
            case rel => exact ⟨_, (t122), ((⟨#[]⟩ : ByteArray)), H', ⟨by have := HJ12.out; first | omega | exact Nat.le_refl _⟩, ⟨by (with_reducible repeat (first | refine blk_drewN ?_ _ | refine blk_drew ?_ | refine blk_alloc ?_ _)); exact BK117.out⟩, ⟨by (with_reducible repeat (first | refine blk_drewN ?_ _ | refine blk_drew ?_ | refine blk_alloc ?_ _)); exact BK118.out⟩, ⟨by repeat (first | (with_reducible first | exact HI0.out | apply IsS46.alloc | apply IsS46.drewN | apply IsS46.drew | apply IsS46.set_0 | refine IsS46.far ?_ NB0_117.out _ | refine IsS46.far ?_ NB0_118.out _) | exact HI0.out)⟩, ⟨by repeat (first | (with_reducible first | exact HK.out | apply KeepBut.set_ | apply keep_drewN | apply keep_drew | apply keep_alloc | refine keep_far ?_ GW117.out _ | refine keep_far ?_ GW118.out _) | exact HK.out)⟩, ⟨by repeat (first | (with_reducible first | exact HB.out | apply below_alloc | apply pw_below_drewN | apply below_drew1 | refine below_set ?_ (IsS46.ge HI0.out) | refine below_set ?_ GE117.out | refine below_set ?_ GE118.out) | exact HB.out)⟩⟩
        case rest =>
          clear HC29
          try clear c1
          try clear c2
          try clear p2
          try clear c3
          try clear c3b0
          try clear c3b1
          try clear p6
          try clear c7
          try clear c8
          try clear c10
          try clear c11
          try clear c17
          try clear c18
          try clear c19
          try clear c22
          try clear c22b0
          try clear c22b1
          try clear c23
          try clear c24
          try clear c26
          try clear c27
          try clear c30
          try clear c33
          try clear c34
          try clear hcz11_0
          try clear hcz11_1
          try clear hcz11_2
          try clear hcz11_3
          try clear hcz11_4
          try clear hcz11_5
          try clear hcz19_0
          try clear hcz19_1
          try clear hcz19_2
          try clear hcz19_3
          try clear hcz19_4
          try clear hcz19_5
          try clear hcz21_0
          try clear hcz21_1
          try clear hcz21_2
          try clear hcz21_3
          try clear hcz21_4
          try clear hcz21_5
          try clear hcz25_0
          try clear hcz25_1
          try clear hcz25_2
          try clear hcz25_3
          try clear hcz25_4
          try clear hcz25_5
          try clear hcz28_0
          try clear hcz28_1
          try clear hcz28_2
          try clear hcz28_3
          try clear hcz28_4
          try clear hcz28_5
          try clear hcz35_0
          try clear hcz35_1
          try clear hcz35_2
          try clear hcz35_3
          try clear hcz35_4
          try clear hcz35_5
          try clear hcz9_0
          try clear hcz9_1
          try clear hcz9_2
          try clear hcz9_3
          try clear hcz9_4
          try clear hcz9_5
          try clear hfz11_0
          try clear hfz11_1
          try clear hfz11_2
          try clear hfz11_3
          try clear hfz11_4
          try clear hfz11_5
          try clear hfz19_0
          try clear hfz19_1
          try clear hfz19_2
          try clear hfz19_3
          try clear hfz19_4
          try clear hfz19_5
          try clear hfz21_0
          try clear hfz21_1
          try clear hfz21_2
          try clear hfz21_3
          try clear hfz21_4
          try clear hfz21_5
          try clear hfz25_0
          try clear hfz25_1
          try clear hfz25_2
          try clear hfz25_3
          try clear hfz25_4
          try clear hfz25_5
          try clear hfz28_0
          try clear hfz28_1
          try clear hfz28_2
          try clear hfz28_3
          try clear hfz28_4
          try clear hfz28_5
          try clear hfz35_0
          try clear hfz35_1
          try clear hfz35_2
          try clear hfz35_3
          try clear hfz35_4
          try clear hfz35_5
          try clear hfz9_0
          try clear hfz9_1
          try clear hfz9_2
          try clear hfz9_3
          try clear hfz9_4
          try clear hfz9_5
          try clear p2
          try clear p6
          obtain ⟨kq, x1000_28, x119002_28, HA, HJ28, BK117, BK118, HI0, HK, HB⟩ := hcut
          cases kq with
          | zero => exact absurd HA.out (by simp [lockgateref28_Lot_Call.j1])
          | succ kj28 =>
            have H := HA.out
            clear HA
            simp only [lockgateref28_Lot_Call.j1] at H
            have HC36 := Aside0.mk H
            clear H
            go_upto_region 8 with (fail)
            go_cut [35] (fun v35 wc => ∃ (kq : Nat) (x35_35 : Bool), v35 = .bool x35_35 ∧ Aside0 (lockgateref28_Lot_Call.j2 kq x35_35 x1000_28 (wrap64 (t119 + 1)) t121 x119002_28 0 0 = some (r1, r2, r3, r4, r5, r6, r7)) ∧ Aside0 (kq ≤ kj28) ∧ Aside0 (wc.heap[gb117]? = some (.cells #[.int .i64 0, .string (⟨#[]⟩ : ByteArray), .string (⟨#[]⟩ : ByteArray), .int .i64 0, .int .i64 0, (.slice none 0 0)] 35 (0, 0))) ∧ Aside0 (wc.heap[gb118]? = some (.cells #[.int .i64 (wrap64 (t119 + 1)), .string t121, .string x119002_28, .int .i64 0, .int .i64 0, (.slice none 0 0)] 35 (0, 0))) ∧ Aside0 (IsS46 w0 wc g x1000_28) ∧ Aside0 (KeepBut w wc g none) ∧ Aside0 (Below w0.heap.size w0 wc))
            case first =>
              have H := HC36.out
              clear HC36
              by_cases c37 : (wrap64 (t119 + 1)) = 7
              · rw [if_pos c37] at H
                have c37b0 : ((wrap64 (t119 + 1)) == 7) = true := beq_iff_eq.mpr c37
                have c37b1 : ((wrap64 (t119 + 1)) != 7) = false := bne_eq_false_iff_eq.mpr c37
                clear c37
                (first | rw [c37b0] | (simp only [i64_w, i32_w]; rw [c37b0]) | skip)
                have H' := Aside0.mk H
                clear H
                have hnb38 := NB118_117.out
                have hnc38 := NB117_118.out
                have hnb39 := NB118_0.out
                have hnc39 := NB0_118.out
                have hcz40_0 : wc.cell? ⟨gb118, 0, none⟩ = some (.int .i64 (wrap64 (t119 + 1))) := (blk_cell BK118.out 0).trans rfl
                have hcz40_1 : wc.cell? ⟨gb118, 1, none⟩ = some (.string t121) := (blk_cell BK118.out 1).trans rfl
                have hcz40_2 : wc.cell? ⟨gb118, 2, none⟩ = some (.string x119002_28) := (blk_cell BK118.out 2).trans rfl
                have hcz40_3 : wc.cell? ⟨gb118, 3, none⟩ = some (.int .i64 0) := (blk_cell BK118.out 3).trans rfl
                have hcz40_4 : wc.cell? ⟨gb118, 4, none⟩ = some (.int .i64 0) := (blk_cell BK118.out 4).trans rfl
                have hcz40_5 : wc.cell? ⟨gb118, 5, none⟩ = some (.slice none 0 0) := (blk_cell BK118.out 5).trans rfl
                have hfz40_0 := blk_frozen BK118.out 0
                have hfz40_1 := blk_frozen BK118.out 1
                have hfz40_2 := blk_frozen BK118.out 2
                have hfz40_3 := blk_frozen BK118.out 3
                have hfz40_4 := blk_frozen BK118.out 4
                have hfz40_5 := blk_frozen BK118.out 5
                go_wp2
                go_meet
                case rel => exact ⟨_, (true), (by first | rfl | (simp; done) | (simp [*]; done)), H', ⟨by have := HJ12.out; have := HJ28.out; first | omega | exact Nat.le_refl _⟩, ⟨by (with_reducible repeat (first | refine blk_drewN ?_ _ | refine blk_drew ?_ | refine blk_alloc ?_ _)); exact BK117.out⟩, ⟨by (with_reducible repeat (first | refine blk_drewN ?_ _ | refine blk_drew ?_ | refine blk_alloc ?_ _)); exact BK118.out⟩, ⟨by repeat (first | (with_reducible first | exact HI0.out | apply IsS46.alloc | apply IsS46.drewN | apply IsS46.drew | apply IsS46.set_0 | refine IsS46.far ?_ NB0_117.out _ | refine IsS46.far ?_ NB0_118.out _) | exact HI0.out)⟩, ⟨by repeat (first | (with_reducible first | exact HK.out | apply KeepBut.set_ | apply keep_drewN | apply keep_drew | apply keep_alloc | refine keep_far ?_ GW117.out _ | refine keep_far ?_ GW118.out _) | exact HK.out)⟩, ⟨by repeat (first | (with_reducible first | exact HB.out | apply below_alloc | apply pw_below_drewN | apply below_drew1 | refine below_set ?_ (IsS46.ge HI0.out) | refine below_set ?_ GE117.out | refine below_set ?_ GE118.out) | exact HB.out)⟩⟩
              · rw [if_neg c37] at H
                have c37b0 : ((wrap64 (t119 + 1)) == 7) = false := beq_eq_false_iff_ne.mpr c37
                have c37b1 : ((wrap64 (t119 + 1)) != 7) = true := bne_iff_ne.mpr c37
                (first | rw [c37b0] | (simp only [i64_w, i32_w]; rw [c37b0]) | skip)
                have H' := Aside0.mk H
                clear H
                have hnb41 := NB118_117.out
                have hnc41 := NB117_118.out
                have hnb42 := NB118_0.out
                have hnc42 := NB0_118.out
                have hcz43_0 : wc.cell? ⟨gb118, 0, none⟩ = some (.int .i64 (wrap64 (t119 + 1))) := (blk_cell BK118.out 0).trans rfl
                have hcz43_1 : wc.cell? ⟨gb118, 1, none⟩ = some (.string t121) := (blk_cell BK118.out 1).trans rfl
                have hcz43_2 : wc.cell? ⟨gb118, 2, none⟩ = some (.string x119002_28) := (blk_cell BK118.out 2).trans rfl
                have hcz43_3 : wc.cell? ⟨gb118, 3, none⟩ = some (.int .i64 0) := (blk_cell BK118.out 3).trans rfl
                have hcz43_4 : wc.cell? ⟨gb118, 4, none⟩ = some (.int .i64 0) := (blk_cell BK118.out 4).trans rfl
                have hcz43_5 : wc.cell? ⟨gb118, 5, none⟩ = some (.slice none 0 0) := (blk_cell BK118.out 5).trans rfl
                have hfz43_0 := blk_frozen BK118.out 0
                have hfz43_1 := blk_frozen BK118.out 1
                have hfz43_2 := blk_frozen BK118.out 2
                have hfz43_3 := blk_frozen BK118.out 3
                have hfz43_4 := blk_frozen BK118.out 4
                have hfz43_5 := blk_frozen BK118.out 5
                go_wp2
                go_meet
                case rel => exact ⟨_, (((wrap64 (t119 + 1)) == 8)), (by first | rfl | (simp; done) | (simp [*]; done)), H', ⟨by have := HJ12.out; have := HJ28.out; first | omega | exact Nat.le_refl _⟩, ⟨by (with_reducible repeat (first | refine blk_drewN ?_ _ | refine blk_drew ?_ | refine blk_alloc ?_ _)); exact BK117.out⟩, ⟨by (with_reducible repeat (first | refine blk_drewN ?_ _ | refine blk_drew ?_ | refine blk_alloc ?_ _)); exact BK118.out⟩, ⟨by repeat (first | (with_reducible first | exact HI0.out | apply IsS46.alloc | apply IsS46.drewN | apply IsS46.drew | apply IsS46.set_0 | refine IsS46.far ?_ NB0_117.out _ | refine IsS46.far ?_ NB0_118.out _) | exact HI0.out)⟩, ⟨by repeat (first | (with_reducible first | exact HK.out | apply KeepBut.set_ | apply keep_drewN | apply keep_drew | apply keep_alloc | refine keep_far ?_ GW117.out _ | refine keep_far ?_ GW118.out _) | exact HK.out)⟩, ⟨by repeat (first | (with_reducible first | exact HB.out | apply below_alloc | apply pw_below_drewN | apply below_drew1 | refine below_set ?_ (IsS46.ge HI0.out) | refine below_set ?_ GE117.out | refine below_set ?_ GE118.out) | exact HB.out)⟩⟩
            case rest =>
              clear HC36
              try clear c1
              try clear c2
              try clear p2
              try clear c3
              try clear c3b0
              try clear c3b1
              try clear c4
              try clear p6
              try clear c7
              try clear c8
              try clear c10
              try clear c11
              try clear c17
              try clear c18
              try clear c19
              try clear c22
              try clear c22b0
              try clear c22b1
              try clear c23
              try clear c24
              try clear c26
              try clear c27
              try clear c30
              try clear c33
              try clear c34
              try clear c37
              try clear c37b0
              try clear c37b1
              try clear c38
              try clear c39
              try clear c41
              try clear c42
              try clear hcz11_0
              try clear hcz11_1
              try clear hcz11_2
              try clear hcz11_3
              try clear hcz11_4
              try clear hcz11_5
              try clear hcz19_0
              try clear hcz19_1
              try clear hcz19_2
              try clear hcz19_3
              try clear hcz19_4
              try clear hcz19_5
              try clear hcz21_0
              try clear hcz21_1
              try clear hcz21_2
              try clear hcz21_3
              try clear hcz21_4
              try clear hcz21_5
              try clear hcz25_0
              try clear hcz25_1
              try clear hcz25_2
              try clear hcz25_3
              try clear hcz25_4
              try clear hcz25_5
              try clear hcz28_0
              try clear hcz28_1
              try clear hcz28_2
              try clear hcz28_3
              try clear hcz28_4
              try clear hcz28_5
              try clear hcz35_0
              try clear hcz35_1
              try clear hcz35_2
              try clear hcz35_3
              try clear hcz35_4
              try clear hcz35_5
              try clear hcz40_0
              try clear hcz40_1
              try clear hcz40_2
              try clear hcz40_3
              try clear hcz40_4
              try clear hcz40_5
              try clear hcz43_0
              try clear hcz43_1
              try clear hcz43_2
              try clear hcz43_3
              try clear hcz43_4
              try clear hcz43_5
              try clear hcz9_0
              try clear hcz9_1
              try clear hcz9_2
              try clear hcz9_3
              try clear hcz9_4
              try clear hcz9_5
              try clear hfz11_0
              try clear hfz11_1
              try clear hfz11_2
              try clear hfz11_3
              try clear hfz11_4
              try clear hfz11_5
              try clear hfz19_0
              try clear hfz19_1
              try clear hfz19_2
              try clear hfz19_3
              try clear hfz19_4
              try clear hfz19_5
              try clear hfz21_0
              try clear hfz21_1
              try clear hfz21_2
              try clear hfz21_3
              try clear hfz21_4
              try clear hfz21_5
              try clear hfz25_0
              try clear hfz25_1
              try clear hfz25_2
              try clear hfz25_3
              try clear hfz25_4
              try clear hfz25_5
              try clear hfz28_0
              try clear hfz28_1
              try clear hfz28_2
              try clear hfz28_3
              try clear hfz28_4
              try clear hfz28_5
              try clear hfz35_0
              try clear hfz35_1
              try clear hfz35_2
              try clear hfz35_3
              try clear hfz35_4
              try clear hfz35_5
              try clear hfz40_0
              try clear hfz40_1
              try clear hfz40_2
              try clear hfz40_3
              try clear hfz40_4
              try clear hfz40_5
              try clear hfz43_0
              try clear hfz43_1
              try clear hfz43_2
              try clear hfz43_3
              try clear hfz43_4
              try clear hfz43_5
              try clear hfz9_0
              try clear hfz9_1
              try clear hfz9_2
              try clear hfz9_3
              try clear hfz9_4
              try clear hfz9_5
              try clear p2
              try clear p6
              obtain ⟨kq, x35_35, rfl, HA, HJ35, BK117, BK118, HI0, HK, HB⟩ := hcut
              cases kq with
              | zero => exact absurd HA.out (by simp [lockgateref28_Lot_Call.j2])
              | succ kj35 =>
                have H := HA.out
                clear HA
                simp only [lockgateref28_Lot_Call.j2] at H
                have HC44 := Aside0.mk H
                clear H
                go_upto_if 35 with (fail)
                go_cut [] (fun wc => ∃ (kq : Nat) (x1000_43 : Int) (x119003_43 : Int), Aside0 (lockgateref28_Lot_Call.j3 kq x1000_43 (wrap64 (t119 + 1)) t121 x119002_28 x119003_43 0 = some (r1, r2, r3, r4, r5, r6, r7)) ∧ Aside0 (kq ≤ kj35) ∧ Aside0 (wc.heap[gb117]? = some (.cells #[.int .i64 0, .string (⟨#[]⟩ : ByteArray), .string (⟨#[]⟩ : ByteArray), .int .i64 0, .int .i64 0, (.slice none 0 0)] 35 (0, 0))) ∧ Aside0 (wc.heap[gb118]? = some (.cells #[.int .i64 (wrap64 (t119 + 1)), .string t121, .string x119002_28, .int .i64 x119003_43, .int .i64 0, (.slice none 0 0)] 35 (0, 0))) ∧ Aside0 (IsS46 w0 wc g x1000_43) ∧ Aside0 (KeepBut w wc g none) ∧ Aside0 (Below w0.heap.size w0 wc))
                case first =>
                  have H := HC44.out
                  clear HC44
                  by_cases c45 : x35_35 = true
                  · subst c45
                    have H1 : ((lockgateref28_Lot_Next.f x1000_28 4).bind fun bt125 => (lockgateref28_Lot_Call.j3 kj35 bt125.2 (wrap64 (t119 + 1)) t121 x119002_28 (wrap64 (bt125.1 * 700)) 0)) = some (r1, r2, r3, r4, r5, r6, r7) := by rw [if_pos rfl] at H; exact H
                    clear H
                    have H := H1
                    clear H1
                    replace H := Option.bind_eq_some_iff.mp H
                    obtain ⟨⟨t125, t126⟩, A460, H⟩ := H
                    replace H : (lockgateref28_Lot_Call.j3 kj35 t126 (wrap64 (t119 + 1)) t121 x119002_28 (wrap64 (t125 * 700)) 0) = some (r1, r2, r3, r4, r5, r6, r7) := H
                    have A46 := Aside0.mk A460
                    clear A460
                    have H' := Aside0.mk H
                    clear H
                    go_wp2_with (first | ((with_reducible refine gate_callee (f := 11) rfl ?_); refine goesL_ (some 37) rfl rfl Try.func11 (by kernel_rfl) rfl #[.pointer (some ⟨g, 0, none⟩), .int .i64 4] rfl (by (try simp only [List.map_toArray, List.map_cons, List.map_nil]); first | done | rfl | (simp only [List.length_drop, List.length_take]; rfl)) ?_; (with_reducible refine (lockgateref28_Lot_Next.calls g x1000_28 4 t125 t126 w0 _ ?side1 ?side2 A46.out).mono ?_); (case side1 => repeat (first | (with_reducible first | exact HI0.out | apply IsS46.alloc | apply IsS46.drewN | apply IsS46.drew | apply IsS46.set_0 | refine IsS46.far ?_ NB0_117.out _ | refine IsS46.far ?_ NB0_118.out _) | exact HI0.out)); (case side2 => repeat (first | (with_reducible first | exact HB.out | apply below_alloc | apply pw_below_drewN | apply below_drew1 | refine below_set ?_ (IsS46.ge HI0.out) | refine below_set ?_ GE117.out | refine below_set ?_ GE118.out) | exact HB.out)); rintro e w47 ⟨rfl, hi, hb, hk⟩; refine ⟨_, rfl, ?_⟩; have n0_ := Aside0.mk (KeepBut.blk hk (g' := gb117) (o := .cells #[.int .i64 0, .string (⟨#[]⟩ : ByteArray), .string (⟨#[]⟩ : ByteArray), .int .i64 0, .int .i64 0, .slice none 0 0] 35 (0, 0)) (by (with_reducible repeat (first | refine blk_drewN ?_ _ | refine blk_drew ?_ | refine blk_alloc ?_ _)); exact BK117.out) NB117_0.out (by simp)); have n1_ := Aside0.mk (KeepBut.blk hk (g' := gb118) (o := .cells #[.int .i64 (wrap64 (t119 + 1)), .string t121, .string x119002_28, .int .i64 0, .int .i64 0, .slice none 0 0] 35 (0, 0)) (by (with_reducible repeat (first | refine blk_drewN ?_ _ | refine blk_drew ?_ | refine blk_alloc ?_ _)); exact BK118.out) NB118_0.out (by simp)); have n2_ := Aside0.mk (KeepBut.trans (by repeat (first | (with_reducible first | exact HK.out | apply KeepBut.set_ | apply keep_drewN | apply keep_drew | apply keep_alloc | refine keep_far ?_ GW117.out _ | refine keep_far ?_ GW118.out _) | exact HK.out)) hk (.inl rfl)); have n3_ := Aside0.mk (hb); have n4_ := Aside0.mk (hi); clear BK117; clear BK118; clear HK; clear HB; clear HI0; have BK117 := n0_; have BK118 := n1_; have HK := n2_; have HB := n3_; have HI0 := n4_; clear n0_ n1_ n2_ n3_ n4_; (try clear hb); (try clear hb2); (try clear hk); (try clear hi); have hnb48 := NB118_117.out; have hnc48 := NB117_118.out; have hnb49 := NB118_0.out; have hnc49 := NB0_118.out; have hcz50_0 : w47.cell? ⟨gb118, 0, none⟩ = some (.int .i64 (wrap64 (t119 + 1))) := (blk_cell BK118.out 0).trans rfl; have hcz50_1 : w47.cell? ⟨gb118, 1, none⟩ = some (.string t121) := (blk_cell BK118.out 1).trans rfl; have hcz50_2 : w47.cell? ⟨gb118, 2, none⟩ = some (.string x119002_28) := (blk_cell BK118.out 2).trans rfl; have hcz50_3 : w47.cell? ⟨gb118, 3, none⟩ = some (.int .i64 0) := (blk_cell BK118.out 3).trans rfl; have hcz50_4 : w47.cell? ⟨gb118, 4, none⟩ = some (.int .i64 0) := (blk_cell BK118.out 4).trans rfl; have hcz50_5 : w47.cell? ⟨gb118, 5, none⟩ = some (.slice none 0 0) := (blk_cell BK118.out 5).trans rfl; have hfz50_0 := blk_frozen BK118.out 0; have hfz50_1 := blk_frozen BK118.out 1; have hfz50_2 := blk_frozen BK118.out 2; have hfz50_3 := blk_frozen BK118.out 3; have hfz50_4 := blk_frozen BK118.out 4; have hfz50_5 := blk_frozen BK118.out 5))
                    go_meet
                    case rel => exact ⟨_, (t126), (wrap64 (t125 * 700)), H', ⟨by have := HJ12.out; have := HJ28.out; have := HJ35.out; first | omega | exact Nat.le_refl _⟩, ⟨by (with_reducible repeat (first | refine blk_drewN ?_ _ | refine blk_drew ?_ | refine blk_alloc ?_ _)); refine blk_far ?_ NB117_118.out _; (with_reducible repeat (first | refine blk_drewN ?_ _ | refine blk_drew ?_ | refine blk_alloc ?_ _)); exact BK117.out⟩, ⟨by (with_reducible repeat (first | refine blk_drewN ?_ _ | refine blk_drew ?_ | refine blk_alloc ?_ _)); refine blk_put (cs := #[.int .i64 (wrap64 (t119 + 1)), .string t121, .string x119002_28, .int .i64 0, .int .i64 0, .slice none 0 0]) ?_ 3 _ rfl; (with_reducible repeat (first | refine blk_drewN ?_ _ | refine blk_drew ?_ | refine blk_alloc ?_ _)); exact BK118.out⟩, ⟨by repeat (first | (with_reducible first | exact HI0.out | apply IsS46.alloc | apply IsS46.drewN | apply IsS46.drew | apply IsS46.set_0 | refine IsS46.far ?_ NB0_117.out _ | refine IsS46.far ?_ NB0_118.out _) | exact HI0.out)⟩, ⟨by repeat (first | (with_reducible first | exact HK.out | apply KeepBut.set_ | apply keep_drewN | apply keep_drew | apply keep_alloc | refine keep_far ?_ GW117.out _ | refine keep_far ?_ GW118.out _) | exact HK.out)⟩, ⟨by repeat (first | (with_reducible first | exact HB.out | apply below_alloc | apply pw_below_drewN | apply below_drew1 | refine below_set ?_ (IsS46.ge HI0.out) | refine below_set ?_ GE117.out | refine below_set ?_ GE118.out) | exact HB.out)⟩⟩
                  · replace c45 := Bool.eq_false_iff.mpr c45
                    subst c45
                    have H1 : (lockgateref28_Lot_Call.j3 kj35 x1000_28 (wrap64 (t119 + 1)) t121 x119002_28 0 0) = some (r1, r2, r3, r4, r5, r6, r7) := by rw [if_neg (show ¬ (false = true) by decide)] at H; exact H
                    clear H
                    have H := H1
                    clear H1
                    have H' := Aside0.mk H
                    clear H
                    go_wp2
                    go_meet
                    case rel => exact ⟨_, (x1000_28), (0), H', ⟨by have := HJ12.out; have := HJ28.out; have := HJ35.out; first | omega | exact Nat.le_refl _⟩, ⟨by (with_reducible repeat (first | refine blk_drewN ?_ _ | refine blk_drew ?_ | refine blk_alloc ?_ _)); exact BK117.out⟩, ⟨by (with_reducible repeat (first | refine blk_drewN ?_ _ | refine blk_drew ?_ | refine blk_alloc ?_ _)); exact BK118.out⟩, ⟨by repeat (first | (with_reducible first | exact HI0.out | apply IsS46.alloc | apply IsS46.drewN | apply IsS46.drew | apply IsS46.set_0 | refine IsS46.far ?_ NB0_117.out _ | refine IsS46.far ?_ NB0_118.out _) | exact HI0.out)⟩, ⟨by repeat (first | (with_reducible first | exact HK.out | apply KeepBut.set_ | apply keep_drewN | apply keep_drew | apply keep_alloc | refine keep_far ?_ GW117.out _ | refine keep_far ?_ GW118.out _) | exact HK.out)⟩, ⟨by repeat (first | (with_reducible first | exact HB.out | apply below_alloc | apply pw_below_drewN | apply below_drew1 | refine below_set ?_ (IsS46.ge HI0.out) | refine below_set ?_ GE117.out | refine below_set ?_ GE118.out) | exact HB.out)⟩⟩
                case rest =>
                  clear HC44
                  try clear c1
                  try clear c2
                  try clear p2
                  try clear c3
                  try clear c3b0
                  try clear c3b1
                  try clear c4
                  try clear p6
                  try clear c7
                  try clear c8
                  try clear c10
                  try clear c11
                  try clear c17
                  try clear c18
                  try clear c19
                  try clear c22
                  try clear c22b0
                  try clear c22b1
                  try clear c23
                  try clear c24
                  try clear c26
                  try clear c27
                  try clear c30
                  try clear c33
                  try clear c34
                  try clear c37
                  try clear c37b0
                  try clear c37b1
                  try clear c38
                  try clear c39
                  try clear c41
                  try clear c42
                  try clear c45
                  try clear c48
                  try clear c49
                  try clear hcz11_0
                  try clear hcz11_1
                  try clear hcz11_2
                  try clear hcz11_3
                  try clear hcz11_4
                  try clear hcz11_5
                  try clear hcz19_0
                  try clear hcz19_1
                  try clear hcz19_2
                  try clear hcz19_3
                  try clear hcz19_4
                  try clear hcz19_5
                  try clear hcz21_0
                  try clear hcz21_1
                  try clear hcz21_2
                  try clear hcz21_3
                  try clear hcz21_4
                  try clear hcz21_5
                  try clear hcz25_0
                  try clear hcz25_1
                  try clear hcz25_2
                  try clear hcz25_3
                  try clear hcz25_4
                  try clear hcz25_5
                  try clear hcz28_0
                  try clear hcz28_1
                  try clear hcz28_2
                  try clear hcz28_3
                  try clear hcz28_4
                  try clear hcz28_5
                  try clear hcz35_0
                  try clear hcz35_1
                  try clear hcz35_2
                  try clear hcz35_3
                  try clear hcz35_4
                  try clear hcz35_5
                  try clear hcz40_0
                  try clear hcz40_1
                  try clear hcz40_2
                  try clear hcz40_3
                  try clear hcz40_4
                  try clear hcz40_5
                  try clear hcz43_0
                  try clear hcz43_1
                  try clear hcz43_2
                  try clear hcz43_3
                  try clear hcz43_4
                  try clear hcz43_5
                  try clear hcz50_0
                  try clear hcz50_1
                  try clear hcz50_2
                  try clear hcz50_3
                  try clear hcz50_4
                  try clear hcz50_5
                  try clear hcz9_0
                  try clear hcz9_1
                  try clear hcz9_2
                  try clear hcz9_3
                  try clear hcz9_4
                  try clear hcz9_5
                  try clear hfz11_0
                  try clear hfz11_1
                  try clear hfz11_2
                  try clear hfz11_3
                  try clear hfz11_4
                  try clear hfz11_5
                  try clear hfz19_0
                  try clear hfz19_1
                  try clear hfz19_2
                  try clear hfz19_3
                  try clear hfz19_4
                  try clear hfz19_5
                  try clear hfz21_0
                  try clear hfz21_1
                  try clear hfz21_2
                  try clear hfz21_3
                  try clear hfz21_4
                  try clear hfz21_5
                  try clear hfz25_0
                  try clear hfz25_1
                  try clear hfz25_2
                  try clear hfz25_3
                  try clear hfz25_4
                  try clear hfz25_5
                  try clear hfz28_0
                  try clear hfz28_1
                  try clear hfz28_2
                  try clear hfz28_3
                  try clear hfz28_4
                  try clear hfz28_5
                  try clear hfz35_0
                  try clear hfz35_1
                  try clear hfz35_2
                  try clear hfz35_3
                  try clear hfz35_4
                  try clear hfz35_5
                  try clear hfz40_0
                  try clear hfz40_1
                  try clear hfz40_2
                  try clear hfz40_3
                  try clear hfz40_4
                  try clear hfz40_5
                  try clear hfz43_0
                  try clear hfz43_1
                  try clear hfz43_2
                  try clear hfz43_3
                  try clear hfz43_4
                  try clear hfz43_5
                  try clear hfz50_0
                  try clear hfz50_1
                  try clear hfz50_2
                  try clear hfz50_3
                  try clear hfz50_4
                  try clear hfz50_5
                  try clear hfz9_0
                  try clear hfz9_1
                  try clear hfz9_2
                  try clear hfz9_3
                  try clear hfz9_4
                  try clear hfz9_5
                  try clear p2
                  try clear p6
                  obtain ⟨kq, x1000_43, x119003_43, HA, HJ43, BK117, BK118, HI0, HK, HB⟩ := hcut
                  cases kq with
                  | zero => exact absurd HA.out (by simp [lockgateref28_Lot_Call.j3])
                  | succ kj43 =>
                    have H := HA.out
                    clear HA
                    simp only [lockgateref28_Lot_Call.j3] at H
                    have HC51 := Aside0.mk H
                    clear H
                    go_upto_region 10 with (fail)
                    go_cut [47] (fun v47 wc => ∃ (kq : Nat) (x47_50 : Bool), v47 = .bool x47_50 ∧ Aside0 (lockgateref28_Lot_Call.j4 kq x47_50 x1000_43 (wrap64 (t119 + 1)) t121 x119002_28 x119003_43 0 = some (r1, r2, r3, r4, r5, r6, r7)) ∧ Aside0 (kq ≤ kj43) ∧ Aside0 (wc.heap[gb117]? = some (.cells #[.int .i64 0, .string (⟨#[]⟩ : ByteArray), .string (⟨#[]⟩ : ByteArray), .int .i64 0, .int .i64 0, (.slice none 0 0)] 35 (0, 0))) ∧ Aside0 (wc.heap[gb118]? = some (.cells #[.int .i64 (wrap64 (t119 + 1)), .string t121, .string x119002_28, .int .i64 x119003_43, .int .i64 0, (.slice none 0 0)] 35 (0, 0))) ∧ Aside0 (IsS46 w0 wc g x1000_43) ∧ Aside0 (KeepBut w wc g none) ∧ Aside0 (Below w0.heap.size w0 wc))
                    case first =>
                      have H := HC51.out
                      clear HC51
                      by_cases c52 : (wrap64 (t119 + 1)) = 7
                      · rw [if_pos c52] at H
                        have c52b0 : ((wrap64 (t119 + 1)) == 7) = true := beq_iff_eq.mpr c52
                        have c52b1 : ((wrap64 (t119 + 1)) != 7) = false := bne_eq_false_iff_eq.mpr c52
                        clear c52
                        (first | rw [c52b0] | (simp only [i64_w, i32_w]; rw [c52b0]) | skip)
                        have H' := Aside0.mk H
                        clear H
                        have hnb53 := NB118_117.out
                        have hnc53 := NB117_118.out
                        have hnb54 := NB118_0.out
                        have hnc54 := NB0_118.out
                        have hcz55_0 : wc.cell? ⟨gb118, 0, none⟩ = some (.int .i64 (wrap64 (t119 + 1))) := (blk_cell BK118.out 0).trans rfl
                        have hcz55_1 : wc.cell? ⟨gb118, 1, none⟩ = some (.string t121) := (blk_cell BK118.out 1).trans rfl
                        have hcz55_2 : wc.cell? ⟨gb118, 2, none⟩ = some (.string x119002_28) := (blk_cell BK118.out 2).trans rfl
                        have hcz55_3 : wc.cell? ⟨gb118, 3, none⟩ = some (.int .i64 x119003_43) := (blk_cell BK118.out 3).trans rfl
                        have hcz55_4 : wc.cell? ⟨gb118, 4, none⟩ = some (.int .i64 0) := (blk_cell BK118.out 4).trans rfl
                        have hcz55_5 : wc.cell? ⟨gb118, 5, none⟩ = some (.slice none 0 0) := (blk_cell BK118.out 5).trans rfl
                        have hfz55_0 := blk_frozen BK118.out 0
                        have hfz55_1 := blk_frozen BK118.out 1
                        have hfz55_2 := blk_frozen BK118.out 2
                        have hfz55_3 := blk_frozen BK118.out 3
                        have hfz55_4 := blk_frozen BK118.out 4
                        have hfz55_5 := blk_frozen BK118.out 5
                        go_wp2
                        go_meet
                        case rel => exact ⟨_, (true), (by first | rfl | (simp; done) | (simp [*]; done)), H', ⟨by have := HJ12.out; have := HJ28.out; have := HJ35.out; have := HJ43.out; first | omega | exact Nat.le_refl _⟩, ⟨by (with_reducible repeat (first | refine blk_drewN ?_ _ | refine blk_drew ?_ | refine blk_alloc ?_ _)); exact BK117.out⟩, ⟨by (with_reducible repeat (first | refine blk_drewN ?_ _ | refine blk_drew ?_ | refine blk_alloc ?_ _)); exact BK118.out⟩, ⟨by repeat (first | (with_reducible first | exact HI0.out | apply IsS46.alloc | apply IsS46.drewN | apply IsS46.drew | apply IsS46.set_0 | refine IsS46.far ?_ NB0_117.out _ | refine IsS46.far ?_ NB0_118.out _) | exact HI0.out)⟩, ⟨by repeat (first | (with_reducible first | exact HK.out | apply KeepBut.set_ | apply keep_drewN | apply keep_drew | apply keep_alloc | refine keep_far ?_ GW117.out _ | refine keep_far ?_ GW118.out _) | exact HK.out)⟩, ⟨by repeat (first | (with_reducible first | exact HB.out | apply below_alloc | apply pw_below_drewN | apply below_drew1 | refine below_set ?_ (IsS46.ge HI0.out) | refine below_set ?_ GE117.out | refine below_set ?_ GE118.out) | exact HB.out)⟩⟩
                      · rw [if_neg c52] at H
                        have c52b0 : ((wrap64 (t119 + 1)) == 7) = false := beq_eq_false_iff_ne.mpr c52
                        have c52b1 : ((wrap64 (t119 + 1)) != 7) = true := bne_iff_ne.mpr c52
                        (first | rw [c52b0] | (simp only [i64_w, i32_w]; rw [c52b0]) | skip)
                        have H' := Aside0.mk H
                        clear H
                        have hnb56 := NB118_117.out
                        have hnc56 := NB117_118.out
                        have hnb57 := NB118_0.out
                        have hnc57 := NB0_118.out
                        have hcz58_0 : wc.cell? ⟨gb118, 0, none⟩ = some (.int .i64 (wrap64 (t119 + 1))) := (blk_cell BK118.out 0).trans rfl
                        have hcz58_1 : wc.cell? ⟨gb118, 1, none⟩ = some (.string t121) := (blk_cell BK118.out 1).trans rfl
                        have hcz58_2 : wc.cell? ⟨gb118, 2, none⟩ = some (.string x119002_28) := (blk_cell BK118.out 2).trans rfl
                        have hcz58_3 : wc.cell? ⟨gb118, 3, none⟩ = some (.int .i64 x119003_43) := (blk_cell BK118.out 3).trans rfl
                        have hcz58_4 : wc.cell? ⟨gb118, 4, none⟩ = some (.int .i64 0) := (blk_cell BK118.out 4).trans rfl
                        have hcz58_5 : wc.cell? ⟨gb118, 5, none⟩ = some (.slice none 0 0) := (blk_cell BK118.out 5).trans rfl
                        have hfz58_0 := blk_frozen BK118.out 0
                        have hfz58_1 := blk_frozen BK118.out 1
                        have hfz58_2 := blk_frozen BK118.out 2
                        have hfz58_3 := blk_frozen BK118.out 3
                        have hfz58_4 := blk_frozen BK118.out 4
                        have hfz58_5 := blk_frozen BK118.out 5
                        go_wp2
                        go_meet
                        case rel => exact ⟨_, (((wrap64 (t119 + 1)) == 9)), (by first | rfl | (simp; done) | (simp [*]; done)), H', ⟨by have := HJ12.out; have := HJ28.out; have := HJ35.out; have := HJ43.out; first | omega | exact Nat.le_refl _⟩, ⟨by (with_reducible repeat (first | refine blk_drewN ?_ _ | refine blk_drew ?_ | refine blk_alloc ?_ _)); exact BK117.out⟩, ⟨by (with_reducible repeat (first | refine blk_drewN ?_ _ | refine blk_drew ?_ | refine blk_alloc ?_ _)); exact BK118.out⟩, ⟨by repeat (first | (with_reducible first | exact HI0.out | apply IsS46.alloc | apply IsS46.drewN | apply IsS46.drew | apply IsS46.set_0 | refine IsS46.far ?_ NB0_117.out _ | refine IsS46.far ?_ NB0_118.out _) | exact HI0.out)⟩, ⟨by repeat (first | (with_reducible first | exact HK.out | apply KeepBut.set_ | apply keep_drewN | apply keep_drew | apply keep_alloc | refine keep_far ?_ GW117.out _ | refine keep_far ?_ GW118.out _) | exact HK.out)⟩, ⟨by repeat (first | (with_reducible first | exact HB.out | apply below_alloc | apply pw_below_drewN | apply below_drew1 | refine below_set ?_ (IsS46.ge HI0.out) | refine below_set ?_ GE117.out | refine below_set ?_ GE118.out) | exact HB.out)⟩⟩
                    case rest =>
                      clear HC51
                      try clear c1
                      try clear c2
                      try clear p2
                      try clear c3
                      try clear c3b0
                      try clear c3b1
                      try clear c4
                      try clear c5
                      try clear p6
                      try clear c7
                      try clear c8
                      try clear c10
                      try clear c11
                      try clear c17
                      try clear c18
                      try clear c19
                      try clear c22
                      try clear c22b0
                      try clear c22b1
                      try clear c23
                      try clear c24
                      try clear c26
                      try clear c27
                      try clear c30
                      try clear c33
                      try clear c34
                      try clear c37
                      try clear c37b0
                      try clear c37b1
                      try clear c38
                      try clear c39
                      try clear c41
                      try clear c42
                      try clear c45
                      try clear c48
                      try clear c49
                      try clear c52
                      try clear c52b0
                      try clear c52b1
                      try clear c53
                      try clear c54
                      try clear c56
                      try clear c57
                      try clear hcz11_0
                      try clear hcz11_1
                      try clear hcz11_2
                      try clear hcz11_3
                      try clear hcz11_4
                      try clear hcz11_5
                      try clear hcz19_0
                      try clear hcz19_1
                      try clear hcz19_2
                      try clear hcz19_3
                      try clear hcz19_4
                      try clear hcz19_5
                      try clear hcz21_0
                      try clear hcz21_1
                      try clear hcz21_2
                      try clear hcz21_3
                      try clear hcz21_4
                      try clear hcz21_5
                      try clear hcz25_0
                      try clear hcz25_1
                      try clear hcz25_2
                      try clear hcz25_3
                      try clear hcz25_4
                      try clear hcz25_5
                      try clear hcz28_0
                      try clear hcz28_1
                      try clear hcz28_2
                      try clear hcz28_3
                      try clear hcz28_4
                      try clear hcz28_5
                      try clear hcz35_0
                      try clear hcz35_1
                      try clear hcz35_2
                      try clear hcz35_3
                      try clear hcz35_4
                      try clear hcz35_5
                      try clear hcz40_0
                      try clear hcz40_1
                      try clear hcz40_2
                      try clear hcz40_3
                      try clear hcz40_4
                      try clear hcz40_5
                      try clear hcz43_0
                      try clear hcz43_1
                      try clear hcz43_2
                      try clear hcz43_3
                      try clear hcz43_4
                      try clear hcz43_5
                      try clear hcz50_0
                      try clear hcz50_1
                      try clear hcz50_2
                      try clear hcz50_3
                      try clear hcz50_4
                      try clear hcz50_5
                      try clear hcz55_0
                      try clear hcz55_1
                      try clear hcz55_2
                      try clear hcz55_3
                      try clear hcz55_4
                      try clear hcz55_5
                      try clear hcz58_0
                      try clear hcz58_1
                      try clear hcz58_2
                      try clear hcz58_3
                      try clear hcz58_4
                      try clear hcz58_5
                      try clear hcz9_0
                      try clear hcz9_1
                      try clear hcz9_2
                      try clear hcz9_3
                      try clear hcz9_4
                      try clear hcz9_5
                      try clear hfz11_0
                      try clear hfz11_1
                      try clear hfz11_2
                      try clear hfz11_3
                      try clear hfz11_4
                      try clear hfz11_5
                      try clear hfz19_0
                      try clear hfz19_1
                      try clear hfz19_2
                      try clear hfz19_3
                      try clear hfz19_4
                      try clear hfz19_5
                      try clear hfz21_0
                      try clear hfz21_1
                      try clear hfz21_2
                      try clear hfz21_3
                      try clear hfz21_4
                      try clear hfz21_5
                      try clear hfz25_0
                      try clear hfz25_1
                      try clear hfz25_2
                      try clear hfz25_3
                      try clear hfz25_4
                      try clear hfz25_5
                      try clear hfz28_0
                      try clear hfz28_1
                      try clear hfz28_2
                      try clear hfz28_3
                      try clear hfz28_4
                      try clear hfz28_5
                      try clear hfz35_0
                      try clear hfz35_1
                      try clear hfz35_2
                      try clear hfz35_3
                      try clear hfz35_4
                      try clear hfz35_5
                      try clear hfz40_0
                      try clear hfz40_1
                      try clear hfz40_2
                      try clear hfz40_3
                      try clear hfz40_4
                      try clear hfz40_5
                      try clear hfz43_0
                      try clear hfz43_1
                      try clear hfz43_2
                      try clear hfz43_3
                      try clear hfz43_4
                      try clear hfz43_5
                      try clear hfz50_0
                      try clear hfz50_1
                      try clear hfz50_2
                      try clear hfz50_3
                      try clear hfz50_4
                      try clear hfz50_5
                      try clear hfz55_0
                      try clear hfz55_1
                      try clear hfz55_2
                      try clear hfz55_3
                      try clear hfz55_4
                      try clear hfz55_5
                      try clear hfz58_0
                      try clear hfz58_1
                      try clear hfz58_2
                      try clear hfz58_3
                      try clear hfz58_4
                      try clear hfz58_5
                      try clear hfz9_0
                      try clear hfz9_1
                      try clear hfz9_2
                      try clear hfz9_3
                      try clear hfz9_4
                      try clear hfz9_5
                      try clear p2
                      try clear p6
                      obtain ⟨kq, x47_50, rfl, HA, HJ50, BK117, BK118, HI0, HK, HB⟩ := hcut
                      cases kq with
                      | zero => exact absurd HA.out (by simp [lockgateref28_Lot_Call.j4])
                      | succ kj50 =>
                        have H := HA.out
                        clear HA
                        simp only [lockgateref28_Lot_Call.j4] at H
                        have HC59 := Aside0.mk H
                        clear H
                        go_upto_if 47 with (fail)
                        go_cut [] (fun wc => ∃ (kq : Nat) (x1000_58 : Int) (x119004_58 : Int), Aside0 (lockgateref28_Lot_Call.j5 kq x1000_58 (wrap64 (t119 + 1)) t121 x119002_28 x119003_43 x119004_58 = some (r1, r2, r3, r4, r5, r6, r7)) ∧ Aside0 (kq ≤ kj50) ∧ Aside0 (wc.heap[gb117]? = some (.cells #[.int .i64 0, .string (⟨#[]⟩ : ByteArray), .string (⟨#[]⟩ : ByteArray), .int .i64 0, .int .i64 0, (.slice none 0 0)] 35 (0, 0))) ∧ Aside0 (wc.heap[gb118]? = some (.cells #[.int .i64 (wrap64 (t119 + 1)), .string t121, .string x119002_28, .int .i64 x119003_43, .int .i64 x119004_58, (.slice none 0 0)] 35 (0, 0))) ∧ Aside0 (IsS46 w0 wc g x1000_58) ∧ Aside0 (KeepBut w wc g none) ∧ Aside0 (Below w0.heap.size w0 wc))
                        case first =>
                          have H := HC59.out
                          clear HC59
                          by_cases c60 : x47_50 = true
                          · subst c60
                            have H1 : ((lockgateref28_Lot_Next.f x1000_43 3000).bind fun bt127 => (lockgateref28_Lot_Call.j5 kj50 bt127.2 (wrap64 (t119 + 1)) t121 x119002_28 x119003_43 bt127.1)) = some (r1, r2, r3, r4, r5, r6, r7) := by rw [if_pos rfl] at H; exact H
                            clear H
                            have H := H1
                            clear H1
                            replace H := Option.bind_eq_some_iff.mp H
                            obtain ⟨⟨t127, t128⟩, A610, H⟩ := H
                            replace H : (lockgateref28_Lot_Call.j5 kj50 t128 (wrap64 (t119 + 1)) t121 x119002_28 x119003_43 t127) = some (r1, r2, r3, r4, r5, r6, r7) := H
                            have A61 := Aside0.mk A610
                            clear A610
                            have H' := Aside0.mk H
                            clear H
                            go_wp2_with (first | ((with_reducible refine gate_callee (f := 11) rfl ?_); refine goesL_ (some 49) rfl rfl Try.func11 (by kernel_rfl) rfl #[.pointer (some ⟨g, 0, none⟩), .int .i64 3000] rfl (by (try simp only [List.map_toArray, List.map_cons, List.map_nil]); first | done | rfl | (simp only [List.length_drop, List.length_take]; rfl)) ?_; (with_reducible refine (lockgateref28_Lot_Next.calls g x1000_43 3000 t127 t128 w0 _ ?side1 ?side2 A61.out).mono ?_); (case side1 => repeat (first | (with_reducible first | exact HI0.out | apply IsS46.alloc | apply IsS46.drewN | apply IsS46.drew | apply IsS46.set_0 | refine IsS46.far ?_ NB0_117.out _ | refine IsS46.far ?_ NB0_118.out _) | exact HI0.out)); (case side2 => repeat (first | (with_reducible first | exact HB.out | apply below_alloc | apply pw_below_drewN | apply below_drew1 | refine below_set ?_ (IsS46.ge HI0.out) | refine below_set ?_ GE117.out | refine below_set ?_ GE118.out) | exact HB.out)); rintro e w62 ⟨rfl, hi, hb, hk⟩; refine ⟨_, rfl, ?_⟩; have n0_ := Aside0.mk (KeepBut.blk hk (g' := gb117) (o := .cells #[.int .i64 0, .string (⟨#[]⟩ : ByteArray), .string (⟨#[]⟩ : ByteArray), .int .i64 0, .int .i64 0, .slice none 0 0] 35 (0, 0)) (by (with_reducible repeat (first | refine blk_drewN ?_ _ | refine blk_drew ?_ | refine blk_alloc ?_ _)); exact BK117.out) NB117_0.out (by simp)); have n1_ := Aside0.mk (KeepBut.blk hk (g' := gb118) (o := .cells #[.int .i64 (wrap64 (t119 + 1)), .string t121, .string x119002_28, .int .i64 x119003_43, .int .i64 0, .slice none 0 0] 35 (0, 0)) (by (with_reducible repeat (first | refine blk_drewN ?_ _ | refine blk_drew ?_ | refine blk_alloc ?_ _)); exact BK118.out) NB118_0.out (by simp)); have n2_ := Aside0.mk (KeepBut.trans (by repeat (first | (with_reducible first | exact HK.out | apply KeepBut.set_ | apply keep_drewN | apply keep_drew | apply keep_alloc | refine keep_far ?_ GW117.out _ | refine keep_far ?_ GW118.out _) | exact HK.out)) hk (.inl rfl)); have n3_ := Aside0.mk (hb); have n4_ := Aside0.mk (hi); clear BK117; clear BK118; clear HK; clear HB; clear HI0; have BK117 := n0_; have BK118 := n1_; have HK := n2_; have HB := n3_; have HI0 := n4_; clear n0_ n1_ n2_ n3_ n4_; (try clear hb); (try clear hb2); (try clear hk); (try clear hi); have hnb63 := NB118_117.out; have hnc63 := NB117_118.out; have hnb64 := NB118_0.out; have hnc64 := NB0_118.out; have hcz65_0 : w62.cell? ⟨gb118, 0, none⟩ = some (.int .i64 (wrap64 (t119 + 1))) := (blk_cell BK118.out 0).trans rfl; have hcz65_1 : w62.cell? ⟨gb118, 1, none⟩ = some (.string t121) := (blk_cell BK118.out 1).trans rfl; have hcz65_2 : w62.cell? ⟨gb118, 2, none⟩ = some (.string x119002_28) := (blk_cell BK118.out 2).trans rfl; have hcz65_3 : w62.cell? ⟨gb118, 3, none⟩ = some (.int .i64 x119003_43) := (blk_cell BK118.out 3).trans rfl; have hcz65_4 : w62.cell? ⟨gb118, 4, none⟩ = some (.int .i64 0) := (blk_cell BK118.out 4).trans rfl; have hcz65_5 : w62.cell? ⟨gb118, 5, none⟩ = some (.slice none 0 0) := (blk_cell BK118.out 5).trans rfl; have hfz65_0 := blk_frozen BK118.out 0; have hfz65_1 := blk_frozen BK118.out 1; have hfz65_2 := blk_frozen BK118.out 2; have hfz65_3 := blk_frozen BK118.out 3; have hfz65_4 := blk_frozen BK118.out 4; have hfz65_5 := blk_frozen BK118.out 5))
                            go_meet
                            case rel => exact ⟨_, (t128), (t127), H', ⟨by have := HJ12.out; have := HJ28.out; have := HJ35.out; have := HJ43.out; have := HJ50.out; first | omega | exact Nat.le_refl _⟩, ⟨by (with_reducible repeat (first | refine blk_drewN ?_ _ | refine blk_drew ?_ | refine blk_alloc ?_ _)); refine blk_far ?_ NB117_118.out _; (with_reducible repeat (first | refine blk_drewN ?_ _ | refine blk_drew ?_ | refine blk_alloc ?_ _)); exact BK117.out⟩, ⟨by (with_reducible repeat (first | refine blk_drewN ?_ _ | refine blk_drew ?_ | refine blk_alloc ?_ _)); refine blk_put (cs := #[.int .i64 (wrap64 (t119 + 1)), .string t121, .string x119002_28, .int .i64 x119003_43, .int .i64 0, .slice none 0 0]) ?_ 4 _ rfl; (with_reducible repeat (first | refine blk_drewN ?_ _ | refine blk_drew ?_ | refine blk_alloc ?_ _)); exact BK118.out⟩, ⟨by repeat (first | (with_reducible first | exact HI0.out | apply IsS46.alloc | apply IsS46.drewN | apply IsS46.drew | apply IsS46.set_0 | refine IsS46.far ?_ NB0_117.out _ | refine IsS46.far ?_ NB0_118.out _) | exact HI0.out)⟩, ⟨by repeat (first | (with_reducible first | exact HK.out | apply KeepBut.set_ | apply keep_drewN | apply keep_drew | apply keep_alloc | refine keep_far ?_ GW117.out _ | refine keep_far ?_ GW118.out _) | exact HK.out)⟩, ⟨by repeat (first | (with_reducible first | exact HB.out | apply below_alloc | apply pw_below_drewN | apply below_drew1 | refine below_set ?_ (IsS46.ge HI0.out) | refine below_set ?_ GE117.out | refine below_set ?_ GE118.out) | exact HB.out)⟩⟩
                          · replace c60 := Bool.eq_false_iff.mpr c60
                            subst c60
                            have H1 : (lockgateref28_Lot_Call.j5 kj50 x1000_43 (wrap64 (t119 + 1)) t121 x119002_28 x119003_43 0) = some (r1, r2, r3, r4, r5, r6, r7) := by rw [if_neg (show ¬ (false = true) by decide)] at H; exact H
                            clear H
                            have H := H1
                            clear H1
                            have H' := Aside0.mk H
                            clear H
                            go_wp2
                            go_meet
                            case rel => exact ⟨_, (x1000_43), (0), H', ⟨by have := HJ12.out; have := HJ28.out; have := HJ35.out; have := HJ43.out; have := HJ50.out; first | omega | exact Nat.le_refl _⟩, ⟨by (with_reducible repeat (first | refine blk_drewN ?_ _ | refine blk_drew ?_ | refine blk_alloc ?_ _)); exact BK117.out⟩, ⟨by (with_reducible repeat (first | refine blk_drewN ?_ _ | refine blk_drew ?_ | refine blk_alloc ?_ _)); exact BK118.out⟩, ⟨by repeat (first | (with_reducible first | exact HI0.out | apply IsS46.alloc | apply IsS46.drewN | apply IsS46.drew | apply IsS46.set_0 | refine IsS46.far ?_ NB0_117.out _ | refine IsS46.far ?_ NB0_118.out _) | exact HI0.out)⟩, ⟨by repeat (first | (with_reducible first | exact HK.out | apply KeepBut.set_ | apply keep_drewN | apply keep_drew | apply keep_alloc | refine keep_far ?_ GW117.out _ | refine keep_far ?_ GW118.out _) | exact HK.out)⟩, ⟨by repeat (first | (with_reducible first | exact HB.out | apply below_alloc | apply pw_below_drewN | apply below_drew1 | refine below_set ?_ (IsS46.ge HI0.out) | refine below_set ?_ GE117.out | refine below_set ?_ GE118.out) | exact HB.out)⟩⟩
                        case rest =>
                          clear HC59
                          try clear c1
                          try clear c2
                          try clear p2
                          try clear c3
                          try clear c3b0
                          try clear c3b1
                          try clear c4
                          try clear c5
                          try clear c6
                          try clear p6
                          try clear c7
                          try clear c8
                          try clear c10
                          try clear c11
                          try clear c17
                          try clear c18
                          try clear c19
                          try clear c22
                          try clear c22b0
                          try clear c22b1
                          try clear c23
                          try clear c24
                          try clear c26
                          try clear c27
                          try clear c30
                          try clear c33
                          try clear c34
                          try clear c37
                          try clear c37b0
                          try clear c37b1
                          try clear c38
                          try clear c39
                          try clear c41
                          try clear c42
                          try clear c45
                          try clear c48
                          try clear c49
                          try clear c52
                          try clear c52b0
                          try clear c52b1
                          try clear c53
                          try clear c54
                          try clear c56
                          try clear c57
                          try clear c60
                          try clear c63
                          try clear c64
                          try clear p64
                          try clear hcz11_0
                          try clear hcz11_1
                          try clear hcz11_2
                          try clear hcz11_3
                          try clear hcz11_4
                          try clear hcz11_5
                          try clear hcz19_0
                          try clear hcz19_1
                          try clear hcz19_2
                          try clear hcz19_3
                          try clear hcz19_4
                          try clear hcz19_5
                          try clear hcz21_0
                          try clear hcz21_1
                          try clear hcz21_2
                          try clear hcz21_3
                          try clear hcz21_4
                          try clear hcz21_5
                          try clear hcz25_0
                          try clear hcz25_1
                          try clear hcz25_2
                          try clear hcz25_3
                          try clear hcz25_4
                          try clear hcz25_5
                          try clear hcz28_0
                          try clear hcz28_1
                          try clear hcz28_2
                          try clear hcz28_3
                          try clear hcz28_4
                          try clear hcz28_5
                          try clear hcz35_0
                          try clear hcz35_1
                          try clear hcz35_2
                          try clear hcz35_3
                          try clear hcz35_4
                          try clear hcz35_5
                          try clear hcz40_0
                          try clear hcz40_1
                          try clear hcz40_2
                          try clear hcz40_3
                          try clear hcz40_4
                          try clear hcz40_5
                          try clear hcz43_0
                          try clear hcz43_1
                          try clear hcz43_2
                          try clear hcz43_3
                          try clear hcz43_4
                          try clear hcz43_5
                          try clear hcz50_0
                          try clear hcz50_1
                          try clear hcz50_2
                          try clear hcz50_3
                          try clear hcz50_4
                          try clear hcz50_5
                          try clear hcz55_0
                          try clear hcz55_1
                          try clear hcz55_2
                          try clear hcz55_3
                          try clear hcz55_4
                          try clear hcz55_5
                          try clear hcz58_0
                          try clear hcz58_1
                          try clear hcz58_2
                          try clear hcz58_3
                          try clear hcz58_4
                          try clear hcz58_5
                          try clear hcz65_0
                          try clear hcz65_1
                          try clear hcz65_2
                          try clear hcz65_3
                          try clear hcz65_4
                          try clear hcz65_5
                          try clear hcz9_0
                          try clear hcz9_1
                          try clear hcz9_2
                          try clear hcz9_3
                          try clear hcz9_4
                          try clear hcz9_5
                          try clear hfz11_0
                          try clear hfz11_1
                          try clear hfz11_2
                          try clear hfz11_3
                          try clear hfz11_4
                          try clear hfz11_5
                          try clear hfz19_0
                          try clear hfz19_1
                          try clear hfz19_2
                          try clear hfz19_3
                          try clear hfz19_4
                          try clear hfz19_5
                          try clear hfz21_0
                          try clear hfz21_1
                          try clear hfz21_2
                          try clear hfz21_3
                          try clear hfz21_4
                          try clear hfz21_5
                          try clear hfz25_0
                          try clear hfz25_1
                          try clear hfz25_2
                          try clear hfz25_3
                          try clear hfz25_4
                          try clear hfz25_5
                          try clear hfz28_0
                          try clear hfz28_1
                          try clear hfz28_2
                          try clear hfz28_3
                          try clear hfz28_4
                          try clear hfz28_5
                          try clear hfz35_0
                          try clear hfz35_1
                          try clear hfz35_2
                          try clear hfz35_3
                          try clear hfz35_4
                          try clear hfz35_5
                          try clear hfz40_0
                          try clear hfz40_1
                          try clear hfz40_2
                          try clear hfz40_3
                          try clear hfz40_4
                          try clear hfz40_5
                          try clear hfz43_0
                          try clear hfz43_1
                          try clear hfz43_2
                          try clear hfz43_3
                          try clear hfz43_4
                          try clear hfz43_5
                          try clear hfz50_0
                          try clear hfz50_1
                          try clear hfz50_2
                          try clear hfz50_3
                          try clear hfz50_4
                          try clear hfz50_5
                          try clear hfz55_0
                          try clear hfz55_1
                          try clear hfz55_2
                          try clear hfz55_3
                          try clear hfz55_4
                          try clear hfz55_5
                          try clear hfz58_0
                          try clear hfz58_1
                          try clear hfz58_2
                          try clear hfz58_3
                          try clear hfz58_4
                          try clear hfz58_5
                          try clear hfz65_0
                          try clear hfz65_1
                          try clear hfz65_2
                          try clear hfz65_3
                          try clear hfz65_4
                          try clear hfz65_5
                          try clear hfz9_0
                          try clear hfz9_1
                          try clear hfz9_2
                          try clear hfz9_3
                          try clear hfz9_4
                          try clear hfz9_5
                          try clear p2
                          try clear p6
                          obtain ⟨kq, x1000_58, x119004_58, HA, HJ58, BK117, BK118, HI0, HK, HB⟩ := hcut
                          cases kq with
                          | zero => exact absurd HA.out (by simp [lockgateref28_Lot_Call.j5])
                          | succ kj58 =>
                            have H := HA.out
                            clear HA
                            simp only [lockgateref28_Lot_Call.j5] at H
                            by_cases c66 : (wrap64 (t119 + 1)) = 8
                            · rw [if_pos c66] at H
                              have c66b0 : ((wrap64 (t119 + 1)) == 8) = true := beq_iff_eq.mpr c66
                              have c66b1 : ((wrap64 (t119 + 1)) != 8) = false := bne_eq_false_iff_eq.mpr c66
                              clear c66
                              replace H := Option.bind_eq_some_iff.mp H
                              obtain ⟨⟨t129, t130⟩, A670, H⟩ := H
                              replace H : (lockgateref28_Lot_Call.l0 kj58 t129 0 t130 (wrap64 (t119 + 1)) t121 x119002_28 x119003_43 x119004_58 ([] : List Int)) = some (r1, r2, r3, r4, r5, r6, r7) := H
                              have A67 := Aside0.mk A670
                              clear A670
                              have H' := Aside0.mk H
                              clear H
                              have hnb68 := NB118_117.out
                              have hnc68 := NB117_118.out
                              have hnb69 := NB118_0.out
                              have hnc69 := NB0_118.out
                              have hcz70_0 : wc.cell? ⟨gb118, 0, none⟩ = some (.int .i64 (wrap64 (t119 + 1))) := (blk_cell BK118.out 0).trans rfl
                              have hcz70_1 : wc.cell? ⟨gb118, 1, none⟩ = some (.string t121) := (blk_cell BK118.out 1).trans rfl
                              have hcz70_2 : wc.cell? ⟨gb118, 2, none⟩ = some (.string x119002_28) := (blk_cell BK118.out 2).trans rfl
                              have hcz70_3 : wc.cell? ⟨gb118, 3, none⟩ = some (.int .i64 x119003_43) := (blk_cell BK118.out 3).trans rfl
                              have hcz70_4 : wc.cell? ⟨gb118, 4, none⟩ = some (.int .i64 x119004_58) := (blk_cell BK118.out 4).trans rfl
                              have hcz70_5 : wc.cell? ⟨gb118, 5, none⟩ = some (.slice none 0 0) := (blk_cell BK118.out 5).trans rfl
                              have hfz70_0 := blk_frozen BK118.out 0
                              have hfz70_1 := blk_frozen BK118.out 1
                              have hfz70_2 := blk_frozen BK118.out 2
                              have hfz70_3 := blk_frozen BK118.out 3
                              have hfz70_4 := blk_frozen BK118.out 4
                              have hfz70_5 := blk_frozen BK118.out 5
                              go_wp2_with (first | ((with_reducible refine gate_callee (f := 11) rfl ?_); refine goesL_ (some 55) rfl rfl Try.func11 (by kernel_rfl) rfl #[.pointer (some ⟨g, 0, none⟩), .int .i64 1500] rfl (by (try simp only [List.map_toArray, List.map_cons, List.map_nil]); first | done | rfl | (simp only [List.length_drop, List.length_take]; rfl)) ?_; (with_reducible refine (lockgateref28_Lot_Next.calls g x1000_58 1500 t129 t130 w0 _ ?side1 ?side2 A67.out).mono ?_); (case side1 => repeat (first | (with_reducible first | exact HI0.out | apply IsS46.alloc | apply IsS46.drewN | apply IsS46.drew | apply IsS46.set_0 | refine IsS46.far ?_ NB0_117.out _ | refine IsS46.far ?_ NB0_118.out _) | exact HI0.out)); (case side2 => repeat (first | (with_reducible first | exact HB.out | apply below_alloc | apply pw_below_drewN | apply below_drew1 | refine below_set ?_ (IsS46.ge HI0.out) | refine below_set ?_ GE117.out | refine below_set ?_ GE118.out) | exact HB.out)); rintro e w71 ⟨rfl, hi, hb, hk⟩; refine ⟨_, rfl, ?_⟩; have n0_ := Aside0.mk (KeepBut.blk hk (g' := gb117) (o := .cells #[.int .i64 0, .string (⟨#[]⟩ : ByteArray), .string (⟨#[]⟩ : ByteArray), .int .i64 0, .int .i64 0, .slice none 0 0] 35 (0, 0)) (by (with_reducible repeat (first | refine blk_drewN ?_ _ | refine blk_drew ?_ | refine blk_alloc ?_ _)); exact BK117.out) NB117_0.out (by simp)); have n1_ := Aside0.mk (KeepBut.blk hk (g' := gb118) (o := .cells #[.int .i64 (wrap64 (t119 + 1)), .string t121, .string x119002_28, .int .i64 x119003_43, .int .i64 x119004_58, .slice none 0 0] 35 (0, 0)) (by (with_reducible repeat (first | refine blk_drewN ?_ _ | refine blk_drew ?_ | refine blk_alloc ?_ _)); exact BK118.out) NB118_0.out (by simp)); have n2_ := Aside0.mk (KeepBut.trans (by repeat (first | (with_reducible first | exact HK.out | apply KeepBut.set_ | apply keep_drewN | apply keep_drew | apply keep_alloc | refine keep_far ?_ GW117.out _ | refine keep_far ?_ GW118.out _) | exact HK.out)) hk (.inl rfl)); have n3_ := Aside0.mk (hb); have n4_ := Aside0.mk (hi); clear BK117; clear BK118; clear HK; clear HB; clear HI0; have BK117 := n0_; have BK118 := n1_; have HK := n2_; have HB := n3_; have HI0 := n4_; clear n0_ n1_ n2_ n3_ n4_; (try clear hb); (try clear hb2); (try clear hk); (try clear hi)))
                              go_loopg [5] kj58 (fun kq v5 w' => ∃ (x5_7 : Int) (x1000_7 : Int) (x119005_7 : List Int) (u119005 : Value), v5 = .int .i64 x5_7 ∧ Aside0 (lockgateref28_Lot_Call.l0 kq t129 x5_7 x1000_7 (wrap64 (t119 + 1)) t121 x119002_28 x119003_43 x119004_58 x119005_7 = some (r1, r2, r3, r4, r5, r6, r7)) ∧ Aside0 (kq ≤ kj58) ∧ Aside0 (Kd.R (Kd.int .u8) 5 w' w.heap.size (fun _ => True) u119005 x119005_7) ∧ Aside0 (w'.heap[gb117]? = some (.cells #[.int .i64 0, .string (⟨#[]⟩ : ByteArray), .string (⟨#[]⟩ : ByteArray), .int .i64 0, .int .i64 0, (.slice none 0 0)] 35 (0, 0))) ∧ Aside0 (w'.heap[gb118]? = some (.cells #[.int .i64 (wrap64 (t119 + 1)), .string t121, .string x119002_28, .int .i64 x119003_43, .int .i64 x119004_58, u119005] 35 (0, 0))) ∧ Aside0 (IsS46 w0 w' g x1000_7) ∧ Aside0 (KeepBut w w' g none) ∧ Aside0 (Below w0.heap.size w0 w'))
                              case atStart => exact ⟨(0), (t130), (([] : List Int)), (.slice none 0 0), (by first | rfl | (simp; done) | (simp [*]; done)), H', ⟨Nat.le_refl _⟩, ⟨by first | exact Kd.R_nil _ _ _ _ _ | exact Kd.N_nil _ _ _ _ _ | exact Kd.V_nil _ _ _ _ _ | exact Kd.Q_nil _ _ _ _ _ | exact Kd.S_nil _ _ _ _ _⟩, ⟨by (with_reducible repeat (first | refine blk_drewN ?_ _ | refine blk_drew ?_ | refine blk_alloc ?_ _)); exact BK117.out⟩, ⟨by (with_reducible repeat (first | refine blk_drewN ?_ _ | refine blk_drew ?_ | refine blk_alloc ?_ _)); exact BK118.out⟩, ⟨by repeat (first | (with_reducible first | exact HI0.out | apply IsS46.alloc | apply IsS46.drewN | apply IsS46.drew | apply IsS46.set_0 | refine IsS46.far ?_ NB0_117.out _ | refine IsS46.far ?_ NB0_118.out _) | exact HI0.out)⟩, ⟨by repeat (first | (with_reducible first | exact HK.out | apply KeepBut.set_ | apply keep_drewN | apply keep_drew | apply keep_alloc | refine keep_far ?_ GW117.out _ | refine keep_far ?_ GW118.out _) | exact HK.out)⟩, ⟨by repeat (first | (with_reducible first | exact HB.out | apply below_alloc | apply pw_below_drewN | apply below_drew1 | refine below_set ?_ (IsS46.ge HI0.out) | refine below_set ?_ GE117.out | refine below_set ?_ GE118.out) | exact HB.out)⟩⟩
                              case round =>
                                clear H'
                                try clear c1
                                try clear c2
                                try clear p2
                                try clear c3
                                try clear c3b0
                                try clear c3b1
                                try clear c4
                                try clear c5
                                try clear c6
                                try clear p6
                                try clear c7
                                try clear c8
                                try clear c10
                                try clear c11
                                try clear c17
                                try clear c18
                                try clear c19
                                try clear c22
                                try clear c22b0
                                try clear c22b1
                                try clear c23
                                try clear c24
                                try clear c26
                                try clear c27
                                try clear c30
                                try clear c33
                                try clear c34
                                try clear c37
                                try clear c37b0
                                try clear c37b1
                                try clear c38
                                try clear c39
                                try clear c41
                                try clear c42
                                try clear c45
                                try clear c48
                                try clear c49
                                try clear c52
                                try clear c52b0
                                try clear c52b1
                                try clear c53
                                try clear c54
                                try clear c56
                                try clear c57
                                try clear c60
                                try clear c63
                                try clear c64
                                try clear p64
                                try clear c66
                                try clear c66b0
                                try clear c66b1
                                try clear c68
                                try clear c69
                                try clear hcz11_0
                                try clear hcz11_1
                                try clear hcz11_2
                                try clear hcz11_3
                                try clear hcz11_4
                                try clear hcz11_5
                                try clear hcz19_0
                                try clear hcz19_1
                                try clear hcz19_2
                                try clear hcz19_3
                                try clear hcz19_4
                                try clear hcz19_5
                                try clear hcz21_0
                                try clear hcz21_1
                                try clear hcz21_2
                                try clear hcz21_3
                                try clear hcz21_4
                                try clear hcz21_5
                                try clear hcz25_0
                                try clear hcz25_1
                                try clear hcz25_2
                                try clear hcz25_3
                                try clear hcz25_4
                                try clear hcz25_5
                                try clear hcz28_0
                                try clear hcz28_1
                                try clear hcz28_2
                                try clear hcz28_3
                                try clear hcz28_4
                                try clear hcz28_5
                                try clear hcz35_0
                                try clear hcz35_1
                                try clear hcz35_2
                                try clear hcz35_3
                                try clear hcz35_4
                                try clear hcz35_5
                                try clear hcz40_0
                                try clear hcz40_1
                                try clear hcz40_2
                                try clear hcz40_3
                                try clear hcz40_4
                                try clear hcz40_5
                                try clear hcz43_0
                                try clear hcz43_1
                                try clear hcz43_2
                                try clear hcz43_3
                                try clear hcz43_4
                                try clear hcz43_5
                                try clear hcz50_0
                                try clear hcz50_1
                                try clear hcz50_2
                                try clear hcz50_3
                                try clear hcz50_4
                                try clear hcz50_5
                                try clear hcz55_0
                                try clear hcz55_1
                                try clear hcz55_2
                                try clear hcz55_3
                                try clear hcz55_4
                                try clear hcz55_5
                                try clear hcz58_0
                                try clear hcz58_1
                                try clear hcz58_2
                                try clear hcz58_3
                                try clear hcz58_4
                                try clear hcz58_5
                                try clear hcz65_0
                                try clear hcz65_1
                                try clear hcz65_2
                                try clear hcz65_3
                                try clear hcz65_4
                                try clear hcz65_5
                                try clear hcz70_0
                                try clear hcz70_1
                                try clear hcz70_2
                                try clear hcz70_3
                                try clear hcz70_4
                                try clear hcz70_5
                                try clear hcz9_0
                                try clear hcz9_1
                                try clear hcz9_2
                                try clear hcz9_3
                                try clear hcz9_4
                                try clear hcz9_5
                                try clear hfz11_0
                                try clear hfz11_1
                                try clear hfz11_2
                                try clear hfz11_3
                                try clear hfz11_4
                                try clear hfz11_5
                                try clear hfz19_0
                                try clear hfz19_1
                                try clear hfz19_2
                                try clear hfz19_3
                                try clear hfz19_4
                                try clear hfz19_5
                                try clear hfz21_0
                                try clear hfz21_1
                                try clear hfz21_2
                                try clear hfz21_3
                                try clear hfz21_4
                                try clear hfz21_5
                                try clear hfz25_0
                                try clear hfz25_1
                                try clear hfz25_2
                                try clear hfz25_3
                                try clear hfz25_4
                                try clear hfz25_5
                                try clear hfz28_0
                                try clear hfz28_1
                                try clear hfz28_2
                                try clear hfz28_3
                                try clear hfz28_4
                                try clear hfz28_5
                                try clear hfz35_0
                                try clear hfz35_1
                                try clear hfz35_2
                                try clear hfz35_3
                                try clear hfz35_4
                                try clear hfz35_5
                                try clear hfz40_0
                                try clear hfz40_1
                                try clear hfz40_2
                                try clear hfz40_3
                                try clear hfz40_4
                                try clear hfz40_5
                                try clear hfz43_0
                                try clear hfz43_1
                                try clear hfz43_2
                                try clear hfz43_3
                                try clear hfz43_4
                                try clear hfz43_5
                                try clear hfz50_0
                                try clear hfz50_1
                                try clear hfz50_2
                                try clear hfz50_3
                                try clear hfz50_4
                                try clear hfz50_5
                                try clear hfz55_0
                                try clear hfz55_1
                                try clear hfz55_2
                                try clear hfz55_3
                                try clear hfz55_4
                                try clear hfz55_5
                                try clear hfz58_0
                                try clear hfz58_1
                                try clear hfz58_2
                                try clear hfz58_3
                                try clear hfz58_4
                                try clear hfz58_5
                                try clear hfz65_0
                                try clear hfz65_1
                                try clear hfz65_2
                                try clear hfz65_3
                                try clear hfz65_4
                                try clear hfz65_5
                                try clear hfz70_0
                                try clear hfz70_1
                                try clear hfz70_2
                                try clear hfz70_3
                                try clear hfz70_4
                                try clear hfz70_5
                                try clear hfz9_0
                                try clear hfz9_1
                                try clear hfz9_2
                                try clear hfz9_3
                                try clear hfz9_4
                                try clear hfz9_5
                                try clear p2
                                try clear p6
                                try clear p64
                                obtain ⟨x5_7, x1000_7, x119005_7, u119005, rfl, HA, HK7, HO_119005, BK117, BK118, HI0, HK, HB⟩ := hrel
                                cases gk with
                                | zero => exact absurd HA.out (by simp [lockgateref28_Lot_Call.l0])
                                | succ k7 =>
                                  have H := HA.out
                                  clear HA
                                  simp only [lockgateref28_Lot_Call.l0] at H
                                  by_cases c72 : x5_7 < t129
                                  · rw [if_pos c72] at H
                                    have c72b0 : decide (x5_7 < t129) = true := decide_eq_true c72
                                    clear c72
                                    replace H := Option.bind_eq_some_iff.mp H
                                    obtain ⟨⟨t131, t132⟩, A730, H⟩ := H
                                    replace H : (if x119005_7.length < 140737488355328 then (lockgateref28_Lot_Call.l0 k7 t129 (wrap64 (x5_7 + 1)) t132 (wrap64 (t119 + 1)) t121 x119002_28 x119003_43 x119004_58 (x119005_7 ++ [(t131) % 256])) else (none)) = some (r1, r2, r3, r4, r5, r6, r7) := H
                                    have A73 := Aside0.mk A730
                                    clear A730
                                    by_cases c74 : x119005_7.length < 140737488355328
                                    · rw [if_pos c74] at H
                                      have LMc74 := Aside0.mk c74
                                      clear c74
                                      obtain ⟨y133, hy133⟩ : ∃ y_ : List Int, y_ = (x119005_7 ++ [(t131) % 256]) := ⟨_, rfl⟩
                                      replace H : (lockgateref28_Lot_Call.l0 k7 t129 (wrap64 (x5_7 + 1)) t132 (wrap64 (t119 + 1)) t121 x119002_28 x119003_43 x119004_58 y133) = some (r1, r2, r3, r4, r5, r6, r7) := by first | (rw [hy133]; with_reducible exact H) | (have H2_ := (Option.bind_some _ _).symm.trans H; rw [hy133]; with_reducible exact H2_) | (have H2_ := (Option.bind_some _ _).symm.trans H; with_reducible exact H2_) | with_reducible exact H | (rw [hy133]; exact H) | exact H
                                      have Ny133 := Aside0.mk hy133
                                      clear hy133
                                      have H' := Aside0.mk H
                                      clear H
                                      try go_wp2
                                      have n0_ := Aside0.mk (Kd.R_drew HO_119005.out)
                                      have n1_ := Aside0.mk (blk_drew BK117.out)
                                      have n2_ := Aside0.mk (blk_drew BK118.out)
                                      have n3_ := Aside0.mk (IsS46.drew HI0.out)
                                      have n4_ := Aside0.mk (keep_drew HK.out)
                                      have n5_ := Aside0.mk (below_drew1 HB.out)
                                      clear HO_119005
                                      clear BK117
                                      clear BK118
                                      clear HI0
                                      clear HK
                                      clear HB
                                      have HO_119005 := n0_
                                      have BK117 := n1_
                                      have BK118 := n2_
                                      have HI0 := n3_
                                      have HK := n4_
                                      have HB := n5_
                                      clear n0_ n1_ n2_ n3_ n4_ n5_
                                      refine start_ (n := 9) (S := fun w' => w'.cell? ⟨gb118, 0, none⟩ = some (.int .i64 (wrap64 (t119 + 1))) ∧ w'.cell? ⟨gb118, 1, none⟩ = some (.string t121) ∧ w'.cell? ⟨gb118, 2, none⟩ = some (.string x119002_28) ∧ w'.cell? ⟨gb118, 3, none⟩ = some (.int .i64 x119003_43) ∧ w'.cell? ⟨gb118, 4, none⟩ = some (.int .i64 x119004_58) ∧ w'.cell? ⟨gb118, 5, none⟩ = some (u119005)) (ds := [8]) #[false, false, false, false, false, false, false, false, false] (by kernel_rfl) rfl rfl ⟨(blk_cell BK118.out 0).trans rfl, (blk_cell BK118.out 1).trans rfl, (blk_cell BK118.out 2).trans rfl, (blk_cell BK118.out 3).trans rfl, (blk_cell BK118.out 4).trans rfl, (blk_cell BK118.out 5).trans rfl⟩ (fun hHeld => ?_); refine with_tabW lockgateref28_Lot_Call.tab17 lockgateref28_Lot_Call.bits17 (fun HT_ HW_ => ?_)
                                      generalize wr.drew = w75 at HO_119005 BK117 BK118 HI0 HK HB hHeld ⊢
                                      refine pure_ (i := 0) (N := some 61) (v := ?_) (a' := ?_) #[true, false, false, false, false, false, false, false, false] rfl rfl (any_of HT_.out (by kernel_rfl)) (fun _ _ _ h => h) (Or.inl ⟨by rfl, ?_⟩) ?_ ?_
                                      rotate_left
                                      · intro w'
                                        go_simp
                                        with_reducible rfl
                                      rotate_left
                                      · simp only [Act.put, List.setIfInBounds_toArray, List.set_cons_zero, List.set_cons_succ, i64_w, i32_w]
                                        rfl
                                      refine pure_ (i := 2) (N := some 63) (v := ?_) (a' := ?_) #[true, false, true, false, false, false, false, false, false] rfl rfl (any_of HT_.out (by kernel_rfl)) (fun _ _ _ h => h) (Or.inl ⟨by rfl, ?_⟩) ?_ ?_
                                      rotate_left
                                      · intro w'
                                        go_simp
                                        with_reducible rfl
                                      rotate_left
                                      · simp only [Act.put, List.setIfInBounds_toArray, List.set_cons_zero, List.set_cons_succ, i64_w, i32_w]
                                        rfl
                                      refine take_ (i := 1) (N := some 62) (v := ?_) (a' := ?_) #[true, true, true, false, false, false, false, false, false] rfl rfl (take_ofW HT_.out HW_.out (by kernel_rfl)) (fun _ _ _ h => h) (Or.inl ⟨by rfl, ?_⟩) hHeld ?_ ?_
                                      rotate_left
                                      · rintro w' ⟨s0, s1, s2, s3, s4, s5⟩
                                        go_simp
                                        with_reducible rfl
                                      rotate_left
                                      · simp only [Act.put, List.setIfInBounds_toArray, List.set_cons_zero, List.set_cons_succ, i64_w, i32_w]
                                        rfl
                                      refine one_ (i := 3) (N := some 64) #[true, true, true, true, false, false, false, false, false] rfl rfl (one_of HT_.out (by kernel_rfl)) (by decide) (fun K hK => ?_)
                                      refine goes_ Try.func11 (by kernel_rfl) rfl #[.pointer (some ⟨g, 0, none⟩), .int .i64 256] (by rfl) rfl rfl (by (try simp only [List.map_toArray, List.map_cons, List.map_nil]); first | done | rfl | (simp only [List.length_drop, List.length_take]; rfl)) ?_
                                      with_reducible refine (lockgateref28_Lot_Next.calls g x1000_7 256 t131 t132 w0 _ ?side1 ?side2 A73.out).mono ?_
                                      (case side1 => repeat (first | (with_reducible first | exact HI0.out | apply IsS46.alloc | apply IsS46.drewN | apply IsS46.drew | apply IsS46.set_0 | refine IsS46.far ?_ NB0_117.out _ | refine IsS46.far ?_ NB0_118.out _) | exact HI0.out))
                                      (case side2 => repeat (first | (with_reducible first | exact HB.out | apply below_alloc | apply pw_below_drewN | apply below_drew1 | refine below_set ?_ (IsS46.ge HI0.out) | refine below_set ?_ GE117.out | refine below_set ?_ GE118.out) | exact HB.out))
                                      rintro e w76 ⟨rfl, hi, hb, hk⟩
                                      refine ⟨_, rfl, ?_⟩
                                      have n0_ := Aside0.mk (Kd.R_mono (Kd.R_keep (IsS46.apart (show IsS46 w0 _ g x1000_7 from by repeat (first | (with_reducible first | exact HI0.out | apply IsS46.alloc | apply IsS46.drewN | apply IsS46.drew | apply IsS46.set_0 | refine IsS46.far ?_ NB0_117.out _ | refine IsS46.far ?_ NB0_118.out _) | exact HI0.out)) (by (with_reducible repeat (first | apply Kd.R_alloc | apply Kd.R_drewN | apply Kd.R_drew)); exact HO_119005.out) (by decide)) hk (fun _ h => h.2)) (fun _ h => h.1))
                                      have n1_ := Aside0.mk (KeepBut.blk hk (g' := gb117) (o := .cells #[.int .i64 0, .string (⟨#[]⟩ : ByteArray), .string (⟨#[]⟩ : ByteArray), .int .i64 0, .int .i64 0, .slice none 0 0] 35 (0, 0)) (by (with_reducible repeat (first | refine blk_drewN ?_ _ | refine blk_drew ?_ | refine blk_alloc ?_ _)); exact BK117.out) NB117_0.out (by simp))
                                      have n2_ := Aside0.mk (KeepBut.blk hk (g' := gb118) (o := .cells #[.int .i64 (wrap64 (t119 + 1)), .string t121, .string x119002_28, .int .i64 x119003_43, .int .i64 x119004_58, u119005] 35 (0, 0)) (by (with_reducible repeat (first | refine blk_drewN ?_ _ | refine blk_drew ?_ | refine blk_alloc ?_ _)); exact BK118.out) NB118_0.out (by simp))
                                      have n3_ := Aside0.mk (KeepBut.trans (by repeat (first | (with_reducible first | exact HK.out | apply KeepBut.set_ | apply keep_drewN | apply keep_drew | apply keep_alloc | refine keep_far ?_ GW117.out _ | refine keep_far ?_ GW118.out _) | exact HK.out)) hk (.inl rfl))
                                      have n4_ := Aside0.mk (hb)
                                      have n5_ := Aside0.mk (hi)
                                      clear HO_119005
                                      clear BK117
                                      clear BK118
                                      clear HK
                                      clear HB
                                      clear HI0
                                      have HO_119005 := n0_
                                      have BK117 := n1_
                                      have BK118 := n2_
                                      have HK := n3_
                                      have HB := n4_
                                      have HI0 := n5_
                                      clear n0_ n1_ n2_ n3_ n4_ n5_
                                      (try clear hb)
                                      (try clear hb2)
                                      (try clear hk)
                                      (try clear hi)
                                      refine hK.out _ _ ⟨(blk_cell BK118.out 0).trans rfl, (blk_cell BK118.out 1).trans rfl, (blk_cell BK118.out 2).trans rfl, (blk_cell BK118.out 3).trans rfl, (blk_cell BK118.out 4).trans rfl, (blk_cell BK118.out 5).trans rfl⟩ (fun hHeld => ?_)
                                      clear hK K
                                      refine norm_ (a' := ?_) ?_ ?_
                                      rotate_left
                                      · show Act.put _ (some 64) _ = _
                                        simp only [Act.put, List.setIfInBounds_toArray, List.set_cons_zero, List.set_cons_succ, i64_w, i32_w]
                                        rfl
                                      refine pure_ (i := 4) (N := some 65) (v := ?_) (a' := ?_) #[true, true, true, true, true, false, false, false, false] rfl rfl (any_of HT_.out (by kernel_rfl)) (fun _ _ _ h => h) (Or.inl ⟨by rfl, ?_⟩) ?_ ?_
                                      rotate_left
                                      · intro w'
                                        go_simp
                                        with_reducible rfl
                                      rotate_left
                                      · simp only [Act.put, List.setIfInBounds_toArray, List.set_cons_zero, List.set_cons_succ, i64_w, i32_w]
                                        rfl
                                      refine one_ (i := 5) (N := some 66) #[true, true, true, true, true, true, false, false, false] rfl rfl (one_of HT_.out (by kernel_rfl)) (by decide) (fun K hK => ?_)
                                      refine value_ (w1 := ?_) (v := ?_) (by rfl) rfl ?_ ?_
                                      rotate_left 2
                                      · go_simp
                                        constructor
                                        · rfl
                                        · rfl
                                      refine hK.out _ _ ⟨(blk_cell (blk_alloc BK118.out _) 0).trans rfl, (blk_cell (blk_alloc BK118.out _) 1).trans rfl, (blk_cell (blk_alloc BK118.out _) 2).trans rfl, (blk_cell (blk_alloc BK118.out _) 3).trans rfl, (blk_cell (blk_alloc BK118.out _) 4).trans rfl, (blk_cell (blk_alloc BK118.out _) 5).trans rfl⟩ (fun hHeld => ?_)
                                      clear hK K
                                      refine norm_ (a' := ?_) ?_ ?_
                                      rotate_left
                                      · show Act.put _ (some 66) _ = _
                                        simp only [Act.put, List.setIfInBounds_toArray, List.set_cons_zero, List.set_cons_succ, i64_w, i32_w]
                                        rfl
                                      refine one_ (i := 6) (N := some 67) #[true, true, true, true, true, true, true, false, false] rfl rfl (one_of HT_.out (by kernel_rfl)) (by decide) (fun K hK => ?_)
                                      refine Kd.R_append_step (Kd.int .u8) w.heap.size (by rfl) (.tmp 62) (.tmp 66) 33 5 (.int .u8 0) 1 rfl Try.underlying33 info5 rfl (by decide) (by omega) u119005 x119005_7 ((t131) % 256) [.int .u8 ((t131) % 256)] (fun _ => True) (fun _ => False) rfl rfl ?aP (fun _ hk => hk.elim) ?aF ?aO (Below.refl _ _) ?aS ?aL ?_
                                      (case aP => exact rfl)
                                      (case aF => exact (fun _ _ => trivial))
                                      (case aO => exact (by (with_reducible repeat (first | apply Kd.R_alloc | apply Kd.R_drewN | apply Kd.R_drew)); exact HO_119005.out))
                                      (case aS => exact (keep_size (w := w) (g := g) (row := none) (by repeat (first | (with_reducible first | exact HK.out | apply KeepBut.set_ | apply keep_drewN | apply keep_drew | apply keep_alloc | refine keep_far ?_ GW117.out _ | refine keep_far ?_ GW118.out _) | exact HK.out))))
                                      (case aL => have := LMc74.out; omega)
                                      intro v134 w77 ho hb hg hat
                                      rw [← Ny133.out] at ho
                                      have n0_ := Aside0.mk (blk_grown (g := gb117) (o := .cells #[.int .i64 0, .string (⟨#[]⟩ : ByteArray), .string (⟨#[]⟩ : ByteArray), .int .i64 0, .int .i64 0, .slice none 0 0] 35 (0, 0)) (by (with_reducible repeat (first | refine blk_drewN ?_ _ | refine blk_drew ?_ | refine blk_alloc ?_ _)); exact BK117.out) hg (Kd.R_ne HO_119005.out BK117.out (by decide)))
                                      have n1_ := Aside0.mk (blk_grown (g := gb118) (o := .cells #[.int .i64 (wrap64 (t119 + 1)), .string t121, .string x119002_28, .int .i64 x119003_43, .int .i64 x119004_58, u119005] 35 (0, 0)) (by (with_reducible repeat (first | refine blk_drewN ?_ _ | refine blk_drew ?_ | refine blk_alloc ?_ _)); exact BK118.out) hg (Kd.R_ne HO_119005.out BK118.out (by decide)))
                                      have n2_ := Aside0.mk (IsS46.grown (by repeat (first | (with_reducible first | exact HI0.out | apply IsS46.alloc | apply IsS46.drewN | apply IsS46.drew | apply IsS46.set_0 | refine IsS46.far ?_ NB0_117.out _ | refine IsS46.far ?_ NB0_118.out _) | exact HI0.out)) hg (IsS46.own_ne HI0.out HO_119005.out (by decide)))
                                      have n3_ := Aside0.mk (below_weaken (by repeat (first | (with_reducible first | exact HB.out | apply below_alloc | apply pw_below_drewN | apply below_drew1 | refine below_set ?_ (IsS46.ge HI0.out) | refine below_set ?_ GE117.out | refine below_set ?_ GE118.out) | exact HB.out)) HL.out hb)
                                      have n4_ := Aside0.mk (KeepBut.trans (by repeat (first | (with_reducible first | exact HK.out | apply KeepBut.set_ | apply keep_drewN | apply keep_drew | apply keep_alloc | refine keep_far ?_ GW117.out _ | refine keep_far ?_ GW118.out _) | exact HK.out)) (KeepBut.of_grown hg g) (Kd.R_base2 HO_119005.out))
                                      have n5_ := Aside0.mk (ho)
                                      clear BK117
                                      clear BK118
                                      clear HI0
                                      clear HB
                                      clear HK
                                      clear HO_119005
                                      have BK117 := n0_
                                      have BK118 := n1_
                                      have HI0 := n2_
                                      have HB := n3_
                                      have HK := n4_
                                      have HO135 := n5_
                                      clear n0_ n1_ n2_ n3_ n4_ n5_
                                      clear ho hb hg hat
                                      obtain ⟨Ao78, co78, eo78⟩ := Kd.R_slice HO135.out
                                      (first | subst eo78 | (injection eo78 with f1_ f2_ f3_; have f4_ := f1_.symm; have f5_ := f3_.symm; clear f1_ f2_ f3_; subst f4_; subst f5_))
                                      refine hK.out _ _ ⟨(blk_cell BK118.out 0).trans rfl, (blk_cell BK118.out 1).trans rfl, (blk_cell BK118.out 2).trans rfl, (blk_cell BK118.out 3).trans rfl, (blk_cell BK118.out 4).trans rfl, (blk_cell BK118.out 5).trans rfl⟩ (fun hHeld => ?_)
                                      clear hK K
                                      refine norm_ (a' := ?_) ?_ ?_
                                      rotate_left
                                      · show Act.put _ (some 67) _ = _
                                        simp only [Act.put, List.setIfInBounds_toArray, List.set_cons_zero, List.set_cons_succ, i64_w, i32_w]
                                        rfl
                                      refine pure_ (i := 7) (N := some 68) (v := ?_) (a' := ?_) #[true, true, true, true, true, true, true, true, false] rfl rfl (any_of HT_.out (by kernel_rfl)) (fun _ _ _ h => h) (Or.inl ⟨by rfl, ?_⟩) ?_ ?_
                                      rotate_left
                                      · intro w'
                                        go_simp
                                        with_reducible rfl
                                      rotate_left
                                      · simp only [Act.put, List.setIfInBounds_toArray, List.set_cons_zero, List.set_cons_succ, i64_w, i32_w]
                                        rfl
                                      refine last_ (i := 8) (N := none) #[true, true, true, true, true, true, true, true, true] rfl rfl (one_of HT_.out (by kernel_rfl)) (by decide) (fun K hK => ?_)
                                      have hs79 : w77.cell? ⟨gb118, 5, none⟩ = some (u119005) := (blk_cell BK118.out 5).trans rfl
                                      have hfs79 := blk_frozen BK118.out 5
                                      have hns79_0 := NB117_118.out
                                      have hms79_0 := NB118_117.out
                                      refine skip_ (w1 := ?_) (by rfl) rfl ?_ ?_
                                      rotate_left
                                      · go_simp
                                        rfl
                                      refine hK.out _ _ ?_
                                      clear hK K
                                      refine done_ (done_of HT_.out (by kernel_rfl)) ?_
                                      try go_wp2
                                      go_roundg k7
                                      case measure => have := HJ12.out; have := HJ28.out; have := HJ35.out; have := HJ43.out; have := HJ50.out; have := HJ58.out; have := HK7.out; omega
                                      case rel => exact ⟨(wrap64 (x5_7 + 1)), (t132), (y133), (.slice Ao78 y133.length co78), (by first | rfl | (simp; done) | (simp [*]; done)), H', ⟨by have := HJ12.out; have := HJ28.out; have := HJ35.out; have := HJ43.out; have := HJ50.out; have := HJ58.out; have := HK7.out; omega⟩, ⟨by (with_reducible repeat (first | apply Kd.R_alloc | apply Kd.R_drewN | apply Kd.R_drew)); exact Kd.R_mono (Kd.R_far (p := ⟨gb118, 5, none⟩) (Kd.R_types HO135.out BK118.out (by decide)) (fun _ hk => hk.2) (.slice Ao78 y133.length co78)) (fun _ hk => trivial)⟩, ⟨by (with_reducible repeat (first | refine blk_drewN ?_ _ | refine blk_drew ?_ | refine blk_alloc ?_ _)); refine blk_far ?_ NB117_118.out _; (with_reducible repeat (first | refine blk_drewN ?_ _ | refine blk_drew ?_ | refine blk_alloc ?_ _)); exact BK117.out⟩, ⟨by (with_reducible repeat (first | refine blk_drewN ?_ _ | refine blk_drew ?_ | refine blk_alloc ?_ _)); refine blk_put (cs := #[.int .i64 (wrap64 (t119 + 1)), .string t121, .string x119002_28, .int .i64 x119003_43, .int .i64 x119004_58, u119005]) ?_ 5 _ rfl; (with_reducible repeat (first | refine blk_drewN ?_ _ | refine blk_drew ?_ | refine blk_alloc ?_ _)); exact BK118.out⟩, ⟨by repeat (first | (with_reducible first | exact HI0.out | apply IsS46.alloc | apply IsS46.drewN | apply IsS46.drew | apply IsS46.set_0 | refine IsS46.far ?_ NB0_117.out _ | refine IsS46.far ?_ NB0_118.out _) | exact HI0.out)⟩, ⟨by repeat (first | (with_reducible first | exact HK.out | apply KeepBut.set_ | apply keep_drewN | apply keep_drew | apply keep_alloc | refine keep_far ?_ GW117.out _ | refine keep_far ?_ GW118.out _) | exact HK.out)⟩, ⟨by repeat (first | (with_reducible first | exact HB.out | apply below_alloc | apply pw_below_drewN | apply below_drew1 | refine below_set ?_ (IsS46.ge HI0.out) | refine below_set ?_ GE117.out | refine below_set ?_ GE118.out) | exact HB.out)⟩⟩
                                    · rw [if_neg c74] at H
                                      exact absurd H (by simp)
                                  · rw [if_neg c72] at H
                                    have c72b0 : decide (x5_7 < t129) = false := decide_eq_false c72
                                    clear c72
                                    simp only [Option.some.injEq, Prod.mk.injEq] at H
                                    obtain ⟨rfl, rfl, rfl, rfl, rfl, rfl, rfl⟩ := H
                                    have hnb80 := NB118_117.out
                                    have hnc80 := NB117_118.out
                                    have hnb81 := NB118_0.out
                                    have hnc81 := NB0_118.out
                                    have hcz82_0 : wr.cell? ⟨gb118, 0, none⟩ = some (.int .i64 (wrap64 (t119 + 1))) := (blk_cell BK118.out 0).trans rfl
                                    have hcz82_1 : wr.cell? ⟨gb118, 1, none⟩ = some (.string t121) := (blk_cell BK118.out 1).trans rfl
                                    have hcz82_2 : wr.cell? ⟨gb118, 2, none⟩ = some (.string x119002_28) := (blk_cell BK118.out 2).trans rfl
                                    have hcz82_3 : wr.cell? ⟨gb118, 3, none⟩ = some (.int .i64 x119003_43) := (blk_cell BK118.out 3).trans rfl
                                    have hcz82_4 : wr.cell? ⟨gb118, 4, none⟩ = some (.int .i64 x119004_58) := (blk_cell BK118.out 4).trans rfl
                                    have hcz82_5 : wr.cell? ⟨gb118, 5, none⟩ = some (u119005) := (blk_cell BK118.out 5).trans rfl
                                    have hfz82_0 := blk_frozen BK118.out 0
                                    have hfz82_1 := blk_frozen BK118.out 1
                                    have hfz82_2 := blk_frozen BK118.out 2
                                    have hfz82_3 := blk_frozen BK118.out 3
                                    have hfz82_4 := blk_frozen BK118.out 4
                                    have hfz82_5 := blk_frozen BK118.out 5
                                    have hnb83 := NB117_0.out
                                    have hnc83 := NB0_117.out
                                    have hcz84_0 : wr.cell? ⟨gb117, 0, none⟩ = some (.int .i64 0) := (blk_cell BK117.out 0).trans rfl
                                    have hcz84_1 : wr.cell? ⟨gb117, 1, none⟩ = some (.string (⟨#[]⟩ : ByteArray)) := (blk_cell BK117.out 1).trans rfl
                                    have hcz84_2 : wr.cell? ⟨gb117, 2, none⟩ = some (.string (⟨#[]⟩ : ByteArray)) := (blk_cell BK117.out 2).trans rfl
                                    have hcz84_3 : wr.cell? ⟨gb117, 3, none⟩ = some (.int .i64 0) := (blk_cell BK117.out 3).trans rfl
                                    have hcz84_4 : wr.cell? ⟨gb117, 4, none⟩ = some (.int .i64 0) := (blk_cell BK117.out 4).trans rfl
                                    have hcz84_5 : wr.cell? ⟨gb117, 5, none⟩ = some (.slice none 0 0) := (blk_cell BK117.out 5).trans rfl
                                    have hfz84_0 := blk_frozen BK117.out 0
                                    have hfz84_1 := blk_frozen BK117.out 1
                                    have hfz84_2 := blk_frozen BK117.out 2
                                    have hfz84_3 := blk_frozen BK117.out 3
                                    have hfz84_4 := blk_frozen BK117.out 4
                                    have hfz84_5 := blk_frozen BK117.out 5
                                    obtain ⟨Ao85, co85, eo85⟩ := Kd.R_slice HO_119005.out
                                    subst eo85
                                    go_wp2
                                    refine bodyPost_ret (results_cell_row rfl _ _ gb117 35 #[.int .i64 (wrap64 (t119 + 1)), .string t121, .string x119002_28, .int .i64 x119003_43, .int .i64 x119004_58, .slice Ao85 x119005_7.length co85] (0, 0) _ rfl (by (with_reducible repeat (first | refine blk_drewN ?_ _ | refine blk_drew ?_ | refine blk_alloc ?_ _)); refine blk_put (cs := #[.int .i64 (wrap64 (t119 + 1)), .string t121, .string x119002_28, .int .i64 x119003_43, .int .i64 x119004_58, .slice none 0 0]) ?_ 5 _ rfl; (with_reducible repeat (first | refine blk_drewN ?_ _ | refine blk_drew ?_ | refine blk_alloc ?_ _)); refine blk_put (cs := #[.int .i64 (wrap64 (t119 + 1)), .string t121, .string x119002_28, .int .i64 x119003_43, .int .i64 0, .slice none 0 0]) ?_ 4 _ rfl; (with_reducible repeat (first | refine blk_drewN ?_ _ | refine blk_drew ?_ | refine blk_alloc ?_ _)); refine blk_put (cs := #[.int .i64 (wrap64 (t119 + 1)), .string t121, .string x119002_28, .int .i64 0, .int .i64 0, .slice none 0 0]) ?_ 3 _ rfl; (with_reducible repeat (first | refine blk_drewN ?_ _ | refine blk_drew ?_ | refine blk_alloc ?_ _)); refine blk_put (cs := #[.int .i64 (wrap64 (t119 + 1)), .string t121, .string (⟨#[]⟩ : ByteArray), .int .i64 0, .int .i64 0, .slice none 0 0]) ?_ 2 _ rfl; (with_reducible repeat (first | refine blk_drewN ?_ _ | refine blk_drew ?_ | refine blk_alloc ?_ _)); refine blk_put (cs := #[.int .i64 (wrap64 (t119 + 1)), .string (⟨#[]⟩ : ByteArray), .string (⟨#[]⟩ : ByteArray), .int .i64 0, .int .i64 0, .slice none 0 0]) ?_ 1 _ rfl; (with_reducible repeat (first | refine blk_drewN ?_ _ | refine blk_drew ?_ | refine blk_alloc ?_ _)); refine blk_put (cs := #[.int .i64 0, .string (⟨#[]⟩ : ByteArray), .string (⟨#[]⟩ : ByteArray), .int .i64 0, .int .i64 0, .slice none 0 0]) ?_ 0 _ rfl; (with_reducible repeat (first | refine blk_drewN ?_ _ | refine blk_drew ?_ | refine blk_alloc ?_ _)); exact BK117.out) Try.underlying35 rfl (by kernel_rfl)) rfl ?_
                                    exact ⟨_, by first | rfl | (simp [errW_none, errW_some] <;> rfl) | (simp [*, errW_none, errW_some] <;> rfl), by (with_reducible repeat (first | apply Kd.R_alloc | apply Kd.R_drewN | apply Kd.R_drew)); exact Kd.R_mono (Kd.R_far (p := ⟨gb117, 5, none⟩) (Kd.R_far (p := ⟨gb117, 4, none⟩) (Kd.R_far (p := ⟨gb117, 3, none⟩) (Kd.R_far (p := ⟨gb117, 2, none⟩) (Kd.R_far (p := ⟨gb117, 1, none⟩) (Kd.R_far (p := ⟨gb117, 0, none⟩) (Kd.R_types HO_119005.out BK117.out (by decide)) (fun _ hk => hk.2) (.int .i64 (wrap64 (t119 + 1)))) (fun _ hk => hk.2) (.string t121)) (fun _ hk => hk.2) (.string x119002_28)) (fun _ hk => hk.2) (.int .i64 x119003_43)) (fun _ hk => hk.2) (.int .i64 x119004_58)) (fun _ hk => hk.2) (.slice Ao85 x119005_7.length co85)) (fun _ hk => trivial), by repeat (first | (with_reducible first | exact HI0.out | apply IsS46.alloc | apply IsS46.drewN | apply IsS46.drew | apply IsS46.set_0 | refine IsS46.far ?_ NB0_117.out _ | refine IsS46.far ?_ NB0_118.out _) | exact HI0.out), by repeat (first | (with_reducible first | exact HB.out | apply below_alloc | apply pw_below_drewN | apply below_drew1 | refine below_set ?_ (IsS46.ge HI0.out) | refine below_set ?_ GE117.out | refine below_set ?_ GE118.out) | exact HB.out), by repeat (first | (with_reducible first | exact HK.out | apply KeepBut.set_ | apply keep_drewN | apply keep_drew | apply keep_alloc | refine keep_far ?_ GW117.out _ | refine keep_far ?_ GW118.out _) | exact HK.out)⟩
                            · rw [if_neg c66] at H
                              have c66b0 : ((wrap64 (t119 + 1)) == 8) = false := beq_eq_false_iff_ne.mpr c66
                              have c66b1 : ((wrap64 (t119 + 1)) != 8) = true := bne_iff_ne.mpr c66
                              simp only [Option.some.injEq, Prod.mk.injEq] at H
                              obtain ⟨rfl, rfl, rfl, rfl, rfl, rfl, rfl⟩ := H
                              have hnb86 := NB118_117.out
                              have hnc86 := NB117_118.out
                              have hnb87 := NB118_0.out
                              have hnc87 := NB0_118.out
                              have hcz88_0 : wc.cell? ⟨gb118, 0, none⟩ = some (.int .i64 (wrap64 (t119 + 1))) := (blk_cell BK118.out 0).trans rfl
                              have hcz88_1 : wc.cell? ⟨gb118, 1, none⟩ = some (.string t121) := (blk_cell BK118.out 1).trans rfl
                              have hcz88_2 : wc.cell? ⟨gb118, 2, none⟩ = some (.string x119002_28) := (blk_cell BK118.out 2).trans rfl
                              have hcz88_3 : wc.cell? ⟨gb118, 3, none⟩ = some (.int .i64 x119003_43) := (blk_cell BK118.out 3).trans rfl
                              have hcz88_4 : wc.cell? ⟨gb118, 4, none⟩ = some (.int .i64 x119004_58) := (blk_cell BK118.out 4).trans rfl
                              have hcz88_5 : wc.cell? ⟨gb118, 5, none⟩ = some (.slice none 0 0) := (blk_cell BK118.out 5).trans rfl
                              have hfz88_0 := blk_frozen BK118.out 0
                              have hfz88_1 := blk_frozen BK118.out 1
                              have hfz88_2 := blk_frozen BK118.out 2
                              have hfz88_3 := blk_frozen BK118.out 3
                              have hfz88_4 := blk_frozen BK118.out 4
                              have hfz88_5 := blk_frozen BK118.out 5
                              have hnb89 := NB117_0.out
                              have hnc89 := NB0_117.out
                              have hcz90_0 : wc.cell? ⟨gb117, 0, none⟩ = some (.int .i64 0) := (blk_cell BK117.out 0).trans rfl
                              have hcz90_1 : wc.cell? ⟨gb117, 1, none⟩ = some (.string (⟨#[]⟩ : ByteArray)) := (blk_cell BK117.out 1).trans rfl
                              have hcz90_2 : wc.cell? ⟨gb117, 2, none⟩ = some (.string (⟨#[]⟩ : ByteArray)) := (blk_cell BK117.out 2).trans rfl
                              have hcz90_3 : wc.cell? ⟨gb117, 3, none⟩ = some (.int .i64 0) := (blk_cell BK117.out 3).trans rfl
                              have hcz90_4 : wc.cell? ⟨gb117, 4, none⟩ = some (.int .i64 0) := (blk_cell BK117.out 4).trans rfl
                              have hcz90_5 : wc.cell? ⟨gb117, 5, none⟩ = some (.slice none 0 0) := (blk_cell BK117.out 5).trans rfl
                              have hfz90_0 := blk_frozen BK117.out 0
                              have hfz90_1 := blk_frozen BK117.out 1
                              have hfz90_2 := blk_frozen BK117.out 2
                              have hfz90_3 := blk_frozen BK117.out 3
                              have hfz90_4 := blk_frozen BK117.out 4
                              have hfz90_5 := blk_frozen BK117.out 5
                              go_wp2
                              refine bodyPost_ret (results_cell_row rfl _ _ gb117 35 #[.int .i64 (wrap64 (t119 + 1)), .string t121, .string x119002_28, .int .i64 x119003_43, .int .i64 x119004_58, .slice none 0 0] (0, 0) _ rfl (by (with_reducible repeat (first | refine blk_drewN ?_ _ | refine blk_drew ?_ | refine blk_alloc ?_ _)); refine blk_put (cs := #[.int .i64 (wrap64 (t119 + 1)), .string t121, .string x119002_28, .int .i64 x119003_43, .int .i64 x119004_58, .slice none 0 0]) ?_ 5 _ rfl; (with_reducible repeat (first | refine blk_drewN ?_ _ | refine blk_drew ?_ | refine blk_alloc ?_ _)); refine blk_put (cs := #[.int .i64 (wrap64 (t119 + 1)), .string t121, .string x119002_28, .int .i64 x119003_43, .int .i64 0, .slice none 0 0]) ?_ 4 _ rfl; (with_reducible repeat (first | refine blk_drewN ?_ _ | refine blk_drew ?_ | refine blk_alloc ?_ _)); refine blk_put (cs := #[.int .i64 (wrap64 (t119 + 1)), .string t121, .string x119002_28, .int .i64 0, .int .i64 0, .slice none 0 0]) ?_ 3 _ rfl; (with_reducible repeat (first | refine blk_drewN ?_ _ | refine blk_drew ?_ | refine blk_alloc ?_ _)); refine blk_put (cs := #[.int .i64 (wrap64 (t119 + 1)), .string t121, .string (⟨#[]⟩ : ByteArray), .int .i64 0, .int .i64 0, .slice none 0 0]) ?_ 2 _ rfl; (with_reducible repeat (first | refine blk_drewN ?_ _ | refine blk_drew ?_ | refine blk_alloc ?_ _)); refine blk_put (cs := #[.int .i64 (wrap64 (t119 + 1)), .string (⟨#[]⟩ : ByteArray), .string (⟨#[]⟩ : ByteArray), .int .i64 0, .int .i64 0, .slice none 0 0]) ?_ 1 _ rfl; (with_reducible repeat (first | refine blk_drewN ?_ _ | refine blk_drew ?_ | refine blk_alloc ?_ _)); refine blk_put (cs := #[.int .i64 0, .string (⟨#[]⟩ : ByteArray), .string (⟨#[]⟩ : ByteArray), .int .i64 0, .int .i64 0, .slice none 0 0]) ?_ 0 _ rfl; (with_reducible repeat (first | refine blk_drewN ?_ _ | refine blk_drew ?_ | refine blk_alloc ?_ _)); exact BK117.out) Try.underlying35 rfl (by kernel_rfl)) rfl ?_
                              exact ⟨_, by first | rfl | (simp [errW_none, errW_some] <;> rfl) | (simp [*, errW_none, errW_some] <;> rfl), by first | exact Kd.R_nil _ _ _ _ _ | exact Kd.N_nil _ _ _ _ _ | exact Kd.V_nil _ _ _ _ _ | exact Kd.Q_nil _ _ _ _ _ | exact Kd.S_nil _ _ _ _ _, by repeat (first | (with_reducible first | exact HI0.out | apply IsS46.alloc | apply IsS46.drewN | apply IsS46.drew | apply IsS46.set_0 | refine IsS46.far ?_ NB0_117.out _ | refine IsS46.far ?_ NB0_118.out _) | exact HI0.out), by repeat (first | (with_reducible first | exact HB.out | apply below_alloc | apply pw_below_drewN | apply below_drew1 | refine below_set ?_ (IsS46.ge HI0.out) | refine below_set ?_ GE117.out | refine below_set ?_ GE118.out) | exact HB.out), by repeat (first | (with_reducible first | exact HK.out | apply KeepBut.set_ | apply keep_drewN | apply keep_drew | apply keep_alloc | refine keep_far ?_ GW117.out _ | refine keep_far ?_ GW118.out _) | exact HK.out)⟩

end Go.Proofs.Ytfilblidhcnhcaa.PLotsFns
