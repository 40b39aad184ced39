-- written by the session's program wip/print/patch.py (a turned copy of the print) over contracts that the session proved by hand
import Derived.Test.YthhhklihggpldaaPEntrySpoiltx0
import Derived.Test.YthhhklihggpldaaPEntrySpoiltx1
import Derived.Test.YthhhklihggpldaaPEntrySpoiltx2
namespace Go.Proofs.Ythhhklihggpldaa.PEntrySpoilt
open Go.Proofs.Ythhhklihggpldaa.Given Go.Proofs.Ythhhklihggpldaa.PEntryReads
open Go.RowKit Go.Proofs.YthhhklihggpldaaW.PrintWords Go.Proofs.YthhhklihggpldaaW.PrintLast Go.Proofs.YthhhklihggpldaaW.PrintMore
attribute [local go_sem] max2_int min2_int max_two min_two max_three min_three max_four min_four   -- for this text's walks alone
set_option linter.unusedVariables false
set_option linter.unusedSimpArgs false

attribute [local go_sem high] eqA28
/-! ### lockgatelaw6_EntrySpoilt: function 6 -/
mutual
def lockgatelaw6_EntrySpoilt.j0 : Nat → List Int → Int → Int → Bool → Bool → Option (Bool)
  | 0, _, _, _, _, _ => none
  | k + 1, x0, x1, x2, x7, x31 => if x31 = true then (some x7) else (lockgatelaw6_EntrySpoilt.l0 k x0 x1 x2 ([] : List (S28)) 0)
def lockgatelaw6_EntrySpoilt.l0 : Nat → List Int → Int → Int → List (S28) → Int → Option (Bool)
  | 0, _, _, _, _, _ => none
  | k + 1, x0, x1, x2, x8, x9 => if x9 < (x0.length : Int) then (if 0 ≤ x9 then (if (rd x0 x9) < 1 then (some true) else (if (rd x0 x9) > 4294967295 then (some true) else (if 0 ≤ (wrap64 (Int.tdiv x9 10)) then (if (wrap64 (Int.tdiv x9 10)) ≤ (wrap64 ((wrap64 (Int.tdiv x9 10)) + 1)) then (if (wrap64 ((wrap64 (Int.tdiv x9 10)) + 1)) ≤ 10 then (if 1 + ((⟨#[48, 49, 50, 51, 52, 53, 54, 55, 56, 57]⟩ : ByteArray).extract ((wrap64 (Int.tdiv x9 10)) : Int).toNat ((wrap64 ((wrap64 (Int.tdiv x9 10)) + 1)) : Int).toNat).size ≤ 9223372036854775807 then (if 0 ≤ (Int.tmod x9 10) then (if (Int.tmod x9 10) ≤ (wrap64 ((Int.tmod x9 10) + 1)) then (if (wrap64 ((Int.tmod x9 10) + 1)) ≤ 10 then (if ((⟨#[110]⟩ : ByteArray) ++ ((⟨#[48, 49, 50, 51, 52, 53, 54, 55, 56, 57]⟩ : ByteArray).extract ((wrap64 (Int.tdiv x9 10)) : Int).toNat ((wrap64 ((wrap64 (Int.tdiv x9 10)) + 1)) : Int).toNat)).size + ((⟨#[48, 49, 50, 51, 52, 53, 54, 55, 56, 57]⟩ : ByteArray).extract ((Int.tmod x9 10) : Int).toNat ((wrap64 ((Int.tmod x9 10) + 1)) : Int).toNat).size ≤ 9223372036854775807 then (if x8.length < 5864062014805 then (lockgatelaw6_EntrySpoilt.l0 k x0 x1 x2 (x8 ++ [(⟨rd x0 x9, ((⟨#[110]⟩ : ByteArray) ++ ((⟨#[48, 49, 50, 51, 52, 53, 54, 55, 56, 57]⟩ : ByteArray).extract ((wrap64 (Int.tdiv x9 10)) : Int).toNat ((wrap64 ((wrap64 (Int.tdiv x9 10)) + 1)) : Int).toNat)) ++ ((⟨#[48, 49, 50, 51, 52, 53, 54, 55, 56, 57]⟩ : ByteArray).extract ((Int.tmod x9 10) : Int).toNat ((wrap64 ((Int.tmod x9 10) + 1)) : Int).toNat)⟩ : S28)]) (wrap64 (x9 + 1))) else (none)) else (none)) else (none)) else (none)) else (none)) else (none)) else (none)) else (none)) else (none)))) else (none)) else ((entry_PackBlock.f k x8).bind fun bt120 => ((lockgatelaw6_num.f bt120.2).bind fun t124 => (if t124 = 0 then (if 0 ≤ (wrap64 ((wrap64 ((wrap64 ((wrap64 (Int.tdiv x1 32)) * 32)) + 9)) + (Int.tmod x1 23))) then (if (wrap64 ((wrap64 ((wrap64 ((wrap64 (Int.tdiv x1 32)) * 32)) + 9)) + (Int.tmod x1 23))) < (bt120.1.length : Int) then ((entry_Block.f (bt120.1.set ((wrap64 ((wrap64 ((wrap64 ((wrap64 (Int.tdiv x1 32)) * 32)) + 9)) + (Int.tmod x1 23))) : Int).toNat (Go.bits .xor .u8 (rd bt120.1 (wrap64 ((wrap64 ((wrap64 ((wrap64 (Int.tdiv x1 32)) * 32)) + 9)) + (Int.tmod x1 23)))) x2))).bind fun t127 => (if (t127.length : Int) = 32 then (lockgatelaw6_EntrySpoilt.l1 k x1 x2 x8 t127 0) else (some false))) else (none)) else (none)) else (some false))))
def lockgatelaw6_EntrySpoilt.l1 : Nat → Int → Int → List (S28) → List (S28) → Int → Option (Bool)
  | 0, _, _, _, _, _ => none
  | k + 1, x1, x2, x8, x13, x14 => if x14 < 32 then (if x14 < (x8.length : Int) then (if x14 = (wrap64 (Int.tdiv x1 32)) then (lockgatelaw6_EntrySpoilt.j3 k x1 x2 x8 x13 x14 (x2 == 0) 0 (⟨#[]⟩ : ByteArray)) else (lockgatelaw6_EntrySpoilt.j3 k x1 x2 x8 x13 x14 true 0 (⟨#[]⟩ : ByteArray))) else (lockgatelaw6_EntrySpoilt.j3 k x1 x2 x8 x13 x14 false 0 (⟨#[]⟩ : ByteArray))) else (some true)
def lockgatelaw6_EntrySpoilt.j3 : Nat → Int → Int → List (S28) → List (S28) → Int → Bool → Int → ByteArray → Option (Bool)
  | 0, _, _, _, _, _, _, _, _ => none
  | k + 1, x1, x2, x8, x13, x14, x120, x131000, x131001 => if x120 = true then (if 0 ≤ x14 then (if x14 < (x8.length : Int) then (if x14 < (x13.length : Int) then (if (!(((rd_T28 x13 x14).f0) == ((rd_T28 x8 x14).f0)) || (!((((rd_T28 x13 x14).f1).toList) == (((rd_T28 x8 x14).f1).toList)))) = true then (some false) else (lockgatelaw6_EntrySpoilt.l1 k x1 x2 x8 x13 (wrap64 (x14 + 1)))) else (none)) else (none)) else (none)) else (if 0 ≤ x14 then (if x14 < (x13.length : Int) then (if (!(((rd_T28 x13 x14).f0) == x131000) || (!((((rd_T28 x13 x14).f1).toList) == x131001.toList))) = true then (some false) else (lockgatelaw6_EntrySpoilt.l1 k x1 x2 x8 x13 (wrap64 (x14 + 1)))) else (none)) else (none))
end
def lockgatelaw6_EntrySpoilt.f (k : Nat) (l0 : List Int) (a1 : Int) (a2 : Int) : Option (Bool) := (lockgatelaw6_alive.f).bind fun t113 => (if t113 = true then (if (l0.length : Int) > 32 then (lockgatelaw6_EntrySpoilt.j0 k l0 a1 a2 t113 true) else (if a1 < 0 then (lockgatelaw6_EntrySpoilt.j0 k l0 a1 a2 t113 true) else (lockgatelaw6_EntrySpoilt.j0 k l0 a1 a2 t113 (decide (a1 > 1023))))) else (lockgatelaw6_EntrySpoilt.j0 k l0 a1 a2 t113 true))
theorem lockgatelaw6_EntrySpoilt.mono_l : ∀ k, (∀ y0 y1 y2 y3 y4, LeO (lockgatelaw6_EntrySpoilt.j0 k y0 y1 y2 y3 y4) (lockgatelaw6_EntrySpoilt.j0 (k + 1) y0 y1 y2 y3 y4)) ∧ (∀ y0 y1 y2 y3 y4, LeO (lockgatelaw6_EntrySpoilt.l0 k y0 y1 y2 y3 y4) (lockgatelaw6_EntrySpoilt.l0 (k + 1) y0 y1 y2 y3 y4)) ∧ (∀ y0 y1 y2 y3 y4, LeO (lockgatelaw6_EntrySpoilt.l1 k y0 y1 y2 y3 y4) (lockgatelaw6_EntrySpoilt.l1 (k + 1) y0 y1 y2 y3 y4)) ∧ (∀ y0 y1 y2 y3 y4 y5 y6 y7, LeO (lockgatelaw6_EntrySpoilt.j3 k y0 y1 y2 y3 y4 y5 y6 y7) (lockgatelaw6_EntrySpoilt.j3 (k + 1) y0 y1 y2 y3 y4 y5 y6 y7))
  | 0 => ⟨fun _ _ _ _ _ r h => by simp [lockgatelaw6_EntrySpoilt.j0] at h, fun _ _ _ _ _ r h => by simp [lockgatelaw6_EntrySpoilt.l0] at h, fun _ _ _ _ _ r h => by simp [lockgatelaw6_EntrySpoilt.l1] at h, fun _ _ _ _ _ _ _ _ r h => by simp [lockgatelaw6_EntrySpoilt.j3] at h⟩
  | k + 1 => by
    obtain ⟨ih0, ih1, ih2, ih3⟩ := lockgatelaw6_EntrySpoilt.mono_l k
    refine ⟨?_, ?_, ?_, ?_⟩
    · intro y0 y1 y2 y3 y4
      unfold lockgatelaw6_EntrySpoilt.j0
      repeat' first
      | (with_reducible exact ih0 _ _ _ _ _)
      | (with_reducible exact ih1 _ _ _ _ _)
      | (with_reducible exact ih2 _ _ _ _ _)
      | (with_reducible exact ih3 _ _ _ _ _ _ _ _)
      | (with_reducible exact entry_PackBlock.mono _ _)
      | (with_reducible exact LeO.refl _)
      | (with_reducible exact LeO.none _)
      | (with_reducible refine LeO.ite ?_ ?_)
      | (with_reducible refine LeO.bind ?_ (fun _ => ?_))
      | exact ih0 _ _ _ _ _
      | exact ih1 _ _ _ _ _
      | exact ih2 _ _ _ _ _
      | exact ih3 _ _ _ _ _ _ _ _
      | exact entry_PackBlock.mono _ _
      | exact LeO.none _
      | refine LeO.ite ?_ ?_
      | refine LeO.bind ?_ (fun _ => ?_)
    · intro y0 y1 y2 y3 y4
      unfold lockgatelaw6_EntrySpoilt.l0
      repeat' first
      | (with_reducible exact ih0 _ _ _ _ _)
      | (with_reducible exact ih1 _ _ _ _ _)
      | (with_reducible exact ih2 _ _ _ _ _)
      | (with_reducible exact ih3 _ _ _ _ _ _ _ _)
      | (with_reducible exact entry_PackBlock.mono _ _)
      | (with_reducible exact LeO.refl _)
      | (with_reducible exact LeO.none _)
      | (with_reducible refine LeO.ite ?_ ?_)
      | (with_reducible refine LeO.bind ?_ (fun _ => ?_))
      | exact ih0 _ _ _ _ _
      | exact ih1 _ _ _ _ _
      | exact ih2 _ _ _ _ _
      | exact ih3 _ _ _ _ _ _ _ _
      | exact entry_PackBlock.mono _ _
      | exact LeO.none _
      | refine LeO.ite ?_ ?_
      | refine LeO.bind ?_ (fun _ => ?_)
    · intro y0 y1 y2 y3 y4
      unfold lockgatelaw6_EntrySpoilt.l1
      repeat' first
      | (with_reducible exact ih0 _ _ _ _ _)
      | (with_reducible exact ih1 _ _ _ _ _)
      | (with_reducible exact ih2 _ _ _ _ _)
      | (with_reducible exact ih3 _ _ _ _ _ _ _ _)
      | (with_reducible exact entry_PackBlock.mono _ _)
      | (with_reducible exact LeO.refl _)
      | (with_reducible exact LeO.none _)
      | (with_reducible refine LeO.ite ?_ ?_)
      | (with_reducible refine LeO.bind ?_ (fun _ => ?_))
      | exact ih0 _ _ _ _ _
      | exact ih1 _ _ _ _ _
      | exact ih2 _ _ _ _ _
      | exact ih3 _ _ _ _ _ _ _ _
      | exact entry_PackBlock.mono _ _
      | exact LeO.none _
      | refine LeO.ite ?_ ?_
      | refine LeO.bind ?_ (fun _ => ?_)
    · intro y0 y1 y2 y3 y4 y5 y6 y7
      unfold lockgatelaw6_EntrySpoilt.j3
      repeat' first
      | (with_reducible exact ih0 _ _ _ _ _)
      | (with_reducible exact ih1 _ _ _ _ _)
      | (with_reducible exact ih2 _ _ _ _ _)
      | (with_reducible exact ih3 _ _ _ _ _ _ _ _)
      | (with_reducible exact entry_PackBlock.mono _ _)
      | (with_reducible exact LeO.refl _)
      | (with_reducible exact LeO.none _)
      | (with_reducible refine LeO.ite ?_ ?_)
      | (with_reducible refine LeO.bind ?_ (fun _ => ?_))
      | exact ih0 _ _ _ _ _
      | exact ih1 _ _ _ _ _
      | exact ih2 _ _ _ _ _
      | exact ih3 _ _ _ _ _ _ _ _
      | exact entry_PackBlock.mono _ _
      | exact LeO.none _
      | refine LeO.ite ?_ ?_
      | refine LeO.bind ?_ (fun _ => ?_)
theorem lockgatelaw6_EntrySpoilt.mono : ∀ a0 a1 a2 k, LeO (lockgatelaw6_EntrySpoilt.f k a0 a1 a2) (lockgatelaw6_EntrySpoilt.f (k + 1) a0 a1 a2) := by
  intro a0 a1 a2 k
  obtain ⟨ih0, ih1, ih2, ih3⟩ := lockgatelaw6_EntrySpoilt.mono_l k
  unfold lockgatelaw6_EntrySpoilt.f
  repeat' first
      | (with_reducible exact ih0 _ _ _ _ _)
      | (with_reducible exact ih1 _ _ _ _ _)
      | (with_reducible exact ih2 _ _ _ _ _)
      | (with_reducible exact ih3 _ _ _ _ _ _ _ _)
      | (with_reducible exact entry_PackBlock.mono _ _)
      | (with_reducible exact LeO.refl _)
      | (with_reducible exact LeO.none _)
      | (with_reducible refine LeO.ite ?_ ?_)
      | (with_reducible refine LeO.bind ?_ (fun _ => ?_))
      | exact ih0 _ _ _ _ _
      | exact ih1 _ _ _ _ _
      | exact ih2 _ _ _ _ _
      | exact ih3 _ _ _ _ _ _ _ _
      | exact entry_PackBlock.mono _ _
      | exact LeO.none _
      | refine LeO.ite ?_ ?_
      | refine LeO.bind ?_ (fun _ => ?_)
def lockgatelaw6_EntrySpoilt.T10 : Bool × List (List Nat × List Nat) := (true, [([], []), ([], []), ([], []), ([1, 2], [1, 2]), ([3], [3]), ([], []), ([5], [5]), ([], []), ([7], [7]), ([8], [8]), ([6, 9], [6, 9]), ([10], [10]), ([], []), ([12], [12]), ([], []), ([14], [14]), ([15], [15]), ([13, 16], [13, 16]), ([11, 17], [11, 17]), ([4, 18], [4, 18]), ([19], [19]), ([0, 20], [0, 20]), ([21, 21, 0, 1, 2, 3, 4, 5, 6, 7, 8, 9, 10, 11, 12, 13, 14, 15, 16, 17, 18, 19, 20, 21], [0, 21])])
def lockgatelaw6_EntrySpoilt.B10 : List Nat := [0, 0, 0, 6, 14, 0, 32, 0, 128, 384, 992, 2016, 0, 4096, 0, 16384, 49152, 126976, 262112, 524286, 1048574, 2097151, 4194303]
theorem lockgatelaw6_EntrySpoilt.tab10 : rtab .any (opsOf Try.f6 10) = lockgatelaw6_EntrySpoilt.T10 := by kernel_rfl
theorem lockgatelaw6_EntrySpoilt.bits10 : waitsOk lockgatelaw6_EntrySpoilt.T10.2 lockgatelaw6_EntrySpoilt.B10 = true := by kernel_rfl
set_option maxHeartbeats 8000000 in
set_option maxRecDepth 100000 in
theorem lockgatelaw6_EntrySpoilt.calls (k : Nat) (A0 : Option Addr) (c0 : Nat) (l0 : List Int) (a1 : Int) (a2 : Int) (r : Bool) (w : World) (hr0 : Kd.C (Kd.int .i64) w A0 l0.length l0) (hc0 : l0.length ≤ c0) (h : lockgatelaw6_EntrySpoilt.f k l0 a1 a2 = some r) :
    Calls Try.prog 6 #[.slice A0 l0.length c0, .int .i64 a1, .int .u8 a2] w fun e w' => e = .returned (.bool r) ∧ Below w.heap.size w w' := by
  have hu28 := Try.underlying28
  have HR0 := Aside0.mk hr0
  have HC0 := Aside0.mk hc0
  clear hr0 hc0
  have HB := Aside0.mk (Below.refl w.heap.size w)
  have H : ((lockgatelaw6_alive.f).bind fun t113 => (if t113 = true then (if (l0.length : Int) > 32 then (lockgatelaw6_EntrySpoilt.j0 k l0 a1 a2 t113 true) else (if a1 < 0 then (lockgatelaw6_EntrySpoilt.j0 k l0 a1 a2 t113 true) else (lockgatelaw6_EntrySpoilt.j0 k l0 a1 a2 t113 (decide (a1 > 1023))))) else (lockgatelaw6_EntrySpoilt.j0 k l0 a1 a2 t113 true))) = some r := h
  clear h
  replace H := Option.bind_eq_some_iff.mp H
  obtain ⟨t113, A40, H⟩ := H
  replace H : (if t113 = true then (if (l0.length : Int) > 32 then (lockgatelaw6_EntrySpoilt.j0 k l0 a1 a2 t113 true) else (if a1 < 0 then (lockgatelaw6_EntrySpoilt.j0 k l0 a1 a2 t113 true) else (lockgatelaw6_EntrySpoilt.j0 k l0 a1 a2 t113 (decide (a1 > 1023))))) else (lockgatelaw6_EntrySpoilt.j0 k l0 a1 a2 t113 true)) = some r := H
  have A4 := Aside0.mk A40
  clear A40
  have HC5 := Aside0.mk H
  clear H
  go_enter Try.func6, Try.ntmps6
  go_upto_region 2 with (first | ((with_reducible refine gate_callee (f := 8) rfl ?_); refine goesL_ (some 16) rfl rfl Try.func8 (by kernel_rfl) rfl #[] rfl (by (try simp only [List.map_toArray, List.map_cons, List.map_nil]); first | done | rfl | (simp only [List.length_drop, List.length_take]; rfl)) ?_; (with_reducible refine (lockgatelaw6_alive.calls  t113 _ A4.out).mono ?_); rintro e w6 ⟨rfl, hb⟩; refine ⟨_, rfl, ?_⟩; have n0_ := Aside0.mk (below_step (by repeat (first | (with_reducible first | exact HB.out | apply below_alloc | apply pw_below_drewN | apply below_drew1) | exact HB.out)) hb); clear HB; have HB := n0_; clear n0_; (try clear hb); (try clear hb2); (try clear hk); (try clear hi)))
  (try simp only [Act.put, List.setIfInBounds_toArray, List.set_cons_zero, List.set_cons_succ])
  go_cut [31] (fun v31 wc => ∃ (kq : Nat) (x31_4 : Bool), v31 = .bool x31_4 ∧ Aside0 (lockgatelaw6_EntrySpoilt.j0 kq l0 a1 a2 t113 x31_4 = some r) ∧ Aside0 (kq ≤ k) ∧ Aside0 (Below w.heap.size w wc))
  case first =>
    have H := HC5.out
    clear HC5
    by_cases c7 : t113 = true
    · subst c7
      have H1 : (if (l0.length : Int) > 32 then (lockgatelaw6_EntrySpoilt.j0 k l0 a1 a2 true true) else (if a1 < 0 then (lockgatelaw6_EntrySpoilt.j0 k l0 a1 a2 true true) else (lockgatelaw6_EntrySpoilt.j0 k l0 a1 a2 true (decide (a1 > 1023))))) = some r := by rw [if_pos rfl] at H; exact H
      clear H
      have H := H1
      clear H1
      by_cases c8 : (l0.length : Int) > 32
      · rw [if_pos c8] at H
        have c8b0 : decide (32 < (l0.length : Int)) = true := decide_eq_true c8
        have c8b1 : decide (32 < l0.length) = true := decide_eq_true (by omega)
        clear c8
        (first | rw [c8b0] | (simp only [i64_w, i32_w]; rw [c8b0]) | skip)
        have H' := Aside0.mk H
        clear H
        go_wp2
        go_meet
        case rel => exact ⟨_, (true), (by first | rfl | (simp; done) | (simp [*]; done)), H', ⟨by first | omega | exact Nat.le_refl _⟩, ⟨by repeat (first | (with_reducible first | exact HB.out | apply below_alloc | apply pw_below_drewN | apply below_drew1) | exact HB.out)⟩⟩
      · rw [if_neg c8] at H
        have c8b0 : decide (32 < (l0.length : Int)) = false := decide_eq_false c8
        have c8b1 : decide (32 < l0.length) = false := decide_eq_false (by omega)
        clear c8
        (first | rw [c8b0] | (simp only [i64_w, i32_w]; rw [c8b0]) | skip)
        by_cases c9 : a1 < 0
        · rw [if_pos c9] at H
          have c9b0 : decide (a1 < 0) = true := decide_eq_true c9
          clear c9
          have H' := Aside0.mk H
          clear H
          go_wp2
          go_meet
          case rel => exact ⟨_, (true), (by first | rfl | (simp; done) | (simp [*]; done)), H', ⟨by first | omega | exact Nat.le_refl _⟩, ⟨by repeat (first | (with_reducible first | exact HB.out | apply below_alloc | apply pw_below_drewN | apply below_drew1) | exact HB.out)⟩⟩
        · rw [if_neg c9] at H
          have c9b0 : decide (a1 < 0) = false := decide_eq_false c9
          clear c9
          have H' := Aside0.mk H
          clear H
          go_wp2
          go_meet
          case rel => exact ⟨_, (decide (a1 > 1023)), (by first | rfl | (simp; done) | (simp [*]; done)), H', ⟨by first | omega | exact Nat.le_refl _⟩, ⟨by repeat (first | (with_reducible first | exact HB.out | apply below_alloc | apply pw_below_drewN | apply below_drew1) | exact HB.out)⟩⟩
    · replace c7 := Bool.eq_false_iff.mpr c7
      subst c7
      have H1 : (lockgatelaw6_EntrySpoilt.j0 k l0 a1 a2 false true) = some r := by rw [if_neg (show ¬ (false = true) by decide)] at H; exact H
      clear H
      have H := H1
      clear H1
      have H' := Aside0.mk H
      clear H
      go_wp2
      go_meet
      case rel => exact ⟨_, (true), (by first | rfl | (simp; done) | (simp [*]; done)), H', ⟨by first | omega | exact Nat.le_refl _⟩, ⟨by repeat (first | (with_reducible first | exact HB.out | apply below_alloc | apply pw_below_drewN | apply below_drew1) | exact HB.out)⟩⟩
  case rest =>
    clear HC5
    try clear p2
    try clear c6
    try clear c7
    try clear c8
    try clear c8b0
    try clear c8b1
    try clear c9
    try clear c9b0
    obtain ⟨kq, x31_4, rfl, HA, HJ4, HB⟩ := hcut
    cases kq with
    | zero => exact absurd HA.out (by simp [lockgatelaw6_EntrySpoilt.j0])
    | succ kj4 =>
      have H := HA.out
      clear HA
      simp only [lockgatelaw6_EntrySpoilt.j0] at H
      by_cases c10 : x31_4 = true
      · subst c10
        have H1 : (some t113) = some r := by rw [if_pos rfl] at H; exact H
        clear H
        have H := H1
        clear H1
        obtain rfl := Option.some.inj H
        go_wp2
        go_ret
        exact ⟨by first | rfl | (simp [errW_none, errW_some] <;> rfl) | (simp [*, errW_none, errW_some] <;> rfl), by repeat (first | (with_reducible first | exact HB.out | apply below_alloc | apply pw_below_drewN | apply below_drew1) | exact HB.out)⟩
      · replace c10 := Bool.eq_false_iff.mpr c10
        subst c10
        have H1 : (lockgatelaw6_EntrySpoilt.l0 kj4 l0 a1 a2 ([] : List (S28)) 0) = some r := by rw [if_neg (show ¬ (false = true) by decide)] at H; exact H
        clear H
        have H := H1
        clear H1
        have H' := Aside0.mk H
        clear H
        go_wp2
        go_loopg [8, 9] kj4 (fun kq v8 v9 w' => ∃ (x8_2 : List (S28)) (x9_2 : Int), v9 = .int .i64 x9_2 ∧ Aside0 (lockgatelaw6_EntrySpoilt.l0 kq l0 a1 a2 x8_2 x9_2 = some r) ∧ Aside0 (kq ≤ kj4) ∧ Aside0 (Kd.R k28 28 w' w.heap.size (fun _ => True) v8 x8_2) ∧ Aside0 (Below w.heap.size w w'))
        case atStart => exact ⟨(([] : List (S28))), (0), (by first | rfl | (simp; done) | (simp [*]; done)), H', ⟨Nat.le_refl _⟩, ⟨by first | exact Kd.R_nil _ _ _ _ _ | exact Kd.N_nil _ _ _ _ _ | exact Kd.V_nil _ _ _ _ _ | exact Kd.Q_nil _ _ _ _ _ | exact Kd.S_nil _ _ _ _ _⟩, ⟨by repeat (first | (with_reducible first | exact HB.out | apply below_alloc | apply pw_below_drewN | apply below_drew1) | exact HB.out)⟩⟩
        case round =>
          clear H'
          try clear c1
          try clear p2
          try clear c6
          try clear c7
          try clear c8
          try clear c8b0
          try clear c8b1
          try clear c9
          try clear c9b0
          try clear c10
          try clear p2
          obtain ⟨x8_2, x9_2, rfl, HA, HK2, HO_8, HB⟩ := hrel
          cases gk with
          | zero => exact absurd HA.out (by simp [lockgatelaw6_EntrySpoilt.l0])
          | succ k2 =>
            have H := HA.out
            clear HA
            simp only [lockgatelaw6_EntrySpoilt.l0] at H
            by_cases c11 : x9_2 < (l0.length : Int)
            · rw [if_pos c11] at H
              have c11b0 : decide (x9_2 < (l0.length : Int)) = true := decide_eq_true c11
              clear c11
              by_cases c12 : 0 ≤ x9_2
              · rw [if_pos c12] at H
                have c12b0 : decide (0 ≤ x9_2) = true := decide_eq_true c12
                clear c12
                by_cases c13 : (rd l0 x9_2) < 1
                · rw [if_pos c13] at H
                  have c13b0 : decide ((rd l0 x9_2) < 1) = true := decide_eq_true c13
                  clear c13
                  obtain rfl := Option.some.inj H
                  have p114 : 0 ≤ (x9_2 : Int) := of_decide_eq_true (by first | (with_reducible assumption) | assumption)
                  have q114 : x9_2 < (l0.length : Int) := of_decide_eq_true (by first | (with_reducible assumption) | assumption)
                  obtain ⟨ad114, e114, hx114_0⟩ := Kd.at_int HR0.out x9_2 p114 q114
                  cases e114
                  replace hx114_0 := (HB.out.cell (World.block_lt_of_cell? w _ hx114_0)).trans hx114_0
                  replace p114 := eq_true p114
                  replace q114 := eq_true q114
                  go_wp2
                  go_ret
                  exact ⟨by first | rfl | (simp [errW_none, errW_some] <;> rfl) | (simp [*, errW_none, errW_some] <;> rfl), by repeat (first | (with_reducible first | exact HB.out | apply below_alloc | apply pw_below_drewN | apply below_drew1) | exact HB.out)⟩
                · rw [if_neg c13] at H
                  have c13b0 : decide ((rd l0 x9_2) < 1) = false := decide_eq_false c13
                  clear c13
                  by_cases c14 : (rd l0 x9_2) > 4294967295
                  · rw [if_pos c14] at H
                    have c14b0 : decide (4294967295 < (rd l0 x9_2)) = true := decide_eq_true c14
                    clear c14
                    obtain rfl := Option.some.inj H
                    have p114 : 0 ≤ (x9_2 : Int) := of_decide_eq_true (by first | (with_reducible assumption) | assumption)
                    have q114 : x9_2 < (l0.length : Int) := of_decide_eq_true (by first | (with_reducible assumption) | assumption)
                    obtain ⟨ad114, e114, hx114_0⟩ := Kd.at_int HR0.out x9_2 p114 q114
                    cases e114
                    replace hx114_0 := (HB.out.cell (World.block_lt_of_cell? w _ hx114_0)).trans hx114_0
                    replace p114 := eq_true p114
                    replace q114 := eq_true q114
                    have p115 : 0 ≤ (x9_2 : Int) := of_decide_eq_true (by first | (with_reducible assumption) | assumption)
                    have q115 : x9_2 < (l0.length : Int) := of_decide_eq_true (by first | (with_reducible assumption) | assumption)
                    obtain ⟨ad115, e115, hx115_0⟩ := Kd.at_int HR0.out x9_2 p115 q115
                    obtain rfl : ad114 = ad115 := (by injection e115)
                    replace hx115_0 := (HB.out.cell (World.block_lt_of_cell? w _ hx115_0)).trans hx115_0
                    replace p115 := eq_true p115
                    replace q115 := eq_true q115
                    go_wp2
                    go_ret
                    exact ⟨by first | rfl | (simp [errW_none, errW_some] <;> rfl) | (simp [*, errW_none, errW_some] <;> rfl), by repeat (first | (with_reducible first | exact HB.out | apply below_alloc | apply pw_below_drewN | apply below_drew1) | exact HB.out)⟩
                  · rw [if_neg c14] at H
                    have c14b0 : decide (4294967295 < (rd l0 x9_2)) = false := decide_eq_false c14
                    clear c14
                    obtain ⟨ji15, hji15⟩ : ∃ j_ : Int, (wrap64 (Int.tdiv x9_2 10)) = j_ := ⟨_, rfl⟩
                    replace H : (if 0 ≤ (ji15) then (if (ji15) ≤ (wrap64 ((ji15) + 1)) then (if (wrap64 ((ji15) + 1)) ≤ 10 then (if 1 + ((⟨#[48, 49, 50, 51, 52, 53, 54, 55, 56, 57]⟩ : ByteArray).extract ((ji15) : Int).toNat ((wrap64 ((ji15) + 1)) : Int).toNat).size ≤ 9223372036854775807 then (if 0 ≤ (Int.tmod x9_2 10) then (if (Int.tmod x9_2 10) ≤ (wrap64 ((Int.tmod x9_2 10) + 1)) then (if (wrap64 ((Int.tmod x9_2 10) + 1)) ≤ 10 then (if ((⟨#[110]⟩ : ByteArray) ++ ((⟨#[48, 49, 50, 51, 52, 53, 54, 55, 56, 57]⟩ : ByteArray).extract ((ji15) : Int).toNat ((wrap64 ((ji15) + 1)) : Int).toNat)).size + ((⟨#[48, 49, 50, 51, 52, 53, 54, 55, 56, 57]⟩ : ByteArray).extract ((Int.tmod x9_2 10) : Int).toNat ((wrap64 ((Int.tmod x9_2 10) + 1)) : Int).toNat).size ≤ 9223372036854775807 then (if x8_2.length < 5864062014805 then (lockgatelaw6_EntrySpoilt.l0 k2 l0 a1 a2 (x8_2 ++ [(⟨rd l0 x9_2, ((⟨#[110]⟩ : ByteArray) ++ ((⟨#[48, 49, 50, 51, 52, 53, 54, 55, 56, 57]⟩ : ByteArray).extract ((ji15) : Int).toNat ((wrap64 ((ji15) + 1)) : Int).toNat)) ++ ((⟨#[48, 49, 50, 51, 52, 53, 54, 55, 56, 57]⟩ : ByteArray).extract ((Int.tmod x9_2 10) : Int).toNat ((wrap64 ((Int.tmod x9_2 10) + 1)) : Int).toNat)⟩ : S28)]) (wrap64 (x9_2 + 1))) else (none)) else (none)) else (none)) else (none)) else (none)) else (none)) else (none)) else (none)) else (none)) = some r := by first | (rw [hji15] at H; exact H) | (simp only [hji15] at H ⊢; exact H)
                    have hji15w : (IntKind.i64.wrap (Int.tdiv x9_2 10)) = ji15 := (i64_w _).trans hji15
                    by_cases c16 : 0 ≤ (ji15)
                    · rw [if_pos c16] at H
                      have c16b0 := eq_true c16
                      have c16b1 : decide (0 ≤ (ji15)) = true := decide_eq_true c16
                      clear c16
                      by_cases c17 : (ji15) ≤ (wrap64 ((ji15) + 1))
                      · rw [if_pos c17] at H
                        have c17b0 := eq_true c17
                        have c17b1 : decide ((ji15) ≤ (wrap64 ((ji15) + 1))) = true := decide_eq_true c17
                        by_cases c18 : (wrap64 ((ji15) + 1)) ≤ 10
                        · rw [if_pos c18] at H
                          have c18b0 := eq_true c18
                          have c18b1 : decide ((wrap64 ((ji15) + 1)) ≤ 10) = true := decide_eq_true c18
                          by_cases c19 : 1 + ((⟨#[48, 49, 50, 51, 52, 53, 54, 55, 56, 57]⟩ : ByteArray).extract ((ji15) : Int).toNat ((wrap64 ((ji15) + 1)) : Int).toNat).size ≤ 9223372036854775807
                          · rw [if_pos c19] at H
                            have c19b0 := eq_true c19
                            have c19b1 : decide (1 + ((⟨#[48, 49, 50, 51, 52, 53, 54, 55, 56, 57]⟩ : ByteArray).extract ((ji15) : Int).toNat ((wrap64 ((ji15) + 1)) : Int).toNat).size ≤ 9223372036854775807) = true := decide_eq_true c19
                            try have c19b2 : (9223372036854775807 < 1 + ((⟨#[48, 49, 50, 51, 52, 53, 54, 55, 56, 57]⟩ : ByteArray).extract ((ji15) : Int).toNat ((wrap64 ((ji15) + 1)) : Int).toNat).size) = False := eq_false (Nat.not_lt.2 c19)
                            obtain ⟨ji20, hji20⟩ : ∃ j_ : Int, (Int.tmod x9_2 10) = j_ := ⟨_, rfl⟩
                            replace H : (if 0 ≤ (ji20) then (if (ji20) ≤ (wrap64 ((ji20) + 1)) then (if (wrap64 ((ji20) + 1)) ≤ 10 then (if ((⟨#[110]⟩ : ByteArray) ++ ((⟨#[48, 49, 50, 51, 52, 53, 54, 55, 56, 57]⟩ : ByteArray).extract ((ji15) : Int).toNat ((wrap64 ((ji15) + 1)) : Int).toNat)).size + ((⟨#[48, 49, 50, 51, 52, 53, 54, 55, 56, 57]⟩ : ByteArray).extract ((ji20) : Int).toNat ((wrap64 ((ji20) + 1)) : Int).toNat).size ≤ 9223372036854775807 then (if x8_2.length < 5864062014805 then (lockgatelaw6_EntrySpoilt.l0 k2 l0 a1 a2 (x8_2 ++ [(⟨rd l0 x9_2, ((⟨#[110]⟩ : ByteArray) ++ ((⟨#[48, 49, 50, 51, 52, 53, 54, 55, 56, 57]⟩ : ByteArray).extract ((ji15) : Int).toNat ((wrap64 ((ji15) + 1)) : Int).toNat)) ++ ((⟨#[48, 49, 50, 51, 52, 53, 54, 55, 56, 57]⟩ : ByteArray).extract ((ji20) : Int).toNat ((wrap64 ((ji20) + 1)) : Int).toNat)⟩ : S28)]) (wrap64 (x9_2 + 1))) else (none)) else (none)) else (none)) else (none)) else (none)) = some r := by first | (rw [hji20] at H; exact H) | (simp only [hji20] at H ⊢; exact H)
                            by_cases c21 : 0 ≤ (ji20)
                            · rw [if_pos c21] at H
                              have c21b0 := eq_true c21
                              have c21b1 : decide (0 ≤ (ji20)) = true := decide_eq_true c21
                              clear c21
                              by_cases c22 : (ji20) ≤ (wrap64 ((ji20) + 1))
                              · rw [if_pos c22] at H
                                have c22b0 := eq_true c22
                                have c22b1 : decide ((ji20) ≤ (wrap64 ((ji20) + 1))) = true := decide_eq_true c22
                                by_cases c23 : (wrap64 ((ji20) + 1)) ≤ 10
                                · rw [if_pos c23] at H
                                  have c23b0 := eq_true c23
                                  have c23b1 : decide ((wrap64 ((ji20) + 1)) ≤ 10) = true := decide_eq_true c23
                                  by_cases c24 : ((⟨#[110]⟩ : ByteArray) ++ ((⟨#[48, 49, 50, 51, 52, 53, 54, 55, 56, 57]⟩ : ByteArray).extract ((ji15) : Int).toNat ((wrap64 ((ji15) + 1)) : Int).toNat)).size + ((⟨#[48, 49, 50, 51, 52, 53, 54, 55, 56, 57]⟩ : ByteArray).extract ((ji20) : Int).toNat ((wrap64 ((ji20) + 1)) : Int).toNat).size ≤ 9223372036854775807
                                  · rw [if_pos c24] at H
                                    have c24b0 := eq_true c24
                                    have c24b1 : decide (((⟨#[110]⟩ : ByteArray) ++ ((⟨#[48, 49, 50, 51, 52, 53, 54, 55, 56, 57]⟩ : ByteArray).extract ((ji15) : Int).toNat ((wrap64 ((ji15) + 1)) : Int).toNat)).size + ((⟨#[48, 49, 50, 51, 52, 53, 54, 55, 56, 57]⟩ : ByteArray).extract ((ji20) : Int).toNat ((wrap64 ((ji20) + 1)) : Int).toNat).size ≤ 9223372036854775807) = true := decide_eq_true c24
                                    try have c24b2 : (9223372036854775807 < ((⟨#[110]⟩ : ByteArray) ++ ((⟨#[48, 49, 50, 51, 52, 53, 54, 55, 56, 57]⟩ : ByteArray).extract ((ji15) : Int).toNat ((wrap64 ((ji15) + 1)) : Int).toNat)).size + ((⟨#[48, 49, 50, 51, 52, 53, 54, 55, 56, 57]⟩ : ByteArray).extract ((ji20) : Int).toNat ((wrap64 ((ji20) + 1)) : Int).toNat).size) = False := eq_false (Nat.not_lt.2 c24)
                                    by_cases c25 : x8_2.length < 5864062014805
                                    · rw [if_pos c25] at H
                                      have LMc25 := Aside0.mk c25
                                      clear c25
                                      obtain ⟨y117, hy117⟩ : ∃ y_ : List (S28), y_ = (x8_2 ++ [(⟨rd l0 x9_2, ((⟨#[110]⟩ : ByteArray) ++ ((⟨#[48, 49, 50, 51, 52, 53, 54, 55, 56, 57]⟩ : ByteArray).extract ((ji15) : Int).toNat ((wrap64 ((ji15) + 1)) : Int).toNat)) ++ ((⟨#[48, 49, 50, 51, 52, 53, 54, 55, 56, 57]⟩ : ByteArray).extract ((ji20) : Int).toNat ((wrap64 ((ji20) + 1)) : Int).toNat)⟩ : S28)]) := ⟨_, rfl⟩
                                      replace H : (lockgatelaw6_EntrySpoilt.l0 k2 l0 a1 a2 y117 (wrap64 (x9_2 + 1))) = some r := by first | (rw [hy117]; with_reducible exact H) | (have H2_ := (Option.bind_some _ _).symm.trans H; rw [hy117]; with_reducible exact H2_) | (have H2_ := (Option.bind_some _ _).symm.trans H; with_reducible exact H2_) | with_reducible exact H | (rw [hy117]; exact H) | exact H
                                      have Ny117 := Aside0.mk hy117
                                      clear hy117
                                      have H' := Aside0.mk H
                                      clear H
                                      have p114 : 0 ≤ (x9_2 : Int) := of_decide_eq_true (by first | (with_reducible assumption) | assumption)
                                      have q114 : x9_2 < (l0.length : Int) := of_decide_eq_true (by first | (with_reducible assumption) | assumption)
                                      obtain ⟨ad114, e114, hx114_0⟩ := Kd.at_int HR0.out x9_2 p114 q114
                                      cases e114
                                      replace hx114_0 := (HB.out.cell (World.block_lt_of_cell? w _ hx114_0)).trans hx114_0
                                      replace p114 := eq_true p114
                                      replace q114 := eq_true q114
                                      have p115 : 0 ≤ (x9_2 : Int) := of_decide_eq_true (by first | (with_reducible assumption) | assumption)
                                      have q115 : x9_2 < (l0.length : Int) := of_decide_eq_true (by first | (with_reducible assumption) | assumption)
                                      obtain ⟨ad115, e115, hx115_0⟩ := Kd.at_int HR0.out x9_2 p115 q115
                                      obtain rfl : ad114 = ad115 := (by injection e115)
                                      replace hx115_0 := (HB.out.cell (World.block_lt_of_cell? w _ hx115_0)).trans hx115_0
                                      replace p115 := eq_true p115
                                      replace q115 := eq_true q115
                                      try go_wp2
                                      have n0_ := Aside0.mk (Kd.R_drew HO_8.out)
                                      have n1_ := Aside0.mk (below_drew1 HB.out)
                                      clear HO_8
                                      clear HB
                                      have HO_8 := n0_
                                      have HB := n1_
                                      clear n0_ n1_
                                      have p116 : 0 ≤ (x9_2 : Int) := of_decide_eq_true (by first | (with_reducible assumption) | assumption)
                                      have q116 : x9_2 < (l0.length : Int) := of_decide_eq_true (by first | (with_reducible assumption) | assumption)
                                      obtain ⟨ad116, e116, hx116_0⟩ := Kd.at_int HR0.out x9_2 p116 q116
                                      have hw116_0 := hx116_0
                                      obtain rfl : ad114 = ad116 := (by injection e116)
                                      replace hx116_0 := (HB.out.cell (World.block_lt_of_cell? w _ hx116_0)).trans hx116_0
                                      replace p116 := eq_true p116
                                      replace q116 := eq_true q116
                                      refine start_ (n := 23) (S := fun w' => w'.cell? (ad114.add (x9_2).toNat) = some (.int .i64 (rd l0 x9_2))) (ds := []) #[false, false, false, false, false, false, false, false, false, false, false, false, false, false, false, false, false, false, false, false, false, false, false] (by kernel_rfl) rfl rfl (((HB.out.cell (World.block_lt_of_cell? w _ hw116_0)).trans hw116_0)) (fun hHeld => ?_); refine with_tabW lockgatelaw6_EntrySpoilt.tab10 lockgatelaw6_EntrySpoilt.bits10 (fun HT_ HW_ => ?_)
                                      generalize wr.drew = w26 at HO_8 HB hx116_0 hHeld ⊢
                                      refine pure_ (i := 0) (N := some 51) (v := ?_) (a' := ?_) #[true, false, false, false, false, false, false, false, false, false, false, false, false, false, false, false, false, false, false, false, false, false, false] rfl rfl (any_of HT_.out (by kernel_rfl)) (fun _ _ _ h => h) (Or.inl ⟨by rfl, ?_⟩) ?_ ?_
                                      rotate_left
                                      · intro w'
                                        go_simp
                                        first | (with_reducible rfl) | (rw [if_neg (by omega)]; done) | (rw [if_neg (by omega)]; with_reducible rfl)
                                      rotate_left
                                      · simp only [Act.put, List.setIfInBounds_toArray, List.set_cons_zero, List.set_cons_succ, i64_w, i32_w]
                                        rfl
                                      refine pure_ (i := 1) (N := some 52) (v := ?_) (a' := ?_) #[true, true, false, false, false, false, false, false, false, false, false, false, false, false, false, false, false, false, false, false, false, false, false] rfl rfl (any_of HT_.out (by kernel_rfl)) (fun _ _ _ h => h) (Or.inl ⟨by rfl, ?_⟩) ?_ ?_
                                      rotate_left
                                      · intro w'
                                        go_simp
                                        first | (with_reducible rfl) | (rw [if_neg (by omega)]; done) | (rw [if_neg (by omega)]; with_reducible rfl)
                                      rotate_left
                                      · simp only [Act.put, List.setIfInBounds_toArray, List.set_cons_zero, List.set_cons_succ, i64_w, i32_w]
                                        rfl
                                      refine pure_ (i := 2) (N := some 53) (v := ?_) (a' := ?_) #[true, true, true, false, false, false, false, false, false, false, false, false, false, false, false, false, false, false, false, false, false, false, false] rfl rfl (any_of HT_.out (by kernel_rfl)) (fun _ _ _ h => h) (Or.inl ⟨by rfl, ?_⟩) ?_ ?_
                                      rotate_left
                                      · intro w'
                                        go_simp
                                        first | (with_reducible rfl) | (rw [if_neg (by omega)]; done) | (rw [if_neg (by omega)]; with_reducible rfl)
                                      rotate_left
                                      · simp only [Act.put, List.setIfInBounds_toArray, List.set_cons_zero, List.set_cons_succ, i64_w, i32_w]
                                        rfl
                                      refine pure_ (i := 3) (N := some 54) (v := ?_) (a' := ?_) #[true, true, true, true, false, false, false, false, false, false, false, false, false, false, false, false, false, false, false, false, false, false, false] rfl rfl (any_of HT_.out (by kernel_rfl)) (fun _ _ _ h => h) (Or.inl ⟨by rfl, ?_⟩) ?_ ?_
                                      rotate_left
                                      · intro w'
                                        go_simp
                                        first | (with_reducible rfl) | (rw [if_neg (by omega)]; done) | (rw [if_neg (by omega)]; with_reducible rfl)
                                      rotate_left
                                      · simp only [Act.put, List.setIfInBounds_toArray, List.set_cons_zero, List.set_cons_succ, i64_w, i32_w]
                                        rfl
                                      refine pure_ (i := 5) (N := some 56) (v := ?_) (a' := ?_) #[true, true, true, true, false, true, false, false, false, false, false, false, false, false, false, false, false, false, false, false, false, false, false] rfl rfl (any_of HT_.out (by kernel_rfl)) (fun _ _ _ h => h) (Or.inl ⟨by rfl, ?_⟩) ?_ ?_
                                      rotate_left
                                      · intro w'
                                        go_simp
                                        first | (with_reducible rfl) | (rw [if_neg (by omega)]; done) | (rw [if_neg (by omega)]; with_reducible rfl)
                                      rotate_left
                                      · simp only [Act.put, List.setIfInBounds_toArray, List.set_cons_zero, List.set_cons_succ, i64_w, i32_w]
                                        rfl
                                      refine pure_ (i := 6) (N := some 57) (v := ?_) (a' := ?_) #[true, true, true, true, false, true, true, false, false, false, false, false, false, false, false, false, false, false, false, false, false, false, false] rfl rfl (any_of HT_.out (by kernel_rfl)) (fun _ _ _ h => h) (Or.inl ⟨by rfl, ?_⟩) ?_ ?_
                                      rotate_left
                                      · intro w'
                                        go_simp
                                        first | (with_reducible rfl) | (rw [if_neg (by omega)]; done) | (rw [if_neg (by omega)]; with_reducible rfl)
                                      rotate_left
                                      · simp only [Act.put, List.setIfInBounds_toArray, List.set_cons_zero, List.set_cons_succ, i64_w, i32_w]
                                        rfl
                                      refine pure_ (i := 7) (N := some 58) (v := ?_) (a' := ?_) #[true, true, true, true, false, true, true, true, false, false, false, false, false, false, false, false, false, false, false, false, false, false, false] rfl rfl (any_of HT_.out (by kernel_rfl)) (fun _ _ _ h => h) (Or.inl ⟨by rfl, ?_⟩) ?_ ?_
                                      rotate_left
                                      · intro w'
                                        go_simp
                                        first | (with_reducible rfl) | (rw [if_neg (by omega)]; done) | (rw [if_neg (by omega)]; with_reducible rfl)
                                      rotate_left
                                      · simp only [Act.put, List.setIfInBounds_toArray, List.set_cons_zero, List.set_cons_succ, i64_w, i32_w]
                                        rfl
                                      refine pure_ (i := 8) (N := some 59) (v := ?_) (a' := ?_) #[true, true, true, true, false, true, true, true, true, false, false, false, false, false, false, false, false, false, false, false, false, false, false] rfl rfl (any_of HT_.out (by kernel_rfl)) (fun _ _ _ h => h) (Or.inl ⟨by rfl, ?_⟩) ?_ ?_
                                      rotate_left
                                      · intro w'
                                        go_simp
                                        first | (with_reducible rfl) | (rw [if_neg (by omega)]; done) | (rw [if_neg (by omega)]; with_reducible rfl)
                                      rotate_left
                                      · simp only [Act.put, List.setIfInBounds_toArray, List.set_cons_zero, List.set_cons_succ, i64_w, i32_w]
                                        rfl
                                      refine pure_ (i := 9) (N := some 60) (v := ?_) (a' := ?_) #[true, true, true, true, false, true, true, true, true, true, false, false, false, false, false, false, false, false, false, false, false, false, false] rfl rfl (any_of HT_.out (by kernel_rfl)) (fun _ _ _ h => h) (Or.inl ⟨by rfl, ?_⟩) ?_ ?_
                                      rotate_left
                                      · intro w'
                                        go_simp
                                        first | (with_reducible rfl) | (rw [if_neg (by omega)]; done) | (rw [if_neg (by omega)]; with_reducible rfl)
                                      rotate_left
                                      · simp only [Act.put, List.setIfInBounds_toArray, List.set_cons_zero, List.set_cons_succ, i64_w, i32_w]
                                        rfl
                                      refine pure_ (i := 10) (N := some 61) (v := ?_) (a' := ?_) #[true, true, true, true, false, true, true, true, true, true, true, false, false, false, false, false, false, false, false, false, false, false, false] rfl rfl (any_of HT_.out (by kernel_rfl)) (fun _ _ _ h => h) (Or.inl ⟨by rfl, ?_⟩) ?_ ?_
                                      rotate_left
                                      · intro w'
                                        go_simp
                                        first | (with_reducible rfl) | (rw [if_neg (by omega)]; done) | (rw [if_neg (by omega)]; with_reducible rfl)
                                      rotate_left
                                      · simp only [Act.put, List.setIfInBounds_toArray, List.set_cons_zero, List.set_cons_succ, i64_w, i32_w]
                                        rfl
                                      refine pure_ (i := 11) (N := some 62) (v := ?_) (a' := ?_) #[true, true, true, true, false, true, true, true, true, true, true, true, false, false, false, false, false, false, false, false, false, false, false] rfl rfl (any_of HT_.out (by kernel_rfl)) (fun _ _ _ h => h) (Or.inl ⟨by rfl, ?_⟩) ?_ ?_
                                      rotate_left
                                      · intro w'
                                        go_simp
                                        first | (with_reducible rfl) | (rw [if_neg (by omega)]; done) | (rw [if_neg (by omega)]; with_reducible rfl)
                                      rotate_left
                                      · simp only [Act.put, List.setIfInBounds_toArray, List.set_cons_zero, List.set_cons_succ, i64_w, i32_w]
                                        rfl
                                      refine pure_ (i := 12) (N := some 63) (v := ?_) (a' := ?_) #[true, true, true, true, false, true, true, true, true, true, true, true, true, false, false, false, false, false, false, false, false, false, false] rfl rfl (any_of HT_.out (by kernel_rfl)) (fun _ _ _ h => h) (Or.inl ⟨by rfl, ?_⟩) ?_ ?_
                                      rotate_left
                                      · intro w'
                                        go_simp
                                        first | (with_reducible rfl) | (rw [if_neg (by omega)]; done) | (rw [if_neg (by omega)]; with_reducible rfl)
                                      rotate_left
                                      · simp only [Act.put, List.setIfInBounds_toArray, List.set_cons_zero, List.set_cons_succ, i64_w, i32_w]
                                        rfl
                                      refine pure_ (i := 13) (N := some 64) (v := ?_) (a' := ?_) #[true, true, true, true, false, true, true, true, true, true, true, true, true, true, false, false, false, false, false, false, false, false, false] rfl rfl (any_of HT_.out (by kernel_rfl)) (fun _ _ _ h => h) (Or.inl ⟨by rfl, ?_⟩) ?_ ?_
                                      rotate_left
                                      · intro w'
                                        go_simp
                                        first | (with_reducible rfl) | (rw [if_neg (by omega)]; done) | (rw [if_neg (by omega)]; with_reducible rfl)
                                      rotate_left
                                      · simp only [Act.put, List.setIfInBounds_toArray, List.set_cons_zero, List.set_cons_succ, i64_w, i32_w]
                                        rfl
                                      refine pure_ (i := 14) (N := some 65) (v := ?_) (a' := ?_) #[true, true, true, true, false, true, true, true, true, true, true, true, true, true, true, false, false, false, false, false, false, false, false] rfl rfl (any_of HT_.out (by kernel_rfl)) (fun _ _ _ h => h) (Or.inl ⟨by rfl, ?_⟩) ?_ ?_
                                      rotate_left
                                      · intro w'
                                        go_simp
                                        first | (with_reducible rfl) | (rw [if_neg (by omega)]; done) | (rw [if_neg (by omega)]; with_reducible rfl)
                                      rotate_left
                                      · simp only [Act.put, List.setIfInBounds_toArray, List.set_cons_zero, List.set_cons_succ, i64_w, i32_w]
                                        rfl
                                      refine pure_ (i := 15) (N := some 66) (v := ?_) (a' := ?_) #[true, true, true, true, false, true, true, true, true, true, true, true, true, true, true, true, false, false, false, false, false, false, false] rfl rfl (any_of HT_.out (by kernel_rfl)) (fun _ _ _ h => h) (Or.inl ⟨by rfl, ?_⟩) ?_ ?_
                                      rotate_left
                                      · intro w'
                                        go_simp
                                        first | (with_reducible rfl) | (rw [if_neg (by omega)]; done) | (rw [if_neg (by omega)]; with_reducible rfl)
                                      rotate_left
                                      · simp only [Act.put, List.setIfInBounds_toArray, List.set_cons_zero, List.set_cons_succ, i64_w, i32_w]
                                        rfl
                                      refine pure_ (i := 16) (N := some 67) (v := ?_) (a' := ?_) #[true, true, true, true, false, true, true, true, true, true, true, true, true, true, true, true, true, false, false, false, false, false, false] rfl rfl (any_of HT_.out (by kernel_rfl)) (fun _ _ _ h => h) (Or.inl ⟨by rfl, ?_⟩) ?_ ?_
                                      rotate_left
                                      · intro w'
                                        go_simp
                                        first | (with_reducible rfl) | (rw [if_neg (by omega)]; done) | (rw [if_neg (by omega)]; with_reducible rfl)
                                      rotate_left
                                      · simp only [Act.put, List.setIfInBounds_toArray, List.set_cons_zero, List.set_cons_succ, i64_w, i32_w]
                                        rfl
                                      refine pure_ (i := 17) (N := some 68) (v := ?_) (a' := ?_) #[true, true, true, true, false, true, true, true, true, true, true, true, true, true, true, true, true, true, false, false, false, false, false] rfl rfl (any_of HT_.out (by kernel_rfl)) (fun _ _ _ h => h) (Or.inl ⟨by rfl, ?_⟩) ?_ ?_
                                      rotate_left
                                      · intro w'
                                        go_simp
                                        first | (with_reducible rfl) | (rw [if_neg (by omega)]; done) | (rw [if_neg (by omega)]; with_reducible rfl)
                                      rotate_left
                                      · simp only [Act.put, List.setIfInBounds_toArray, List.set_cons_zero, List.set_cons_succ, i64_w, i32_w]
                                        rfl
                                      refine pure_ (i := 18) (N := some 69) (v := ?_) (a' := ?_) #[true, true, true, true, false, true, true, true, true, true, true, true, true, true, true, true, true, true, true, false, false, false, false] rfl rfl (any_of HT_.out (by kernel_rfl)) (fun _ _ _ h => h) (Or.inl ⟨by rfl, ?_⟩) ?_ ?_
                                      rotate_left
                                      · intro w'
                                        go_simp
                                        first | (with_reducible rfl) | (rw [if_neg (by omega)]; done) | (rw [if_neg (by omega)]; with_reducible rfl)
                                      rotate_left
                                      · simp only [Act.put, List.setIfInBounds_toArray, List.set_cons_zero, List.set_cons_succ, i64_w, i32_w]
                                        rfl
                                      refine take_ (i := 4) (N := some 55) (v := ?_) (a' := ?_) #[true, true, true, true, true, true, true, true, true, true, true, true, true, true, true, true, true, true, true, false, false, false, false] rfl rfl (take_ofW HT_.out HW_.out (by kernel_rfl)) (fun _ _ _ h => h) (Or.inl ⟨by rfl, ?_⟩) hHeld ?_ ?_
                                      rotate_left
                                      · intro w' s0
                                        go_simp
                                        first | (with_reducible rfl) | (rw [if_neg (by omega)]; done) | (rw [if_neg (by omega)]; with_reducible rfl)
                                      rotate_left
                                      · simp only [Act.put, List.setIfInBounds_toArray, List.set_cons_zero, List.set_cons_succ, i64_w, i32_w]
                                        rfl
                                      refine pure_ (i := 19) (N := some 70) (v := ?_) (a' := ?_) #[true, true, true, true, true, true, true, true, true, true, true, true, true, true, true, true, true, true, true, true, false, false, false] rfl rfl (any_of HT_.out (by kernel_rfl)) (fun _ _ _ h => h) (Or.inl ⟨by rfl, ?_⟩) ?_ ?_
                                      rotate_left
                                      · intro w'
                                        go_simp
                                        first | (with_reducible rfl) | (rw [if_neg (by omega)]; done) | (rw [if_neg (by omega)]; with_reducible rfl)
                                      rotate_left
                                      · simp only [Act.put, List.setIfInBounds_toArray, List.set_cons_zero, List.set_cons_succ, i64_w, i32_w]
                                        rfl
                                      refine one_ (i := 20) (N := some 71) #[true, true, true, true, true, true, true, true, true, true, true, true, true, true, true, true, true, true, true, true, true, false, false] rfl rfl (one_of HT_.out (by kernel_rfl)) (by decide) (fun K hK => ?_)
                                      refine value_ (w1 := ?_) (v := ?_) (by rfl) rfl ?_ ?_
                                      rotate_left 2
                                      · go_simp
                                        constructor
                                        · rfl
                                        · rfl
                                      refine hK.out _ _ ((World.cell?_alloc_lt _ _ _ (World.block_lt_of_cell? _ _ (((HB.out.cell (World.block_lt_of_cell? w _ hw116_0)).trans hw116_0)))).trans (((HB.out.cell (World.block_lt_of_cell? w _ hw116_0)).trans hw116_0))) (fun hHeld => ?_)
                                      clear hK K
                                      refine norm_ (a' := ?_) ?_ ?_
                                      rotate_left
                                      · show Act.put _ (some 71) _ = _
                                        simp only [Act.put, List.setIfInBounds_toArray, List.set_cons_zero, List.set_cons_succ, i64_w, i32_w]
                                        rfl
                                      refine one_ (i := 21) (N := some 72) #[true, true, true, true, true, true, true, true, true, true, true, true, true, true, true, true, true, true, true, true, true, true, false] rfl rfl (one_of HT_.out (by kernel_rfl)) (by decide) (fun K hK => ?_)
                                      refine Kd.R_append_step k28 (w0 := w) w.heap.size (by rfl) (.tmp 51) (.tmp 71) 41 28 (.agg #[(.int .i64 0), (.string ⟨#[]⟩)]) 24 rfl Try.underlying41 info28 rfl (by decide) (by omega) u8 x8_2 (⟨rd l0 x9_2, ((⟨#[110]⟩ : ByteArray) ++ ((⟨#[48, 49, 50, 51, 52, 53, 54, 55, 56, 57]⟩ : ByteArray).extract ((ji15) : Int).toNat ((wrap64 ((ji15) + 1)) : Int).toNat)) ++ ((⟨#[48, 49, 50, 51, 52, 53, 54, 55, 56, 57]⟩ : ByteArray).extract ((ji20) : Int).toNat ((wrap64 ((ji20) + 1)) : Int).toNat)⟩ : S28) [.int .i64 (rd l0 x9_2), .string (((⟨#[110]⟩ : ByteArray) ++ ((⟨#[48, 49, 50, 51, 52, 53, 54, 55, 56, 57]⟩ : ByteArray).extract ((ji15) : Int).toNat ((wrap64 ((ji15) + 1)) : Int).toNat)) ++ ((⟨#[48, 49, 50, 51, 52, 53, 54, 55, 56, 57]⟩ : ByteArray).extract ((ji20) : Int).toNat ((wrap64 ((ji20) + 1)) : Int).toNat))] (fun _ => True) (fun _ => False) rfl rfl ?aP (fun _ hk => hk.elim) ?aF ?aO ?aB ?aS ?aL ?_
                                      (case aP => exact k28_mkM _ _ _ (⟨rd l0 x9_2, ((⟨#[110]⟩ : ByteArray) ++ ((⟨#[48, 49, 50, 51, 52, 53, 54, 55, 56, 57]⟩ : ByteArray).extract ((ji15) : Int).toNat ((wrap64 ((ji15) + 1)) : Int).toNat)) ++ ((⟨#[48, 49, 50, 51, 52, 53, 54, 55, 56, 57]⟩ : ByteArray).extract ((ji20) : Int).toNat ((wrap64 ((ji20) + 1)) : Int).toNat)⟩ : S28))
                                      (case aB => exact (by repeat (first | (with_reducible first | exact HB.out | apply below_alloc | apply pw_below_drewN | apply below_drew1) | exact HB.out)))
                                      (case aF => exact (fun _ _ => trivial))
                                      (case aO => exact (by (with_reducible repeat (first | apply Kd.R_alloc | apply Kd.R_drewN | apply Kd.R_drew)); exact HO_8.out))
                                      (case aS => exact (below_size (by repeat (first | (with_reducible first | exact HB.out | apply below_alloc | apply pw_below_drewN | apply below_drew1) | exact HB.out))))
                                      (case aL => have := LMc25.out; omega)
                                      intro v118 w27 ho hb hg hat
                                      rw [← Ny117.out] at ho
                                      have n0_ := Aside0.mk (hb)
                                      have n1_ := Aside0.mk (ho)
                                      clear HB
                                      clear HO_8
                                      have HB := n0_
                                      have HO119 := n1_
                                      clear n0_ n1_
                                      clear ho hb hg hat
                                      refine hK.out _ _ (((HB.out.cell (World.block_lt_of_cell? w _ hw116_0)).trans hw116_0)) (fun hHeld => ?_)
                                      clear hK K
                                      refine norm_ (a' := ?_) ?_ ?_
                                      rotate_left
                                      · show Act.put _ (some 72) _ = _
                                        simp only [Act.put, List.setIfInBounds_toArray, List.set_cons_zero, List.set_cons_succ, i64_w, i32_w]
                                        rfl
                                      refine pure_ (i := 22) (N := some 8) (v := ?_) (a' := ?_) #[true, true, true, true, true, true, true, true, true, true, true, true, true, true, true, true, true, true, true, true, true, true, true] rfl rfl (any_of HT_.out (by kernel_rfl)) (fun _ _ _ h => h) (Or.inl ⟨by rfl, ?_⟩) ?_ ?_
                                      rotate_left
                                      · intro w'
                                        go_simp
                                        first | (with_reducible rfl) | (rw [if_neg (by omega)]; done) | (rw [if_neg (by omega)]; with_reducible rfl)
                                      rotate_left
                                      · simp only [Act.put, List.setIfInBounds_toArray, List.set_cons_zero, List.set_cons_succ, i64_w, i32_w]
                                        rfl
                                      refine done_ (done_of HT_.out (by kernel_rfl)) ?_
                                      try go_wp2
                                      go_roundg k2
                                      case measure => have := HJ4.out; have := HK2.out; omega
                                      case rel => exact ⟨(y117), (wrap64 (x9_2 + 1)), (by first | rfl | (simp; done) | (simp [*]; done)), H', ⟨by have := HJ4.out; have := HK2.out; omega⟩, ⟨by (with_reducible repeat (first | apply Kd.R_alloc | apply Kd.R_drewN | apply Kd.R_drew)); exact HO119.out⟩, ⟨by repeat (first | (with_reducible first | exact HB.out | apply below_alloc | apply pw_below_drewN | apply below_drew1) | exact HB.out)⟩⟩
                                    · rw [if_neg c25] at H
                                      exact absurd H (by simp)
                                  · rw [if_neg c24] at H
                                    exact absurd H (by simp)
                                · rw [if_neg c23] at H
                                  exact absurd H (by simp)
                              · rw [if_neg c22] at H
                                exact absurd H (by simp)
                            · rw [if_neg c21] at H
                              exact absurd H (by simp)
                          · rw [if_neg c19] at H
                            exact absurd H (by simp)
                        · rw [if_neg c18] at H
                          exact absurd H (by simp)
                      · rw [if_neg c17] at H
                        exact absurd H (by simp)
                    · rw [if_neg c16] at H
                      exact absurd H (by simp)
              · rw [if_neg c12] at H
                exact absurd H (by simp)
            · rw [if_neg c11] at H
              have c11b0 : decide (x9_2 < (l0.length : Int)) = false := decide_eq_false c11
              clear c11
              replace H := Option.bind_eq_some_iff.mp H
              obtain ⟨⟨t120, t121⟩, A280, H⟩ := H
              replace H : ((lockgatelaw6_num.f t121).bind fun t124 => (if t124 = 0 then (if 0 ≤ (wrap64 ((wrap64 ((wrap64 ((wrap64 (Int.tdiv a1 32)) * 32)) + 9)) + (Int.tmod a1 23))) then (if (wrap64 ((wrap64 ((wrap64 ((wrap64 (Int.tdiv a1 32)) * 32)) + 9)) + (Int.tmod a1 23))) < (t120.length : Int) then ((entry_Block.f (t120.set ((wrap64 ((wrap64 ((wrap64 ((wrap64 (Int.tdiv a1 32)) * 32)) + 9)) + (Int.tmod a1 23))) : Int).toNat (Go.bits .xor .u8 (rd t120 (wrap64 ((wrap64 ((wrap64 ((wrap64 (Int.tdiv a1 32)) * 32)) + 9)) + (Int.tmod a1 23)))) a2))).bind fun t127 => (if (t127.length : Int) = 32 then (lockgatelaw6_EntrySpoilt.l1 k2 a1 a2 x8_2 t127 0) else (some false))) else (none)) else (none)) else (some false))) = some r := H
              have A28 := Aside0.mk A280
              clear A280
              replace H := Option.bind_eq_some_iff.mp H
              obtain ⟨t124, A290, H⟩ := H
              replace H : (if t124 = 0 then (if 0 ≤ (wrap64 ((wrap64 ((wrap64 ((wrap64 (Int.tdiv a1 32)) * 32)) + 9)) + (Int.tmod a1 23))) then (if (wrap64 ((wrap64 ((wrap64 ((wrap64 (Int.tdiv a1 32)) * 32)) + 9)) + (Int.tmod a1 23))) < (t120.length : Int) then ((entry_Block.f (t120.set ((wrap64 ((wrap64 ((wrap64 ((wrap64 (Int.tdiv a1 32)) * 32)) + 9)) + (Int.tmod a1 23))) : Int).toNat (Go.bits .xor .u8 (rd t120 (wrap64 ((wrap64 ((wrap64 ((wrap64 (Int.tdiv a1 32)) * 32)) + 9)) + (Int.tmod a1 23)))) a2))).bind fun t127 => (if (t127.length : Int) = 32 then (lockgatelaw6_EntrySpoilt.l1 k2 a1 a2 x8_2 t127 0) else (some false))) else (none)) else (none)) else (some false)) = some r := H
              have A29 := Aside0.mk A290
              clear A290
              by_cases c30 : t124 = 0
              · rw [if_pos c30] at H
                have c30b0 : (t124 == 0) = true := beq_iff_eq.mpr c30
                have c30b1 : (t124 != 0) = false := bne_eq_false_iff_eq.mpr c30
                clear c30
                obtain ⟨ji31, hji31⟩ : ∃ j_ : Int, (wrap64 ((wrap64 ((wrap64 ((wrap64 (Int.tdiv a1 32)) * 32)) + 9)) + (Int.tmod a1 23))) = j_ := ⟨_, rfl⟩
                replace H : (if 0 ≤ (ji31) then (if (ji31) < (t120.length : Int) then ((entry_Block.f (t120.set ((ji31) : Int).toNat (Go.bits .xor .u8 (rd t120 (ji31)) a2))).bind fun t127 => (if (t127.length : Int) = 32 then (lockgatelaw6_EntrySpoilt.l1 k2 a1 a2 x8_2 t127 0) else (some false))) else (none)) else (none)) = some r := by first | (rw [hji31] at H; exact H) | (simp only [hji31] at H ⊢; exact H)
                (try rw [hji31] at A28)
                (try rw [hji31] at A29)
                have hji31w : (IntKind.i64.wrap ((wrap64 ((wrap64 ((wrap64 (Int.tdiv a1 32)) * 32)) + 9)) + (Int.tmod a1 23))) = ji31 := (i64_w _).trans hji31
                by_cases c32 : 0 ≤ (ji31)
                · rw [if_pos c32] at H
                  have c32b0 : decide (0 ≤ (ji31)) = true := decide_eq_true c32
                  clear c32
                  by_cases c33 : (ji31) < (t120.length : Int)
                  · rw [if_pos c33] at H
                    have c33b0 : decide ((ji31) < (t120.length : Int)) = true := decide_eq_true c33
                    clear c33
                    obtain ⟨y126, hy126⟩ : ∃ y_ : List Int, y_ = (t120.set ((ji31) : Int).toNat (Go.bits .xor .u8 (rd t120 (ji31)) a2)) := ⟨_, rfl⟩
                    replace H : ((entry_Block.f y126).bind fun t127 => (if (t127.length : Int) = 32 then (lockgatelaw6_EntrySpoilt.l1 k2 a1 a2 x8_2 t127 0) else (some false))) = some r := by first | (rw [hy126]; with_reducible exact H) | (have H2_ := (Option.bind_some _ _).symm.trans H; rw [hy126]; with_reducible exact H2_) | (have H2_ := (Option.bind_some _ _).symm.trans H; with_reducible exact H2_) | with_reducible exact H | (rw [hy126]; exact H) | exact H
                    have Ny126 := Aside0.mk hy126
                    clear hy126
                    replace H := Option.bind_eq_some_iff.mp H
                    obtain ⟨t127, A350, H⟩ := H
                    replace H : (if (t127.length : Int) = 32 then (lockgatelaw6_EntrySpoilt.l1 k2 a1 a2 x8_2 t127 0) else (some false)) = some r := H
                    have A35 := Aside0.mk A350
                    clear A350
                    by_cases c36 : (t127.length : Int) = 32
                    · rw [if_pos c36] at H
                      have c36b0 : ((t127.length : Int) == 32) = true := beq_iff_eq.mpr c36
                      have c36b1 : ((t127.length : Int) != 32) = false := bne_eq_false_iff_eq.mpr c36
                      clear c36
                      have H' := Aside0.mk H
                      clear H
                      obtain ⟨Ao37, co37, eo37⟩ := Kd.R_slice HO_8.out
                      subst eo37
                      go_wp2_with (first | ((with_reducible refine gate_callee (f := 16) rfl ?_); refine goesL_ (some 75) rfl rfl Try.func16 (by kernel_rfl) rfl #[.slice Ao37 x8_2.length co37] rfl (by (try simp only [List.map_toArray, List.map_cons, List.map_nil]); first | done | rfl | (simp only [List.length_drop, List.length_take]; rfl)) ?_; (with_reducible refine (entry_PackBlock.calls k2 _ _ x8_2 t120 t121 _ ?side1 ?side2 A28.out).mono ?_); (case side1 => repeat (first | exact (Kd.R_reads' HO_8.out).2.2 | (with_reducible refine Kd.C_alloc ?_ _) | (with_reducible refine Kd.C_drewN ?_ _) | (with_reducible refine Kd.C_drew ?_))); (case side2 => exact (Kd.R_reads' HO_8.out).2.1); rintro e w38 ⟨v122, rfl, ho0, hb⟩; refine ⟨_, rfl, ?_⟩; have n0_ := Aside0.mk (Kd.R_below (by (with_reducible repeat (first | apply Kd.R_alloc | apply Kd.R_drewN | apply Kd.R_drew)); exact HO_8.out) hb); have n1_ := Aside0.mk (Kd.R_lower ho0 (below_size (by repeat (first | (with_reducible first | exact HB.out | apply below_alloc | apply pw_below_drewN | apply below_drew1) | exact HB.out)))); have n2_ := Aside0.mk (below_step (by repeat (first | (with_reducible first | exact HB.out | apply below_alloc | apply pw_below_drewN | apply below_drew1) | exact HB.out)) hb); clear HO_8; clear HB; have HO_8 := n0_; have HO123 := n1_; have HB := n2_; clear n0_ n1_ n2_; (try clear hb); (try clear hb2); (try clear hk); (try clear hi); (try clear ho0)) | ((with_reducible refine gate_callee (f := 11) rfl ?_); refine goesL_ (some 79) rfl rfl Try.func11 (by kernel_rfl) rfl #[.int .i64 t121] rfl (by (try simp only [List.map_toArray, List.map_cons, List.map_nil]); first | done | rfl | (simp only [List.length_drop, List.length_take]; rfl)) ?_; (with_reducible refine (lockgatelaw6_num.calls t121 t124 _ A29.out).mono ?_); rintro e w' ⟨rfl, ⟨nd, rfl⟩⟩; refine ⟨_, rfl, ?_⟩; (try (rw [drewN_self w38]; generalize hq_ : World.drewN w38 _ = w38; have n0_ : Aside0 (Kd.R (Kd.int .u8) 5 w38 w.heap.size (fun _ => True) v122 t120) := ⟨by rw [← hq_]; exact (by (with_reducible repeat (first | apply Kd.R_alloc | apply Kd.R_drewN | apply Kd.R_drew)); exact HO123.out)⟩; have n1_ : Aside0 (Kd.R k28 28 w38 w.heap.size (fun _ => True) (.slice Ao37 x8_2.length co37) x8_2) := ⟨by rw [← hq_]; exact (by (with_reducible repeat (first | apply Kd.R_alloc | apply Kd.R_drewN | apply Kd.R_drew)); exact HO_8.out)⟩; have n2_ : Aside0 (Below w.heap.size w w38) := ⟨by rw [← hq_]; exact (by repeat (first | (with_reducible first | exact HB.out | apply below_alloc | apply pw_below_drewN | apply below_drew1) | exact HB.out))⟩; clear HO123 HO_8 HB hq_; have HO123 := n0_; have HO_8 := n1_; have HB := n2_; clear n0_ n1_ n2_)); obtain ⟨Ao39, co39, eo39⟩ := Kd.R_slice HO123.out; subst eo39; have p125 : 0 ≤ ((ji31) : Int) := of_decide_eq_true (by first | (with_reducible assumption) | assumption); have q125 : (ji31) < (t120.length : Int) := of_decide_eq_true (by first | (with_reducible assumption) | assumption); obtain ⟨ad125, e125, hx125_0⟩ := Kd.at_int (Kd.R_reads' HO123.out).2.2 (ji31) p125 q125; cases e125; replace p125 := eq_true p125; replace q125 := eq_true q125; have p34 : 0 ≤ ((ji31) : Int) := of_decide_eq_true (by first | (with_reducible assumption) | assumption); have q34 : ((ji31) : Int) < ((t120.length : Int) : Int) := of_decide_eq_true (by first | (with_reducible assumption) | assumption); obtain ⟨go34, co34, eo34, gb34, gl34, cl34, HG34⟩ := Kd.R_form HO123.out (by omega); (first | cases eo34 | (injection eo34 with ea_ en_ ec_; (first | subst ea_ | (injection ea_ with ea_; subst ea_)); subst ec_; clear en_)); have GB34 := Aside0.mk gb34; have GG34 := Aside0.mk HG34; clear gb34 gl34 HG34; (first | simp only [add_plain] at hx125_0 | skip); obtain ⟨hx34_0, hf34_0⟩ := Kd.R_celln 0 HO123.out ((ji31) : Int) p34 q34; replace p34 := eq_true p34; replace q34 := eq_true q34; obtain ⟨hy40_, hz40_⟩ := Kd.R_celln 0 HO123.out ((ji31) : Int) (of_decide_eq_true (by first | (with_reducible assumption) | assumption)) (of_decide_eq_true (by first | (with_reducible assumption) | assumption)); have HP40 := Kd.R_putg HO123.out ((ji31) : Int) (Go.bits .xor .u8 (rd t120 (ji31)) a2)) | ((with_reducible refine gate_store (t := 5) (p := 96) rfl ?_); refine store_event (t := 5) (p := 96) (v := ?vo_w41) (w1 := (w38.setCell ⟨go34, ((ji31) : Int).toNat, none⟩ (.int .u8 (Go.bits .xor .u8 (rd t120 (ji31)) a2)))) ?hg ?ho ?hn ?hr ?_; (case ho => rfl); (case hg => rfl); (case hn => rfl); (case hr => first | (go_simp; done) | (go_simp; rfl)); intro w41 hw; have hg : w38.grownBy w41 (some go34) := (by rw [hw]; exact HP40.2); have hp_ : Kd.R (Kd.int .u8) 5 w41 w.heap.size (fun _ => True) (.slice (some ⟨go34, 0, none⟩) t120.length co39) y126 := (by rw [hw, Ny126.out]; exact HP40.1); clear HP40; have n0_ := Aside0.mk (Kd.R_over' (v := (.slice (some ⟨go34, 0, none⟩) t120.length co39)) (by (with_reducible repeat (first | apply Kd.R_alloc | apply Kd.R_drewN | apply Kd.R_drew)); exact HO_8.out) (Kd.R_typed HO123.out) (by decide) hg); have n1_ := Aside0.mk (hp_); have n2_ := Aside0.mk ((by rw [hw]; exact below_set (HB.out) GB34.out : Below w.heap.size w w41)); clear HO_8; clear HO123; clear HB; have HO_8 := n0_; have HO123 := n1_; have HB := n2_; clear n0_ n1_ n2_; clear hg hw hp_) | ((with_reducible refine gate_callee (f := 17) rfl ?_); refine goesL_ (some 98) rfl rfl Try.func17 (by kernel_rfl) rfl #[.slice (some ⟨go34, 0, none⟩) y126.length co39] rfl (by (try simp only [List.map_toArray, List.map_cons, List.map_nil]); first | done | (rw [show y126.length = t120.length from (Kd.R_reads' HO123.out).1.symm] <;> rfl) | rfl | (simp only [List.length_drop, List.length_take]; rfl)) ?_; (with_reducible refine (entry_Block.calls _ _ y126 t127 _ ?side1 ?side2 A35.out).mono ?_); (case side1 => repeat (first | exact (Kd.R_reads' HO123.out).2.2 | (with_reducible refine Kd.C_alloc ?_ _) | (with_reducible refine Kd.C_drewN ?_ _) | (with_reducible refine Kd.C_drew ?_))); (case side2 => rw [show y126.length = t120.length from (Kd.R_reads' HO123.out).1.symm]; exact (Kd.R_reads' HO123.out).2.1); rintro e w42 ⟨v128, rfl, ho0, hb⟩; refine ⟨_, rfl, ?_⟩; have n0_ := Aside0.mk (Kd.R_elder' (by (with_reducible repeat (first | apply Kd.R_alloc | apply Kd.R_drewN | apply Kd.R_drew)); exact HO_8.out) (Kd.R_base ho0) hb); have n1_ := Aside0.mk (Kd.R_below (by (with_reducible repeat (first | apply Kd.R_alloc | apply Kd.R_drewN | apply Kd.R_drew)); exact HO123.out) hb); have n2_ := Aside0.mk (Kd.R_lower (Kd.R_new' ho0 (Kd.R_lt (by (with_reducible repeat (first | apply Kd.R_alloc | apply Kd.R_drewN | apply Kd.R_drew)); exact HO_8.out))) (below_size (by repeat (first | (with_reducible first | exact HB.out | apply below_alloc | apply pw_below_drewN | apply below_drew1) | exact HB.out)))); have n3_ := Aside0.mk (below_step (by repeat (first | (with_reducible first | exact HB.out | apply below_alloc | apply pw_below_drewN | apply below_drew1) | exact HB.out)) hb); clear HO_8; clear HO123; clear HB; have HO_8 := n0_; have HO123 := n1_; have HO129 := n2_; have HB := n3_; clear n0_ n1_ n2_ n3_; (try clear hb); (try clear hb2); (try clear hk); (try clear hi); (try clear ho0); obtain ⟨Ao43, co43, eo43⟩ := Kd.R_slice HO129.out; subst eo43))
                      go_loopg [14] k2 (fun kq v14 w' => ∃ (x14_3 : Int), v14 = .int .i64 x14_3 ∧ Aside0 (lockgatelaw6_EntrySpoilt.l1 kq a1 a2 x8_2 t127 x14_3 = some r) ∧ Aside0 (kq ≤ k2) ∧ Aside0 (Kd.R k28 28 w' w.heap.size (fun k_ => some k_ ≠ ((.slice Ao43 t127.length co43) : Value).ownBlock) (.slice Ao37 x8_2.length co37) x8_2) ∧ Aside0 (Kd.R k28 28 w' w.heap.size (fun k_ => some k_ ≠ ((.slice Ao37 x8_2.length co37) : Value).ownBlock) (.slice Ao43 t127.length co43) t127) ∧ Aside0 (Below w.heap.size w w'))
                      case atStart => exact ⟨(0), (by first | rfl | (simp; done) | (simp [*]; done)), H', ⟨Nat.le_refl _⟩, ⟨by (with_reducible repeat (first | apply Kd.R_alloc | apply Kd.R_drewN | apply Kd.R_drew)); exact Kd.R_mono HO_8.out (fun _ hk => hk.2)⟩, ⟨by (with_reducible repeat (first | apply Kd.R_alloc | apply Kd.R_drewN | apply Kd.R_drew)); exact Kd.R_mono HO129.out (fun _ hk => hk.2)⟩, ⟨by repeat (first | (with_reducible first | exact HB.out | apply below_alloc | apply pw_below_drewN | apply below_drew1) | exact HB.out)⟩⟩
                      case round =>
                        clear H'
                        try clear c1
                        try clear p1
                        try clear q1
                        try clear hx1
                        try clear c2
                        try clear p2
                        try clear c3
                        try clear p3
                        try clear q3
                        try clear hx3
                        try clear hf3
                        try clear c6
                        try clear p6
                        try clear c7
                        try clear c8
                        try clear c8b0
                        try clear c8b1
                        try clear c9
                        try clear c9b0
                        try clear c10
                        try clear c11
                        try clear c11b0
                        try clear p11
                        try clear q11
                        try clear hx11
                        try clear c12
                        try clear c12b0
                        try clear p12
                        try clear q12
                        try clear hx12
                        try clear c13
                        try clear c13b0
                        try clear c14
                        try clear c14b0
                        try clear c16
                        try clear c16b0
                        try clear c16b1
                        try clear c17
                        try clear c17b0
                        try clear c17b1
                        try clear c18
                        try clear c18b0
                        try clear c18b1
                        try clear c19
                        try clear c19b0
                        try clear c19b1
                        try clear c19b2
                        try clear c21
                        try clear c21b0
                        try clear c21b1
                        try clear c22
                        try clear c22b0
                        try clear c22b1
                        try clear c23
                        try clear c23b0
                        try clear c23b1
                        try clear c24
                        try clear c24b0
                        try clear c24b1
                        try clear c24b2
                        try clear c25
                        try clear c30
                        try clear c30b0
                        try clear c30b1
                        try clear c32
                        try clear c32b0
                        try clear c33
                        try clear c33b0
                        try clear p34
                        try clear q34
                        try clear hx34
                        try clear hf34
                        try clear c36
                        try clear c36b0
                        try clear c36b1
                        try clear hx114_0
                        try clear hx115_0
                        try clear hx116_0
                        try clear hx125_0
                        try clear hx34_0
                        try clear p114
                        try clear p115
                        try clear p116
                        try clear p125
                        try clear p2
                        try clear p34
                        try clear q114
                        try clear q115
                        try clear q116
                        try clear q125
                        try clear q34
                        obtain ⟨x14_3, rfl, HA, HK3, HO_8, HO_13, HB⟩ := hrel
                        cases gk with
                        | zero => exact absurd HA.out (by simp [lockgatelaw6_EntrySpoilt.l1])
                        | succ k3 =>
                          have H := HA.out
                          clear HA
                          simp only [lockgatelaw6_EntrySpoilt.l1] at H
                          by_cases c44 : x14_3 < 32
                          · rw [if_pos c44] at H
                            have c44b0 : decide (x14_3 < 32) = true := decide_eq_true c44
                            clear c44
                            have HC45 := Aside0.mk H
                            clear H
                            go_upto_region 23 with (first | ((with_reducible refine gate_dst (N := 15) rfl ?_); (try (refine gate_guard (by rfl) ?_; dsimp only)); refine box_event ?hg (N := 15) ?hd (cs := #[.int .i64 0, .string (⟨#[]⟩ : ByteArray)]) (t := 28) ?hr ?_; (case hd => rfl); (case hg => rfl); (case hr => first | (go_simp; done) | (go_simp; rfl)); intro gb130 hg w46 hbox hb; have n0_ := Aside0.mk (Kd.R_below (Kd.R_elderB (by (with_reducible repeat (first | apply Kd.R_alloc | apply Kd.R_drewN | apply Kd.R_drew)); exact HO_8.out) gb130 (Nat.le_of_eq hg.symm)) hb); have n1_ := Aside0.mk (Kd.R_below (Kd.R_elderB (by (with_reducible repeat (first | apply Kd.R_alloc | apply Kd.R_drewN | apply Kd.R_drew)); exact HO_13.out) gb130 (Nat.le_of_eq hg.symm)) hb); have n2_ := Aside0.mk (below_step (by repeat (first | (with_reducible first | exact HB.out | apply below_alloc | apply pw_below_drewN | apply below_drew1) | exact HB.out)) hb); have n3_ := Aside0.mk (hbox); have n4_ := Aside0.mk ((by rw [hg]; exact (below_size (by repeat (first | (with_reducible first | exact HB.out | apply below_alloc | apply pw_below_drewN | apply below_drew1) | exact HB.out))) : w.heap.size ≤ gb130)); have n5_ := Aside0.mk ((by rw [hg]; exact (below_size (by repeat (first | (with_reducible first | exact HB.out | apply below_alloc | apply pw_below_drewN | apply below_drew1) | exact HB.out))) : w.heap.size ≤ gb130)); clear HO_8; clear HO_13; clear HB; have HO_8 := n0_; have HO_13 := n1_; have HB := n2_; have BK130 := n3_; have GW130 := n4_; have GE130 := n5_; clear n0_ n1_ n2_ n3_ n4_ n5_; clear hb hbox hg; have hcz47_0 : w46.cell? ⟨gb130, 0, none⟩ = some (.int .i64 0) := (blk_cell BK130.out 0).trans rfl; have hcz47_1 : w46.cell? ⟨gb130, 1, none⟩ = some (.string (⟨#[]⟩ : ByteArray)) := (blk_cell BK130.out 1).trans rfl; have hfz47_0 := blk_frozen BK130.out 0; have hfz47_1 := blk_frozen BK130.out 1))
                            (try simp only [Act.put, List.setIfInBounds_toArray, List.set_cons_zero, List.set_cons_succ])
                            go_cut [120] (fun v120 wc => ∃ (kq : Nat) (x120_44 : Bool), v120 = .bool x120_44 ∧ Aside0 (lockgatelaw6_EntrySpoilt.j3 kq a1 a2 x8_2 t127 x14_3 x120_44 0 (⟨#[]⟩ : ByteArray) = some r) ∧ Aside0 (kq ≤ k3) ∧ Aside0 (Kd.R k28 28 wc w.heap.size (fun k_ => some k_ ≠ ((.slice Ao43 t127.length co43) : Value).ownBlock ∧ k_ ≠ gb130) (.slice Ao37 x8_2.length co37) x8_2) ∧ Aside0 (Kd.R k28 28 wc w.heap.size (fun k_ => some k_ ≠ ((.slice Ao37 x8_2.length co37) : Value).ownBlock ∧ k_ ≠ gb130) (.slice Ao43 t127.length co43) t127) ∧ Aside0 (wc.heap[gb130]? = some (.cells #[.int .i64 0, .string (⟨#[]⟩ : ByteArray)] 28 (0, 0))) ∧ Aside0 (Below w.heap.size w wc))
                            case first =>
                              have H := HC45.out
                              clear HC45
                              by_cases c48 : x14_3 < (x8_2.length : Int)
                              · rw [if_pos c48] at H
                                have c48b0 : decide (x14_3 < (x8_2.length : Int)) = true := decide_eq_true c48
                                clear c48
                                (first | rw [c48b0] | (simp only [i64_w, i32_w]; rw [c48b0]) | skip)
                                by_cases c49 : x14_3 = (wrap64 (Int.tdiv a1 32))
                                · rw [if_pos c49] at H
                                  have c49b0 : (x14_3 == (wrap64 (Int.tdiv a1 32))) = true := beq_iff_eq.mpr c49
                                  have c49b1 : (x14_3 != (wrap64 (Int.tdiv a1 32))) = false := bne_eq_false_iff_eq.mpr c49
                                  clear c49
                                  have H' := Aside0.mk H
                                  clear H
                                  go_wp2
                                  go_meet
                                  case rel => exact ⟨_, ((a2 == 0)), (by first | rfl | (simp; done) | (simp [*]; done)), H', ⟨by have := HJ4.out; have := HK2.out; have := HK3.out; first | omega | exact Nat.le_refl _⟩, ⟨by (with_reducible repeat (first | apply Kd.R_alloc | apply Kd.R_drewN | apply Kd.R_drew)); exact Kd.R_mono (Kd.R_far (p := ⟨gb130, 1, none⟩) (Kd.R_far (p := ⟨gb130, 0, none⟩) (Kd.R_mono HO_8.out (fun k_ hk => (⟨hk, hk.2⟩ : _ ∧ k_ ≠ gb130))) (fun _ hk => hk.2) (.int .i64 0)) (fun _ hk => hk.2) (.string (⟨#[]⟩ : ByteArray))) (fun _ hk => ⟨hk.1.1, hk.1.2⟩)⟩, ⟨by (with_reducible repeat (first | apply Kd.R_alloc | apply Kd.R_drewN | apply Kd.R_drew)); exact Kd.R_mono (Kd.R_far (p := ⟨gb130, 1, none⟩) (Kd.R_far (p := ⟨gb130, 0, none⟩) (Kd.R_mono HO_13.out (fun k_ hk => (⟨hk, hk.2⟩ : _ ∧ k_ ≠ gb130))) (fun _ hk => hk.2) (.int .i64 0)) (fun _ hk => hk.2) (.string (⟨#[]⟩ : ByteArray))) (fun _ hk => ⟨hk.1.1, hk.1.2⟩)⟩, ⟨by (with_reducible repeat (first | refine blk_drewN ?_ _ | refine blk_drew ?_ | refine blk_alloc ?_ _)); refine blk_put (cs := #[.int .i64 0, .string (⟨#[]⟩ : ByteArray)]) ?_ 1 _ rfl; (with_reducible repeat (first | refine blk_drewN ?_ _ | refine blk_drew ?_ | refine blk_alloc ?_ _)); refine blk_put (cs := #[.int .i64 0, .string (⟨#[]⟩ : ByteArray)]) ?_ 0 _ rfl; (with_reducible repeat (first | refine blk_drewN ?_ _ | refine blk_drew ?_ | refine blk_alloc ?_ _)); exact BK130.out⟩, ⟨by repeat (first | (with_reducible first | exact HB.out | apply below_alloc | apply pw_below_drewN | apply below_drew1 | refine below_set ?_ GE130.out) | exact HB.out)⟩⟩
                                · rw [if_neg c49] at H
                                  have c49b0 : (x14_3 == (wrap64 (Int.tdiv a1 32))) = false := beq_eq_false_iff_ne.mpr c49
                                  have c49b1 : (x14_3 != (wrap64 (Int.tdiv a1 32))) = true := bne_iff_ne.mpr c49
                                  have H' := Aside0.mk H
                                  clear H
                                  go_wp2
                                  go_meet
                                  case rel => exact ⟨_, (true), (by first | rfl | (simp; done) | (simp [*]; done)), H', ⟨by have := HJ4.out; have := HK2.out; have := HK3.out; first | omega | exact Nat.le_refl _⟩, ⟨by (with_reducible repeat (first | apply Kd.R_alloc | apply Kd.R_drewN | apply Kd.R_drew)); exact Kd.R_mono (Kd.R_far (p := ⟨gb130, 1, none⟩) (Kd.R_far (p := ⟨gb130, 0, none⟩) (Kd.R_mono HO_8.out (fun k_ hk => (⟨hk, hk.2⟩ : _ ∧ k_ ≠ gb130))) (fun _ hk => hk.2) (.int .i64 0)) (fun _ hk => hk.2) (.string (⟨#[]⟩ : ByteArray))) (fun _ hk => ⟨hk.1.1, hk.1.2⟩)⟩, ⟨by (with_reducible repeat (first | apply Kd.R_alloc | apply Kd.R_drewN | apply Kd.R_drew)); exact Kd.R_mono (Kd.R_far (p := ⟨gb130, 1, none⟩) (Kd.R_far (p := ⟨gb130, 0, none⟩) (Kd.R_mono HO_13.out (fun k_ hk => (⟨hk, hk.2⟩ : _ ∧ k_ ≠ gb130))) (fun _ hk => hk.2) (.int .i64 0)) (fun _ hk => hk.2) (.string (⟨#[]⟩ : ByteArray))) (fun _ hk => ⟨hk.1.1, hk.1.2⟩)⟩, ⟨by (with_reducible repeat (first | refine blk_drewN ?_ _ | refine blk_drew ?_ | refine blk_alloc ?_ _)); refine blk_put (cs := #[.int .i64 0, .string (⟨#[]⟩ : ByteArray)]) ?_ 1 _ rfl; (with_reducible repeat (first | refine blk_drewN ?_ _ | refine blk_drew ?_ | refine blk_alloc ?_ _)); refine blk_put (cs := #[.int .i64 0, .string (⟨#[]⟩ : ByteArray)]) ?_ 0 _ rfl; (with_reducible repeat (first | refine blk_drewN ?_ _ | refine blk_drew ?_ | refine blk_alloc ?_ _)); exact BK130.out⟩, ⟨by repeat (first | (with_reducible first | exact HB.out | apply below_alloc | apply pw_below_drewN | apply below_drew1 | refine below_set ?_ GE130.out) | exact HB.out)⟩⟩
                              · rw [if_neg c48] at H
                                have c48b0 : decide (x14_3 < (x8_2.length : Int)) = false := decide_eq_false c48
                                clear c48
                                (first | rw [c48b0] | (simp only [i64_w, i32_w]; rw [c48b0]) | skip)
                                have H' := Aside0.mk H
                                clear H
                                go_wp2
                                go_meet
                                case rel => exact ⟨_, (false), (by first | rfl | (simp; done) | (simp [*]; done)), H', ⟨by have := HJ4.out; have := HK2.out; have := HK3.out; first | omega | exact Nat.le_refl _⟩, ⟨by (with_reducible repeat (first | apply Kd.R_alloc | apply Kd.R_drewN | apply Kd.R_drew)); exact Kd.R_mono (Kd.R_far (p := ⟨gb130, 1, none⟩) (Kd.R_far (p := ⟨gb130, 0, none⟩) (Kd.R_mono HO_8.out (fun k_ hk => (⟨hk, hk.2⟩ : _ ∧ k_ ≠ gb130))) (fun _ hk => hk.2) (.int .i64 0)) (fun _ hk => hk.2) (.string (⟨#[]⟩ : ByteArray))) (fun _ hk => ⟨hk.1.1, hk.1.2⟩)⟩, ⟨by (with_reducible repeat (first | apply Kd.R_alloc | apply Kd.R_drewN | apply Kd.R_drew)); exact Kd.R_mono (Kd.R_far (p := ⟨gb130, 1, none⟩) (Kd.R_far (p := ⟨gb130, 0, none⟩) (Kd.R_mono HO_13.out (fun k_ hk => (⟨hk, hk.2⟩ : _ ∧ k_ ≠ gb130))) (fun _ hk => hk.2) (.int .i64 0)) (fun _ hk => hk.2) (.string (⟨#[]⟩ : ByteArray))) (fun _ hk => ⟨hk.1.1, hk.1.2⟩)⟩, ⟨by (with_reducible repeat (first | refine blk_drewN ?_ _ | refine blk_drew ?_ | refine blk_alloc ?_ _)); refine blk_put (cs := #[.int .i64 0, .string (⟨#[]⟩ : ByteArray)]) ?_ 1 _ rfl; (with_reducible repeat (first | refine blk_drewN ?_ _ | refine blk_drew ?_ | refine blk_alloc ?_ _)); refine blk_put (cs := #[.int .i64 0, .string (⟨#[]⟩ : ByteArray)]) ?_ 0 _ rfl; (with_reducible repeat (first | refine blk_drewN ?_ _ | refine blk_drew ?_ | refine blk_alloc ?_ _)); exact BK130.out⟩, ⟨by repeat (first | (with_reducible first | exact HB.out | apply below_alloc | apply pw_below_drewN | apply below_drew1 | refine below_set ?_ GE130.out) | exact HB.out)⟩⟩
                            case rest =>
                              clear HC45
                              try clear c1
                              try clear p1
                              try clear q1
                              try clear hx1
                              try clear c2
                              try clear p2
                              try clear c3
                              try clear p3
                              try clear q3
                              try clear hx3
                              try clear hf3
                              try clear c4
                              try clear c6
                              try clear p6
                              try clear c7
                              try clear c8
                              try clear c8b0
                              try clear c8b1
                              try clear c9
                              try clear c9b0
                              try clear c10
                              try clear c11
                              try clear c11b0
                              try clear p11
                              try clear q11
                              try clear hx11
                              try clear c12
                              try clear c12b0
                              try clear p12
                              try clear q12
                              try clear hx12
                              try clear c13
                              try clear c13b0
                              try clear c14
                              try clear c14b0
                              try clear c16
                              try clear c16b0
                              try clear c16b1
                              try clear c17
                              try clear c17b0
                              try clear c17b1
                              try clear c18
                              try clear c18b0
                              try clear c18b1
                              try clear c19
                              try clear c19b0
                              try clear c19b1
                              try clear c19b2
                              try clear c21
                              try clear c21b0
                              try clear c21b1
                              try clear c22
                              try clear c22b0
                              try clear c22b1
                              try clear c23
                              try clear c23b0
                              try clear c23b1
                              try clear c24
                              try clear c24b0
                              try clear c24b1
                              try clear c24b2
                              try clear c25
                              try clear c30
                              try clear c30b0
                              try clear c30b1
                              try clear c32
                              try clear c32b0
                              try clear c33
                              try clear c33b0
                              try clear p34
                              try clear q34
                              try clear hx34
                              try clear hf34
                              try clear c36
                              try clear c36b0
                              try clear c36b1
                              try clear c44
                              try clear c44b0
                              try clear c48
                              try clear c48b0
                              try clear c49
                              try clear c49b0
                              try clear c49b1
                              try clear hcz47_0
                              try clear hcz47_1
                              try clear hfz47_0
                              try clear hfz47_1
                              try clear hx114_0
                              try clear hx115_0
                              try clear hx116_0
                              try clear hx125_0
                              try clear hx34_0
                              try clear p1
                              try clear p11
                              try clear p114
                              try clear p115
                              try clear p116
                              try clear p12
                              try clear p125
                              try clear p2
                              try clear p3
                              try clear p34
                              try clear p6
                              try clear q1
                              try clear q11
                              try clear q114
                              try clear q115
                              try clear q116
                              try clear q12
                              try clear q125
                              try clear q3
                              try clear q34
                              obtain ⟨kq, x120_44, rfl, HA, HJ44, HO_8, HO_13, BK130, HB⟩ := hcut
                              cases kq with
                              | zero => exact absurd HA.out (by simp [lockgatelaw6_EntrySpoilt.j3])
                              | succ kj44 =>
                                have H := HA.out
                                clear HA
                                simp only [lockgatelaw6_EntrySpoilt.j3] at H
                                by_cases c50 : x120_44 = true
                                · subst c50
                                  have H1 : (if 0 ≤ x14_3 then (if x14_3 < (x8_2.length : Int) then (if x14_3 < (t127.length : Int) then (if (!(((rd_T28 t127 x14_3).f0) == ((rd_T28 x8_2 x14_3).f0)) || (!((((rd_T28 t127 x14_3).f1).toList) == (((rd_T28 x8_2 x14_3).f1).toList)))) = true then (some false) else (lockgatelaw6_EntrySpoilt.l1 kj44 a1 a2 x8_2 t127 (wrap64 (x14_3 + 1)))) else (none)) else (none)) else (none)) = some r := by rw [if_pos rfl] at H; exact H
                                  clear H
                                  have H := H1
                                  clear H1
                                  by_cases c51 : 0 ≤ x14_3
                                  · rw [if_pos c51] at H
                                    have c51b0 : decide (0 ≤ x14_3) = true := decide_eq_true c51
                                    clear c51
                                    by_cases c52 : x14_3 < (x8_2.length : Int)
                                    · rw [if_pos c52] at H
                                      have c52b0 : decide (x14_3 < (x8_2.length : Int)) = true := decide_eq_true c52
                                      clear c52
                                      by_cases c53 : x14_3 < (t127.length : Int)
                                      · rw [if_pos c53] at H
                                        have c53b0 : decide (x14_3 < (t127.length : Int)) = true := decide_eq_true c53
                                        clear c53
                                        by_cases c54 : (!(((rd_T28 t127 x14_3).f0) == ((rd_T28 x8_2 x14_3).f0)) || (!((((rd_T28 t127 x14_3).f1).toList) == (((rd_T28 x8_2 x14_3).f1).toList)))) = true
                                        · rw [if_pos c54] at H
                                          have c54b0 : (!(((rd_T28 t127 x14_3).f0) == ((rd_T28 x8_2 x14_3).f0)) || (!((((rd_T28 t127 x14_3).f1).toList) == (((rd_T28 x8_2 x14_3).f1).toList)))) = true := c54
                                          clear c54
                                          obtain rfl := Option.some.inj H
                                          have p131 : 0 ≤ (x14_3 : Int) := of_decide_eq_true (by first | (with_reducible assumption) | assumption)
                                          have q131 : x14_3 < (x8_2.length : Int) := of_decide_eq_true (by first | (with_reducible assumption) | assumption)
                                          obtain ⟨ad131, e131, hx131_0, hx131_1⟩ := at_T28 (Kd.R_reads' HO_8.out).2.2 x14_3 p131 q131
                                          cases e131
                                          replace p131 := eq_true p131
                                          replace q131 := eq_true q131
                                          have hcz55_0 : wc.cell? ⟨gb130, 0, none⟩ = some (.int .i64 0) := (blk_cell BK130.out 0).trans rfl
                                          have hcz55_1 : wc.cell? ⟨gb130, 1, none⟩ = some (.string (⟨#[]⟩ : ByteArray)) := (blk_cell BK130.out 1).trans rfl
                                          have hfz55_0 := blk_frozen BK130.out 0
                                          have hfz55_1 := blk_frozen BK130.out 1
                                          try go_wp2
                                          have n0_ : Aside0 (Kd.R k28 28 ((wc.setCell ⟨gb130, 0, none⟩ (.int .i64 ((rd_T28 x8_2 x14_3).f0))).setCell ⟨gb130, 1, none⟩ (.string ((rd_T28 x8_2 x14_3).f1))) w.heap.size (fun k_ => some k_ ≠ (.slice Ao43 t127.length co43 : Value).ownBlock ∧ k_ ≠ gb130) (.slice (some ad131) x8_2.length co37) x8_2) := ⟨by (with_reducible repeat (first | apply Kd.R_alloc | apply Kd.R_drewN | apply Kd.R_drew)); exact Kd.R_mono (Kd.R_far (p := ⟨gb130, 1, none⟩) (Kd.R_far (p := ⟨gb130, 0, none⟩) (Kd.R_mono HO_8.out (fun k_ hk => (⟨hk, hk.2⟩ : _ ∧ k_ ≠ gb130))) (fun _ hk => hk.2) (.int .i64 ((rd_T28 x8_2 x14_3).f0))) (fun _ hk => hk.2) (.string ((rd_T28 x8_2 x14_3).f1))) (fun _ hk => ⟨hk.1.1, hk.1.2⟩)⟩
                                          have n1_ : Aside0 (Kd.R k28 28 ((wc.setCell ⟨gb130, 0, none⟩ (.int .i64 ((rd_T28 x8_2 x14_3).f0))).setCell ⟨gb130, 1, none⟩ (.string ((rd_T28 x8_2 x14_3).f1))) w.heap.size (fun k_ => some k_ ≠ (.slice (some ad131) x8_2.length co37 : Value).ownBlock ∧ k_ ≠ gb130) (.slice Ao43 t127.length co43) t127) := ⟨by (with_reducible repeat (first | apply Kd.R_alloc | apply Kd.R_drewN | apply Kd.R_drew)); exact Kd.R_mono (Kd.R_far (p := ⟨gb130, 1, none⟩) (Kd.R_far (p := ⟨gb130, 0, none⟩) (Kd.R_mono HO_13.out (fun k_ hk => (⟨hk, hk.2⟩ : _ ∧ k_ ≠ gb130))) (fun _ hk => hk.2) (.int .i64 ((rd_T28 x8_2 x14_3).f0))) (fun _ hk => hk.2) (.string ((rd_T28 x8_2 x14_3).f1))) (fun _ hk => ⟨hk.1.1, hk.1.2⟩)⟩
                                          have n2_ : Aside0 (((wc.setCell ⟨gb130, 0, none⟩ (.int .i64 ((rd_T28 x8_2 x14_3).f0))).setCell ⟨gb130, 1, none⟩ (.string ((rd_T28 x8_2 x14_3).f1))).heap[gb130]? = some (.cells #[.int .i64 ((rd_T28 x8_2 x14_3).f0), .string ((rd_T28 x8_2 x14_3).f1)] 28 (0, 0))) := ⟨by (with_reducible repeat (first | refine blk_drewN ?_ _ | refine blk_drew ?_ | refine blk_alloc ?_ _)); refine blk_put (cs := #[.int .i64 ((rd_T28 x8_2 x14_3).f0), .string (⟨#[]⟩ : ByteArray)]) ?_ 1 _ rfl; (with_reducible repeat (first | refine blk_drewN ?_ _ | refine blk_drew ?_ | refine blk_alloc ?_ _)); refine blk_put (cs := #[.int .i64 0, .string (⟨#[]⟩ : ByteArray)]) ?_ 0 _ rfl; (with_reducible repeat (first | refine blk_drewN ?_ _ | refine blk_drew ?_ | refine blk_alloc ?_ _)); exact BK130.out⟩
                                          have n3_ : Aside0 (Below w.heap.size w ((wc.setCell ⟨gb130, 0, none⟩ (.int .i64 ((rd_T28 x8_2 x14_3).f0))).setCell ⟨gb130, 1, none⟩ (.string ((rd_T28 x8_2 x14_3).f1)))) := ⟨by repeat (first | (with_reducible first | exact HB.out | apply below_alloc | apply pw_below_drewN | apply below_drew1 | refine below_set ?_ GE130.out) | exact HB.out)⟩
                                          (try clear HO_8)
                                          (try clear HO_13)
                                          (try clear BK130)
                                          (try clear HB)
                                          generalize ((wc.setCell ⟨gb130, 0, none⟩ (.int .i64 ((rd_T28 x8_2 x14_3).f0))).setCell ⟨gb130, 1, none⟩ (.string ((rd_T28 x8_2 x14_3).f1))) = w56 at n0_ n1_ n2_ n3_ ⊢
                                          have HO_8 := n0_
                                          have HO_13 := n1_
                                          have BK130 := n2_
                                          have HB := n3_
                                          clear n0_ n1_ n2_ n3_
                                          have n0_ := Aside0.mk (Kd.R_drew HO_8.out)
                                          have n1_ := Aside0.mk (Kd.R_drew HO_13.out)
                                          have n2_ := Aside0.mk (blk_drew BK130.out)
                                          have n3_ := Aside0.mk (below_drew1 HB.out)
                                          clear HO_8
                                          clear HO_13
                                          clear BK130
                                          clear HB
                                          have HO_8 := n0_
                                          have HO_13 := n1_
                                          have BK130 := n2_
                                          have HB := n3_
                                          clear n0_ n1_ n2_ n3_
                                          have p132 : 0 ≤ (x14_3 : Int) := of_decide_eq_true (by first | (with_reducible assumption) | assumption)
                                          have q132 : x14_3 < (t127.length : Int) := of_decide_eq_true (by first | (with_reducible assumption) | assumption)
                                          obtain ⟨ad132, e132, hx132_0, hx132_1⟩ := at_T28 (Kd.R_reads' HO_13.out).2.2 x14_3 p132 q132
                                          cases e132
                                          replace p132 := eq_true p132
                                          replace q132 := eq_true q132
                                          refine start_ (n := 6) (S := fun w' => w'.cell? ⟨gb130, 0, none⟩ = some (.int .i64 ((rd_T28 x8_2 x14_3).f0)) ∧ w'.cell? ⟨gb130, 1, none⟩ = some (.string ((rd_T28 x8_2 x14_3).f1)) ∧ w'.cell? (ad132.add ((x14_3).toNat * 2)) = some (.int .i64 ((rd_T28 t127 x14_3).f0)) ∧ w'.cell? ⟨(ad132.add ((x14_3).toNat * 2)).block, (ad132.add ((x14_3).toNat * 2)).off + 1, none⟩ = some (.string ((rd_T28 t127 x14_3).f1))) (ds := []) #[false, false, false, false, false, false] (by kernel_rfl) rfl rfl ⟨(blk_cell BK130.out 0).trans rfl, (blk_cell BK130.out 1).trans rfl, hx132_0, hx132_1⟩ (fun hHeld => ?_)
                                          generalize w56.drew = w57 at HO_8 HO_13 BK130 HB hx132_0 hx132_1 hHeld ⊢
                                          refine pure_ (i := 0) (N := some 125) (v := ?_) (a' := ?_) #[true, false, false, false, false, false] rfl rfl (by kernel_rfl) (fun _ _ _ h => h) (Or.inl ⟨by rfl, ?_⟩) ?_ ?_
                                          rotate_left
                                          · intro w'
                                            go_simp
                                            first | (with_reducible rfl) | (rw [if_neg (by omega)]; done) | (rw [if_neg (by omega)]; with_reducible rfl)
                                          rotate_left
                                          · simp only [Act.put, List.setIfInBounds_toArray, List.set_cons_zero, List.set_cons_succ, i64_w, i32_w]
                                            rfl
                                          refine pure_ (i := 1) (N := some 126) (v := ?_) (a' := ?_) #[true, true, false, false, false, false] rfl rfl (by kernel_rfl) (fun _ _ _ h => h) (Or.inl ⟨by rfl, ?_⟩) ?_ ?_
                                          rotate_left
                                          · intro w'
                                            go_simp
                                            first | (with_reducible rfl) | (rw [if_neg (by omega)]; done) | (rw [if_neg (by omega)]; with_reducible rfl)
                                          rotate_left
                                          · simp only [Act.put, List.setIfInBounds_toArray, List.set_cons_zero, List.set_cons_succ, i64_w, i32_w]
                                            rfl
                                          refine pure_ (i := 2) (N := some 127) (v := ?_) (a' := ?_) #[true, true, true, false, false, false] rfl rfl (by kernel_rfl) (fun _ _ _ h => h) (Or.inl ⟨by rfl, ?_⟩) ?_ ?_
                                          rotate_left
                                          · intro w'
                                            go_simp
                                            first | (with_reducible rfl) | (rw [if_neg (by omega)]; done) | (rw [if_neg (by omega)]; with_reducible rfl)
                                          rotate_left
                                          · simp only [Act.put, List.setIfInBounds_toArray, List.set_cons_zero, List.set_cons_succ, i64_w, i32_w]
                                            rfl
                                          refine take_ (i := 3) (N := some 128) (v := ?_) (a' := ?_) #[true, true, true, true, false, false] rfl rfl (by kernel_rfl) (fun _ _ _ h => h) (Or.inl ⟨by rfl, ?_⟩) hHeld ?_ ?_
                                          rotate_left
                                          · rintro w' ⟨s0, s1, s2, s3⟩
                                            go_simp
                                            first | (with_reducible rfl) | (rw [if_neg (by omega)]; done) | (rw [if_neg (by omega)]; with_reducible rfl)
                                          rotate_left
                                          · simp only [Act.put, List.setIfInBounds_toArray, List.set_cons_zero, List.set_cons_succ, i64_w, i32_w]
                                            rfl
                                          refine take_ (i := 4) (N := some 129) (v := ?_) (a' := ?_) #[true, true, true, true, true, false] rfl rfl (by kernel_rfl) (fun _ _ _ h => h) (Or.inl ⟨by rfl, ?_⟩) hHeld ?_ ?_
                                          rotate_left
                                          · rintro w' ⟨s0, s1, s2, s3⟩
                                            go_simp
                                            first | (with_reducible rfl) | (rw [if_neg (by omega)]; done) | (rw [if_neg (by omega)]; with_reducible rfl)
                                          rotate_left
                                          · simp only [Act.put, List.setIfInBounds_toArray, List.set_cons_zero, List.set_cons_succ, i64_w, i32_w]
                                            rfl
                                          refine pure_ (i := 5) (N := some 130) (v := ?_) (a' := ?_) #[true, true, true, true, true, true] rfl rfl (by kernel_rfl) (fun _ _ _ h => h) (Or.inl ⟨by rfl, ?_⟩) ?_ ?_
                                          rotate_left
                                          · intro w'
                                            go_simp
                                            first | (with_reducible rfl) | (rw [if_neg (by omega)]; done) | (rw [if_neg (by omega)]; with_reducible rfl)
                                          rotate_left
                                          · simp only [Act.put, List.setIfInBounds_toArray, List.set_cons_zero, List.set_cons_succ, i64_w, i32_w]
                                            rfl
                                          refine done_ (by kernel_rfl) ?_
                                          try go_wp2
                                          go_ret
                                          exact ⟨by first | rfl | (simp [errW_none, errW_some] <;> rfl) | (simp only [← hji31]; first | rfl | (simp [errW_none, errW_some] <;> rfl)) | (simp [*, errW_none, errW_some] <;> rfl), by repeat (first | (with_reducible first | exact HB.out | apply below_alloc | apply pw_below_drewN | apply below_drew1 | refine below_set ?_ GE130.out) | exact HB.out)⟩
                                        · rw [if_neg c54] at H
                                          have c54b0 : (!(((rd_T28 t127 x14_3).f0) == ((rd_T28 x8_2 x14_3).f0)) || (!((((rd_T28 t127 x14_3).f1).toList) == (((rd_T28 x8_2 x14_3).f1).toList)))) = false := by simpa using c54
                                          clear c54
                                          have H' := Aside0.mk H
                                          clear H
                                          have p131 : 0 ≤ (x14_3 : Int) := of_decide_eq_true (by first | (with_reducible assumption) | assumption)
                                          have q131 : x14_3 < (x8_2.length : Int) := of_decide_eq_true (by first | (with_reducible assumption) | assumption)
                                          obtain ⟨ad131, e131, hx131_0, hx131_1⟩ := at_T28 (Kd.R_reads' HO_8.out).2.2 x14_3 p131 q131
                                          cases e131
                                          replace p131 := eq_true p131
                                          replace q131 := eq_true q131
                                          have hcz58_0 : wc.cell? ⟨gb130, 0, none⟩ = some (.int .i64 0) := (blk_cell BK130.out 0).trans rfl
                                          have hcz58_1 : wc.cell? ⟨gb130, 1, none⟩ = some (.string (⟨#[]⟩ : ByteArray)) := (blk_cell BK130.out 1).trans rfl
                                          have hfz58_0 := blk_frozen BK130.out 0
                                          have hfz58_1 := blk_frozen BK130.out 1
                                          try go_wp2
                                          have n0_ : Aside0 (Kd.R k28 28 ((wc.setCell ⟨gb130, 0, none⟩ (.int .i64 ((rd_T28 x8_2 x14_3).f0))).setCell ⟨gb130, 1, none⟩ (.string ((rd_T28 x8_2 x14_3).f1))) w.heap.size (fun k_ => some k_ ≠ (.slice Ao43 t127.length co43 : Value).ownBlock ∧ k_ ≠ gb130) (.slice (some ad131) x8_2.length co37) x8_2) := ⟨by (with_reducible repeat (first | apply Kd.R_alloc | apply Kd.R_drewN | apply Kd.R_drew)); exact Kd.R_mono (Kd.R_far (p := ⟨gb130, 1, none⟩) (Kd.R_far (p := ⟨gb130, 0, none⟩) (Kd.R_mono HO_8.out (fun k_ hk => (⟨hk, hk.2⟩ : _ ∧ k_ ≠ gb130))) (fun _ hk => hk.2) (.int .i64 ((rd_T28 x8_2 x14_3).f0))) (fun _ hk => hk.2) (.string ((rd_T28 x8_2 x14_3).f1))) (fun _ hk => ⟨hk.1.1, hk.1.2⟩)⟩
                                          have n1_ : Aside0 (Kd.R k28 28 ((wc.setCell ⟨gb130, 0, none⟩ (.int .i64 ((rd_T28 x8_2 x14_3).f0))).setCell ⟨gb130, 1, none⟩ (.string ((rd_T28 x8_2 x14_3).f1))) w.heap.size (fun k_ => some k_ ≠ (.slice (some ad131) x8_2.length co37 : Value).ownBlock ∧ k_ ≠ gb130) (.slice Ao43 t127.length co43) t127) := ⟨by (with_reducible repeat (first | apply Kd.R_alloc | apply Kd.R_drewN | apply Kd.R_drew)); exact Kd.R_mono (Kd.R_far (p := ⟨gb130, 1, none⟩) (Kd.R_far (p := ⟨gb130, 0, none⟩) (Kd.R_mono HO_13.out (fun k_ hk => (⟨hk, hk.2⟩ : _ ∧ k_ ≠ gb130))) (fun _ hk => hk.2) (.int .i64 ((rd_T28 x8_2 x14_3).f0))) (fun _ hk => hk.2) (.string ((rd_T28 x8_2 x14_3).f1))) (fun _ hk => ⟨hk.1.1, hk.1.2⟩)⟩
                                          have n2_ : Aside0 (((wc.setCell ⟨gb130, 0, none⟩ (.int .i64 ((rd_T28 x8_2 x14_3).f0))).setCell ⟨gb130, 1, none⟩ (.string ((rd_T28 x8_2 x14_3).f1))).heap[gb130]? = some (.cells #[.int .i64 ((rd_T28 x8_2 x14_3).f0), .string ((rd_T28 x8_2 x14_3).f1)] 28 (0, 0))) := ⟨by (with_reducible repeat (first | refine blk_drewN ?_ _ | refine blk_drew ?_ | refine blk_alloc ?_ _)); refine blk_put (cs := #[.int .i64 ((rd_T28 x8_2 x14_3).f0), .string (⟨#[]⟩ : ByteArray)]) ?_ 1 _ rfl; (with_reducible repeat (first | refine blk_drewN ?_ _ | refine blk_drew ?_ | refine blk_alloc ?_ _)); refine blk_put (cs := #[.int .i64 0, .string (⟨#[]⟩ : ByteArray)]) ?_ 0 _ rfl; (with_reducible repeat (first | refine blk_drewN ?_ _ | refine blk_drew ?_ | refine blk_alloc ?_ _)); exact BK130.out⟩
                                          have n3_ : Aside0 (Below w.heap.size w ((wc.setCell ⟨gb130, 0, none⟩ (.int .i64 ((rd_T28 x8_2 x14_3).f0))).setCell ⟨gb130, 1, none⟩ (.string ((rd_T28 x8_2 x14_3).f1)))) := ⟨by repeat (first | (with_reducible first | exact HB.out | apply below_alloc | apply pw_below_drewN | apply below_drew1 | refine below_set ?_ GE130.out) | exact HB.out)⟩
                                          (try clear HO_8)
                                          (try clear HO_13)
                                          (try clear BK130)
                                          (try clear HB)
                                          generalize ((wc.setCell ⟨gb130, 0, none⟩ (.int .i64 ((rd_T28 x8_2 x14_3).f0))).setCell ⟨gb130, 1, none⟩ (.string ((rd_T28 x8_2 x14_3).f1))) = w59 at n0_ n1_ n2_ n3_ ⊢
                                          have HO_8 := n0_
                                          have HO_13 := n1_
                                          have BK130 := n2_
                                          have HB := n3_
                                          clear n0_ n1_ n2_ n3_
                                          have n0_ := Aside0.mk (Kd.R_drew HO_8.out)
                                          have n1_ := Aside0.mk (Kd.R_drew HO_13.out)
                                          have n2_ := Aside0.mk (blk_drew BK130.out)
                                          have n3_ := Aside0.mk (below_drew1 HB.out)
                                          clear HO_8
                                          clear HO_13
                                          clear BK130
                                          clear HB
                                          have HO_8 := n0_
                                          have HO_13 := n1_
                                          have BK130 := n2_
                                          have HB := n3_
                                          clear n0_ n1_ n2_ n3_
                                          have p132 : 0 ≤ (x14_3 : Int) := of_decide_eq_true (by first | (with_reducible assumption) | assumption)
                                          have q132 : x14_3 < (t127.length : Int) := of_decide_eq_true (by first | (with_reducible assumption) | assumption)
                                          obtain ⟨ad132, e132, hx132_0, hx132_1⟩ := at_T28 (Kd.R_reads' HO_13.out).2.2 x14_3 p132 q132
                                          cases e132
                                          replace p132 := eq_true p132
                                          replace q132 := eq_true q132
                                          refine start_ (n := 6) (S := fun w' => w'.cell? ⟨gb130, 0, none⟩ = some (.int .i64 ((rd_T28 x8_2 x14_3).f0)) ∧ w'.cell? ⟨gb130, 1, none⟩ = some (.string ((rd_T28 x8_2 x14_3).f1)) ∧ w'.cell? (ad132.add ((x14_3).toNat * 2)) = some (.int .i64 ((rd_T28 t127 x14_3).f0)) ∧ w'.cell? ⟨(ad132.add ((x14_3).toNat * 2)).block, (ad132.add ((x14_3).toNat * 2)).off + 1, none⟩ = some (.string ((rd_T28 t127 x14_3).f1))) (ds := []) #[false, false, false, false, false, false] (by kernel_rfl) rfl rfl ⟨(blk_cell BK130.out 0).trans rfl, (blk_cell BK130.out 1).trans rfl, hx132_0, hx132_1⟩ (fun hHeld => ?_)
                                          generalize w59.drew = w60 at HO_8 HO_13 BK130 HB hx132_0 hx132_1 hHeld ⊢
                                          refine pure_ (i := 0) (N := some 125) (v := ?_) (a' := ?_) #[true, false, false, false, false, false] rfl rfl (by kernel_rfl) (fun _ _ _ h => h) (Or.inl ⟨by rfl, ?_⟩) ?_ ?_
                                          rotate_left
                                          · intro w'
                                            go_simp
                                            first | (with_reducible rfl) | (rw [if_neg (by omega)]; done) | (rw [if_neg (by omega)]; with_reducible rfl)
                                          rotate_left
                                          · simp only [Act.put, List.setIfInBounds_toArray, List.set_cons_zero, List.set_cons_succ, i64_w, i32_w]
                                            rfl
                                          refine pure_ (i := 1) (N := some 126) (v := ?_) (a' := ?_) #[true, true, false, false, false, false] rfl rfl (by kernel_rfl) (fun _ _ _ h => h) (Or.inl ⟨by rfl, ?_⟩) ?_ ?_
                                          rotate_left
                                          · intro w'
                                            go_simp
                                            first | (with_reducible rfl) | (rw [if_neg (by omega)]; done) | (rw [if_neg (by omega)]; with_reducible rfl)
                                          rotate_left
                                          · simp only [Act.put, List.setIfInBounds_toArray, List.set_cons_zero, List.set_cons_succ, i64_w, i32_w]
                                            rfl
                                          refine pure_ (i := 2) (N := some 127) (v := ?_) (a' := ?_) #[true, true, true, false, false, false] rfl rfl (by kernel_rfl) (fun _ _ _ h => h) (Or.inl ⟨by rfl, ?_⟩) ?_ ?_
                                          rotate_left
                                          · intro w'
                                            go_simp
                                            first | (with_reducible rfl) | (rw [if_neg (by omega)]; done) | (rw [if_neg (by omega)]; with_reducible rfl)
                                          rotate_left
                                          · simp only [Act.put, List.setIfInBounds_toArray, List.set_cons_zero, List.set_cons_succ, i64_w, i32_w]
                                            rfl
                                          refine take_ (i := 3) (N := some 128) (v := ?_) (a' := ?_) #[true, true, true, true, false, false] rfl rfl (by kernel_rfl) (fun _ _ _ h => h) (Or.inl ⟨by rfl, ?_⟩) hHeld ?_ ?_
                                          rotate_left
                                          · rintro w' ⟨s0, s1, s2, s3⟩
                                            go_simp
                                            first | (with_reducible rfl) | (rw [if_neg (by omega)]; done) | (rw [if_neg (by omega)]; with_reducible rfl)
                                          rotate_left
                                          · simp only [Act.put, List.setIfInBounds_toArray, List.set_cons_zero, List.set_cons_succ, i64_w, i32_w]
                                            rfl
                                          refine take_ (i := 4) (N := some 129) (v := ?_) (a' := ?_) #[true, true, true, true, true, false] rfl rfl (by kernel_rfl) (fun _ _ _ h => h) (Or.inl ⟨by rfl, ?_⟩) hHeld ?_ ?_
                                          rotate_left
                                          · rintro w' ⟨s0, s1, s2, s3⟩
                                            go_simp
                                            first | (with_reducible rfl) | (rw [if_neg (by omega)]; done) | (rw [if_neg (by omega)]; with_reducible rfl)
                                          rotate_left
                                          · simp only [Act.put, List.setIfInBounds_toArray, List.set_cons_zero, List.set_cons_succ, i64_w, i32_w]
                                            rfl
                                          refine pure_ (i := 5) (N := some 130) (v := ?_) (a' := ?_) #[true, true, true, true, true, true] rfl rfl (by kernel_rfl) (fun _ _ _ h => h) (Or.inl ⟨by rfl, ?_⟩) ?_ ?_
                                          rotate_left
                                          · intro w'
                                            go_simp
                                            first | (with_reducible rfl) | (rw [if_neg (by omega)]; done) | (rw [if_neg (by omega)]; with_reducible rfl)
                                          rotate_left
                                          · simp only [Act.put, List.setIfInBounds_toArray, List.set_cons_zero, List.set_cons_succ, i64_w, i32_w]
                                            rfl
                                          refine done_ (by kernel_rfl) ?_
                                          try go_wp2
                                          go_roundg kj44
                                          case measure => have := HJ4.out; have := HK2.out; have := HK3.out; have := HJ44.out; omega
                                          case rel => exact ⟨(wrap64 (x14_3 + 1)), (by first | rfl | (simp; done) | (simp [*]; done)), H', ⟨by have := HJ4.out; have := HK2.out; have := HK3.out; have := HJ44.out; omega⟩, ⟨by (with_reducible repeat (first | apply Kd.R_alloc | apply Kd.R_drewN | apply Kd.R_drew)); exact Kd.R_mono HO_8.out (fun _ hk => hk.1)⟩, ⟨by (with_reducible repeat (first | apply Kd.R_alloc | apply Kd.R_drewN | apply Kd.R_drew)); exact Kd.R_mono HO_13.out (fun _ hk => hk.1)⟩, ⟨by repeat (first | (with_reducible first | exact HB.out | apply below_alloc | apply pw_below_drewN | apply below_drew1 | refine below_set ?_ GE130.out) | exact HB.out)⟩⟩
                                      · rw [if_neg c53] at H
                                        exact absurd H (by simp)
                                    · rw [if_neg c52] at H
                                      exact absurd H (by simp)
                                  · rw [if_neg c51] at H
                                    exact absurd H (by simp)
                                · replace c50 := Bool.eq_false_iff.mpr c50
                                  subst c50
                                  have H1 : (if 0 ≤ x14_3 then (if x14_3 < (t127.length : Int) then (if (!(((rd_T28 t127 x14_3).f0) == 0) || (!((((rd_T28 t127 x14_3).f1).toList) == (⟨#[]⟩ : ByteArray).toList))) = true then (some false) else (lockgatelaw6_EntrySpoilt.l1 kj44 a1 a2 x8_2 t127 (wrap64 (x14_3 + 1)))) else (none)) else (none)) = some r := by rw [if_neg (show ¬ (false = true) by decide)] at H; exact H
                                  clear H
                                  have H := H1
                                  clear H1
                                  by_cases c61 : 0 ≤ x14_3
                                  · rw [if_pos c61] at H
                                    have c61b0 : decide (0 ≤ x14_3) = true := decide_eq_true c61
                                    clear c61
                                    by_cases c62 : x14_3 < (t127.length : Int)
                                    · rw [if_pos c62] at H
                                      have c62b0 : decide (x14_3 < (t127.length : Int)) = true := decide_eq_true c62
                                      clear c62
                                      by_cases c63 : (!(((rd_T28 t127 x14_3).f0) == 0) || (!((((rd_T28 t127 x14_3).f1).toList) == (⟨#[]⟩ : ByteArray).toList))) = true
                                      · rw [if_pos c63] at H
                                        have c63b0 : (!(((rd_T28 t127 x14_3).f0) == 0) || (!((((rd_T28 t127 x14_3).f1).toList) == (⟨#[]⟩ : ByteArray).toList))) = true := c63
                                        have c63b9 : ((!(((rd_T28 t127 x14_3).f0) == 0)) || (!((rd_T28 t127 x14_3).f1.toList.isEmpty))) = true := by rw [show (⟨#[]⟩ : ByteArray).toList = [] from by decide +kernel] at c63b0; rw [← c63b0]; cases (rd_T28 t127 x14_3).f1.toList <;> rfl
                                        clear c63
                                        obtain rfl := Option.some.inj H
                                        try go_wp2
                                        have n0_ := Aside0.mk (Kd.R_drew HO_8.out)
                                        have n1_ := Aside0.mk (Kd.R_drew HO_13.out)
                                        have n2_ := Aside0.mk (blk_drew BK130.out)
                                        have n3_ := Aside0.mk (below_drew1 HB.out)
                                        clear HO_8
                                        clear HO_13
                                        clear BK130
                                        clear HB
                                        have HO_8 := n0_
                                        have HO_13 := n1_
                                        have BK130 := n2_
                                        have HB := n3_
                                        clear n0_ n1_ n2_ n3_
                                        have p133 : 0 ≤ (x14_3 : Int) := of_decide_eq_true (by first | (with_reducible assumption) | assumption)
                                        have q133 : x14_3 < (t127.length : Int) := of_decide_eq_true (by first | (with_reducible assumption) | assumption)
                                        obtain ⟨ad133, e133, hx133_0, hx133_1⟩ := at_T28 (Kd.R_reads' HO_13.out).2.2 x14_3 p133 q133
                                        cases e133
                                        replace p133 := eq_true p133
                                        replace q133 := eq_true q133
                                        refine start_ (n := 6) (S := fun w' => w'.cell? ⟨gb130, 0, none⟩ = some (.int .i64 0) ∧ w'.cell? ⟨gb130, 1, none⟩ = some (.string (⟨#[]⟩ : ByteArray)) ∧ w'.cell? (ad133.add ((x14_3).toNat * 2)) = some (.int .i64 ((rd_T28 t127 x14_3).f0)) ∧ w'.cell? ⟨(ad133.add ((x14_3).toNat * 2)).block, (ad133.add ((x14_3).toNat * 2)).off + 1, none⟩ = some (.string ((rd_T28 t127 x14_3).f1))) (ds := []) #[false, false, false, false, false, false] (by kernel_rfl) rfl rfl ⟨(blk_cell BK130.out 0).trans rfl, (blk_cell BK130.out 1).trans rfl, hx133_0, hx133_1⟩ (fun hHeld => ?_)
                                        generalize wc.drew = w64 at HO_8 HO_13 BK130 HB hx133_0 hx133_1 hHeld ⊢
                                        refine pure_ (i := 0) (N := some 125) (v := ?_) (a' := ?_) #[true, false, false, false, false, false] rfl rfl (by kernel_rfl) (fun _ _ _ h => h) (Or.inl ⟨by rfl, ?_⟩) ?_ ?_
                                        rotate_left
                                        · intro w'
                                          go_simp
                                          first | (with_reducible rfl) | (rw [if_neg (by omega)]; done) | (rw [if_neg (by omega)]; with_reducible rfl)
                                        rotate_left
                                        · simp only [Act.put, List.setIfInBounds_toArray, List.set_cons_zero, List.set_cons_succ, i64_w, i32_w]
                                          rfl
                                        refine pure_ (i := 1) (N := some 126) (v := ?_) (a' := ?_) #[true, true, false, false, false, false] rfl rfl (by kernel_rfl) (fun _ _ _ h => h) (Or.inl ⟨by rfl, ?_⟩) ?_ ?_
                                        rotate_left
                                        · intro w'
                                          go_simp
                                          first | (with_reducible rfl) | (rw [if_neg (by omega)]; done) | (rw [if_neg (by omega)]; with_reducible rfl)
                                        rotate_left
                                        · simp only [Act.put, List.setIfInBounds_toArray, List.set_cons_zero, List.set_cons_succ, i64_w, i32_w]
                                          rfl
                                        refine pure_ (i := 2) (N := some 127) (v := ?_) (a' := ?_) #[true, true, true, false, false, false] rfl rfl (by kernel_rfl) (fun _ _ _ h => h) (Or.inl ⟨by rfl, ?_⟩) ?_ ?_
                                        rotate_left
                                        · intro w'
                                          go_simp
                                          first | (with_reducible rfl) | (rw [if_neg (by omega)]; done) | (rw [if_neg (by omega)]; with_reducible rfl)
                                        rotate_left
                                        · simp only [Act.put, List.setIfInBounds_toArray, List.set_cons_zero, List.set_cons_succ, i64_w, i32_w]
                                          rfl
                                        refine take_ (i := 3) (N := some 128) (v := ?_) (a' := ?_) #[true, true, true, true, false, false] rfl rfl (by kernel_rfl) (fun _ _ _ h => h) (Or.inl ⟨by rfl, ?_⟩) hHeld ?_ ?_
                                        rotate_left
                                        · rintro w' ⟨s0, s1, s2, s3⟩
                                          go_simp
                                          first | (with_reducible rfl) | (rw [if_neg (by omega)]; done) | (rw [if_neg (by omega)]; with_reducible rfl)
                                        rotate_left
                                        · simp only [Act.put, List.setIfInBounds_toArray, List.set_cons_zero, List.set_cons_succ, i64_w, i32_w]
                                          rfl
                                        refine take_ (i := 4) (N := some 129) (v := ?_) (a' := ?_) #[true, true, true, true, true, false] rfl rfl (by kernel_rfl) (fun _ _ _ h => h) (Or.inl ⟨by rfl, ?_⟩) hHeld ?_ ?_
                                        rotate_left
                                        · rintro w' ⟨s0, s1, s2, s3⟩
                                          go_simp
                                          first | (with_reducible rfl) | (rw [if_neg (by omega)]; done) | (rw [if_neg (by omega)]; with_reducible rfl)
                                        rotate_left
                                        · simp only [Act.put, List.setIfInBounds_toArray, List.set_cons_zero, List.set_cons_succ, i64_w, i32_w]
                                          rfl
                                        refine pure_ (i := 5) (N := some 130) (v := ?_) (a' := ?_) #[true, true, true, true, true, true] rfl rfl (by kernel_rfl) (fun _ _ _ h => h) (Or.inl ⟨by rfl, ?_⟩) ?_ ?_
                                        rotate_left
                                        · intro w'
                                          go_simp
                                          first | (with_reducible rfl) | (rw [if_neg (by omega)]; done) | (rw [if_neg (by omega)]; with_reducible rfl)
                                        rotate_left
                                        · simp only [Act.put, List.setIfInBounds_toArray, List.set_cons_zero, List.set_cons_succ, i64_w, i32_w]
                                          rfl
                                        refine done_ (by kernel_rfl) ?_
                                        try go_wp2
                                        go_ret
                                        exact ⟨by first | rfl | (simp [errW_none, errW_some] <;> rfl) | (simp only [← hji31]; first | rfl | (simp [errW_none, errW_some] <;> rfl)) | (simp [*, errW_none, errW_some] <;> rfl), by repeat (first | (with_reducible first | exact HB.out | apply below_alloc | apply pw_below_drewN | apply below_drew1 | refine below_set ?_ GE130.out) | exact HB.out)⟩
                                      · rw [if_neg c63] at H
                                        have c63b0 : (!(((rd_T28 t127 x14_3).f0) == 0) || (!((((rd_T28 t127 x14_3).f1).toList) == (⟨#[]⟩ : ByteArray).toList))) = false := by simpa using c63
                                        have c63b9 : ((!(((rd_T28 t127 x14_3).f0) == 0)) || (!((rd_T28 t127 x14_3).f1.toList.isEmpty))) = false := by rw [show (⟨#[]⟩ : ByteArray).toList = [] from by decide +kernel] at c63b0; rw [← c63b0]; cases (rd_T28 t127 x14_3).f1.toList <;> rfl
                                        clear c63
                                        have H' := Aside0.mk H
                                        clear H
                                        try go_wp2
                                        have n0_ := Aside0.mk (Kd.R_drew HO_8.out)
                                        have n1_ := Aside0.mk (Kd.R_drew HO_13.out)
                                        have n2_ := Aside0.mk (blk_drew BK130.out)
                                        have n3_ := Aside0.mk (below_drew1 HB.out)
                                        clear HO_8
                                        clear HO_13
                                        clear BK130
                                        clear HB
                                        have HO_8 := n0_
                                        have HO_13 := n1_
                                        have BK130 := n2_
                                        have HB := n3_
                                        clear n0_ n1_ n2_ n3_
                                        have p133 : 0 ≤ (x14_3 : Int) := of_decide_eq_true (by first | (with_reducible assumption) | assumption)
                                        have q133 : x14_3 < (t127.length : Int) := of_decide_eq_true (by first | (with_reducible assumption) | assumption)
                                        obtain ⟨ad133, e133, hx133_0, hx133_1⟩ := at_T28 (Kd.R_reads' HO_13.out).2.2 x14_3 p133 q133
                                        cases e133
                                        replace p133 := eq_true p133
                                        replace q133 := eq_true q133
                                        refine start_ (n := 6) (S := fun w' => w'.cell? ⟨gb130, 0, none⟩ = some (.int .i64 0) ∧ w'.cell? ⟨gb130, 1, none⟩ = some (.string (⟨#[]⟩ : ByteArray)) ∧ w'.cell? (ad133.add ((x14_3).toNat * 2)) = some (.int .i64 ((rd_T28 t127 x14_3).f0)) ∧ w'.cell? ⟨(ad133.add ((x14_3).toNat * 2)).block, (ad133.add ((x14_3).toNat * 2)).off + 1, none⟩ = some (.string ((rd_T28 t127 x14_3).f1))) (ds := []) #[false, false, false, false, false, false] (by kernel_rfl) rfl rfl ⟨(blk_cell BK130.out 0).trans rfl, (blk_cell BK130.out 1).trans rfl, hx133_0, hx133_1⟩ (fun hHeld => ?_)
                                        generalize wc.drew = w65 at HO_8 HO_13 BK130 HB hx133_0 hx133_1 hHeld ⊢
                                        refine pure_ (i := 0) (N := some 125) (v := ?_) (a' := ?_) #[true, false, false, false, false, false] rfl rfl (by kernel_rfl) (fun _ _ _ h => h) (Or.inl ⟨by rfl, ?_⟩) ?_ ?_
                                        rotate_left
                                        · intro w'
                                          go_simp
                                          first | (with_reducible rfl) | (rw [if_neg (by omega)]; done) | (rw [if_neg (by omega)]; with_reducible rfl)
                                        rotate_left
                                        · simp only [Act.put, List.setIfInBounds_toArray, List.set_cons_zero, List.set_cons_succ, i64_w, i32_w]
                                          rfl
                                        refine pure_ (i := 1) (N := some 126) (v := ?_) (a' := ?_) #[true, true, false, false, false, false] rfl rfl (by kernel_rfl) (fun _ _ _ h => h) (Or.inl ⟨by rfl, ?_⟩) ?_ ?_
                                        rotate_left
                                        · intro w'
                                          go_simp
                                          first | (with_reducible rfl) | (rw [if_neg (by omega)]; done) | (rw [if_neg (by omega)]; with_reducible rfl)
                                        rotate_left
                                        · simp only [Act.put, List.setIfInBounds_toArray, List.set_cons_zero, List.set_cons_succ, i64_w, i32_w]
                                          rfl
                                        refine pure_ (i := 2) (N := some 127) (v := ?_) (a' := ?_) #[true, true, true, false, false, false] rfl rfl (by kernel_rfl) (fun _ _ _ h => h) (Or.inl ⟨by rfl, ?_⟩) ?_ ?_
                                        rotate_left
                                        · intro w'
                                          go_simp
                                          first | (with_reducible rfl) | (rw [if_neg (by omega)]; done) | (rw [if_neg (by omega)]; with_reducible rfl)
                                        rotate_left
                                        · simp only [Act.put, List.setIfInBounds_toArray, List.set_cons_zero, List.set_cons_succ, i64_w, i32_w]
                                          rfl
                                        refine take_ (i := 3) (N := some 128) (v := ?_) (a' := ?_) #[true, true, true, true, false, false] rfl rfl (by kernel_rfl) (fun _ _ _ h => h) (Or.inl ⟨by rfl, ?_⟩) hHeld ?_ ?_
                                        rotate_left
                                        · rintro w' ⟨s0, s1, s2, s3⟩
                                          go_simp
                                          first | (with_reducible rfl) | (rw [if_neg (by omega)]; done) | (rw [if_neg (by omega)]; with_reducible rfl)
                                        rotate_left
                                        · simp only [Act.put, List.setIfInBounds_toArray, List.set_cons_zero, List.set_cons_succ, i64_w, i32_w]
                                          rfl
                                        refine take_ (i := 4) (N := some 129) (v := ?_) (a' := ?_) #[true, true, true, true, true, false] rfl rfl (by kernel_rfl) (fun _ _ _ h => h) (Or.inl ⟨by rfl, ?_⟩) hHeld ?_ ?_
                                        rotate_left
                                        · rintro w' ⟨s0, s1, s2, s3⟩
                                          go_simp
                                          first | (with_reducible rfl) | (rw [if_neg (by omega)]; done) | (rw [if_neg (by omega)]; with_reducible rfl)
                                        rotate_left
                                        · simp only [Act.put, List.setIfInBounds_toArray, List.set_cons_zero, List.set_cons_succ, i64_w, i32_w]
                                          rfl
                                        refine pure_ (i := 5) (N := some 130) (v := ?_) (a' := ?_) #[true, true, true, true, true, true] rfl rfl (by kernel_rfl) (fun _ _ _ h => h) (Or.inl ⟨by rfl, ?_⟩) ?_ ?_
                                        rotate_left
                                        · intro w'
                                          go_simp
                                          first | (with_reducible rfl) | (rw [if_neg (by omega)]; done) | (rw [if_neg (by omega)]; with_reducible rfl)
                                        rotate_left
                                        · simp only [Act.put, List.setIfInBounds_toArray, List.set_cons_zero, List.set_cons_succ, i64_w, i32_w]
                                          rfl
                                        refine done_ (by kernel_rfl) ?_
                                        try go_wp2
                                        go_roundg kj44
                                        case measure => have := HJ4.out; have := HK2.out; have := HK3.out; have := HJ44.out; omega
                                        case rel => exact ⟨(wrap64 (x14_3 + 1)), (by first | rfl | (simp; done) | (simp [*]; done)), H', ⟨by have := HJ4.out; have := HK2.out; have := HK3.out; have := HJ44.out; omega⟩, ⟨by (with_reducible repeat (first | apply Kd.R_alloc | apply Kd.R_drewN | apply Kd.R_drew)); exact Kd.R_mono HO_8.out (fun _ hk => hk.1)⟩, ⟨by (with_reducible repeat (first | apply Kd.R_alloc | apply Kd.R_drewN | apply Kd.R_drew)); exact Kd.R_mono HO_13.out (fun _ hk => hk.1)⟩, ⟨by repeat (first | (with_reducible first | exact HB.out | apply below_alloc | apply pw_below_drewN | apply below_drew1 | refine below_set ?_ GE130.out) | exact HB.out)⟩⟩
                                    · rw [if_neg c62] at H
                                      exact absurd H (by simp)
                                  · rw [if_neg c61] at H
                                    exact absurd H (by simp)
                          · rw [if_neg c44] at H
                            have c44b0 : decide (x14_3 < 32) = false := decide_eq_false c44
                            clear c44
                            obtain rfl := Option.some.inj H
                            go_wp2
                            go_ret
                            exact ⟨by first | rfl | (simp [errW_none, errW_some] <;> rfl) | (simp only [← hji31]; first | rfl | (simp [errW_none, errW_some] <;> rfl)) | (simp [*, errW_none, errW_some] <;> rfl), by repeat (first | (with_reducible first | exact HB.out | apply below_alloc | apply pw_below_drewN | apply below_drew1) | exact HB.out)⟩
                    · rw [if_neg c36] at H
                      have c36b0 : ((t127.length : Int) == 32) = false := beq_eq_false_iff_ne.mpr c36
                      have c36b1 : ((t127.length : Int) != 32) = true := bne_iff_ne.mpr c36
                      obtain rfl := Option.some.inj H
                      obtain ⟨Ao66, co66, eo66⟩ := Kd.R_slice HO_8.out
                      subst eo66
                      go_wp2_with (first | ((with_reducible refine gate_callee (f := 16) rfl ?_); refine goesL_ (some 75) rfl rfl Try.func16 (by kernel_rfl) rfl #[.slice Ao66 x8_2.length co66] rfl (by (try simp only [List.map_toArray, List.map_cons, List.map_nil]); first | done | rfl | (simp only [List.length_drop, List.length_take]; rfl)) ?_; (with_reducible refine (entry_PackBlock.calls k2 _ _ x8_2 t120 t121 _ ?side1 ?side2 A28.out).mono ?_); (case side1 => repeat (first | exact (Kd.R_reads' HO_8.out).2.2 | (with_reducible refine Kd.C_alloc ?_ _) | (with_reducible refine Kd.C_drewN ?_ _) | (with_reducible refine Kd.C_drew ?_))); (case side2 => exact (Kd.R_reads' HO_8.out).2.1); rintro e w67 ⟨v122, rfl, ho0, hb⟩; refine ⟨_, rfl, ?_⟩; have n0_ := Aside0.mk (Kd.R_below (by (with_reducible repeat (first | apply Kd.R_alloc | apply Kd.R_drewN | apply Kd.R_drew)); exact HO_8.out) hb); have n1_ := Aside0.mk (Kd.R_lower ho0 (below_size (by repeat (first | (with_reducible first | exact HB.out | apply below_alloc | apply pw_below_drewN | apply below_drew1) | exact HB.out)))); have n2_ := Aside0.mk (below_step (by repeat (first | (with_reducible first | exact HB.out | apply below_alloc | apply pw_below_drewN | apply below_drew1) | exact HB.out)) hb); clear HO_8; clear HB; have HO_8 := n0_; have HO123 := n1_; have HB := n2_; clear n0_ n1_ n2_; (try clear hb); (try clear hb2); (try clear hk); (try clear hi); (try clear ho0)) | ((with_reducible refine gate_callee (f := 11) rfl ?_); refine goesL_ (some 79) rfl rfl Try.func11 (by kernel_rfl) rfl #[.int .i64 t121] rfl (by (try simp only [List.map_toArray, List.map_cons, List.map_nil]); first | done | rfl | (simp only [List.length_drop, List.length_take]; rfl)) ?_; (with_reducible refine (lockgatelaw6_num.calls t121 t124 _ A29.out).mono ?_); rintro e w' ⟨rfl, ⟨nd, rfl⟩⟩; refine ⟨_, rfl, ?_⟩; (try (rw [drewN_self w67]; generalize hq_ : World.drewN w67 _ = w67; have n0_ : Aside0 (Kd.R (Kd.int .u8) 5 w67 w.heap.size (fun _ => True) v122 t120) := ⟨by rw [← hq_]; exact (by (with_reducible repeat (first | apply Kd.R_alloc | apply Kd.R_drewN | apply Kd.R_drew)); exact HO123.out)⟩; have n1_ : Aside0 (Kd.R k28 28 w67 w.heap.size (fun _ => True) (.slice Ao66 x8_2.length co66) x8_2) := ⟨by rw [← hq_]; exact (by (with_reducible repeat (first | apply Kd.R_alloc | apply Kd.R_drewN | apply Kd.R_drew)); exact HO_8.out)⟩; have n2_ : Aside0 (Below w.heap.size w w67) := ⟨by rw [← hq_]; exact (by repeat (first | (with_reducible first | exact HB.out | apply below_alloc | apply pw_below_drewN | apply below_drew1) | exact HB.out))⟩; clear HO123 HO_8 HB hq_; have HO123 := n0_; have HO_8 := n1_; have HB := n2_; clear n0_ n1_ n2_)); obtain ⟨Ao68, co68, eo68⟩ := Kd.R_slice HO123.out; subst eo68; have p125 : 0 ≤ ((ji31) : Int) := of_decide_eq_true (by first | (with_reducible assumption) | assumption); have q125 : (ji31) < (t120.length : Int) := of_decide_eq_true (by first | (with_reducible assumption) | assumption); obtain ⟨ad125, e125, hx125_0⟩ := Kd.at_int (Kd.R_reads' HO123.out).2.2 (ji31) p125 q125; cases e125; replace p125 := eq_true p125; replace q125 := eq_true q125; have p34 : 0 ≤ ((ji31) : Int) := of_decide_eq_true (by first | (with_reducible assumption) | assumption); have q34 : ((ji31) : Int) < ((t120.length : Int) : Int) := of_decide_eq_true (by first | (with_reducible assumption) | assumption); obtain ⟨go34, co34, eo34, gb34, gl34, cl34, HG34⟩ := Kd.R_form HO123.out (by omega); (first | cases eo34 | (injection eo34 with ea_ en_ ec_; (first | subst ea_ | (injection ea_ with ea_; subst ea_)); subst ec_; clear en_)); have GB34 := Aside0.mk gb34; have GG34 := Aside0.mk HG34; clear gb34 gl34 HG34; (first | simp only [add_plain] at hx125_0 | skip); obtain ⟨hx34_0, hf34_0⟩ := Kd.R_celln 0 HO123.out ((ji31) : Int) p34 q34; replace p34 := eq_true p34; replace q34 := eq_true q34; obtain ⟨hy69_, hz69_⟩ := Kd.R_celln 0 HO123.out ((ji31) : Int) (of_decide_eq_true (by first | (with_reducible assumption) | assumption)) (of_decide_eq_true (by first | (with_reducible assumption) | assumption)); have HP69 := Kd.R_putg HO123.out ((ji31) : Int) (Go.bits .xor .u8 (rd t120 (ji31)) a2)) | ((with_reducible refine gate_store (t := 5) (p := 96) rfl ?_); refine store_event (t := 5) (p := 96) (v := ?vo_w70) (w1 := (w67.setCell ⟨go34, ((ji31) : Int).toNat, none⟩ (.int .u8 (Go.bits .xor .u8 (rd t120 (ji31)) a2)))) ?hg ?ho ?hn ?hr ?_; (case ho => rfl); (case hg => rfl); (case hn => rfl); (case hr => first | (go_simp; done) | (go_simp; rfl)); intro w70 hw; have hg : w67.grownBy w70 (some go34) := (by rw [hw]; exact HP69.2); have hp_ : Kd.R (Kd.int .u8) 5 w70 w.heap.size (fun _ => True) (.slice (some ⟨go34, 0, none⟩) t120.length co68) y126 := (by rw [hw, Ny126.out]; exact HP69.1); clear HP69; have n0_ := Aside0.mk (Kd.R_over' (v := (.slice (some ⟨go34, 0, none⟩) t120.length co68)) (by (with_reducible repeat (first | apply Kd.R_alloc | apply Kd.R_drewN | apply Kd.R_drew)); exact HO_8.out) (Kd.R_typed HO123.out) (by decide) hg); have n1_ := Aside0.mk (hp_); have n2_ := Aside0.mk ((by rw [hw]; exact below_set (HB.out) GB34.out : Below w.heap.size w w70)); clear HO_8; clear HO123; clear HB; have HO_8 := n0_; have HO123 := n1_; have HB := n2_; clear n0_ n1_ n2_; clear hg hw hp_) | ((with_reducible refine gate_callee (f := 17) rfl ?_); refine goesL_ (some 98) rfl rfl Try.func17 (by kernel_rfl) rfl #[.slice (some ⟨go34, 0, none⟩) y126.length co68] rfl (by (try simp only [List.map_toArray, List.map_cons, List.map_nil]); first | done | (rw [show y126.length = t120.length from (Kd.R_reads' HO123.out).1.symm] <;> rfl) | rfl | (simp only [List.length_drop, List.length_take]; rfl)) ?_; (with_reducible refine (entry_Block.calls _ _ y126 t127 _ ?side1 ?side2 A35.out).mono ?_); (case side1 => repeat (first | exact (Kd.R_reads' HO123.out).2.2 | (with_reducible refine Kd.C_alloc ?_ _) | (with_reducible refine Kd.C_drewN ?_ _) | (with_reducible refine Kd.C_drew ?_))); (case side2 => rw [show y126.length = t120.length from (Kd.R_reads' HO123.out).1.symm]; exact (Kd.R_reads' HO123.out).2.1); rintro e w71 ⟨v128, rfl, ho0, hb⟩; refine ⟨_, rfl, ?_⟩; have n0_ := Aside0.mk (Kd.R_elder' (by (with_reducible repeat (first | apply Kd.R_alloc | apply Kd.R_drewN | apply Kd.R_drew)); exact HO_8.out) (Kd.R_base ho0) hb); have n1_ := Aside0.mk (Kd.R_below (by (with_reducible repeat (first | apply Kd.R_alloc | apply Kd.R_drewN | apply Kd.R_drew)); exact HO123.out) hb); have n2_ := Aside0.mk (Kd.R_lower (Kd.R_new' ho0 (Kd.R_lt (by (with_reducible repeat (first | apply Kd.R_alloc | apply Kd.R_drewN | apply Kd.R_drew)); exact HO_8.out))) (below_size (by repeat (first | (with_reducible first | exact HB.out | apply below_alloc | apply pw_below_drewN | apply below_drew1) | exact HB.out)))); have n3_ := Aside0.mk (below_step (by repeat (first | (with_reducible first | exact HB.out | apply below_alloc | apply pw_below_drewN | apply below_drew1) | exact HB.out)) hb); clear HO_8; clear HO123; clear HB; have HO_8 := n0_; have HO123 := n1_; have HO129 := n2_; have HB := n3_; clear n0_ n1_ n2_ n3_; (try clear hb); (try clear hb2); (try clear hk); (try clear hi); (try clear ho0); obtain ⟨Ao72, co72, eo72⟩ := Kd.R_slice HO129.out; subst eo72))
                      go_ret
                      exact ⟨by first | rfl | (simp [errW_none, errW_some] <;> rfl) | (simp only [← hji31]; first | rfl | (simp [errW_none, errW_some] <;> rfl)) | (simp [*, errW_none, errW_some] <;> rfl), by repeat (first | (with_reducible first | exact HB.out | apply below_alloc | apply pw_below_drewN | apply below_drew1) | exact HB.out)⟩
                  · rw [if_neg c33] at H
                    exact absurd H (by simp)
                · rw [if_neg c32] at H
                  exact absurd H (by simp)
              · rw [if_neg c30] at H
                have c30b0 : (t124 == 0) = false := beq_eq_false_iff_ne.mpr c30
                have c30b1 : (t124 != 0) = true := bne_iff_ne.mpr c30
                obtain rfl := Option.some.inj H
                obtain ⟨Ao73, co73, eo73⟩ := Kd.R_slice HO_8.out
                subst eo73
                go_wp2_with (first | ((with_reducible refine gate_callee (f := 16) rfl ?_); refine goesL_ (some 75) rfl rfl Try.func16 (by kernel_rfl) rfl #[.slice Ao73 x8_2.length co73] rfl (by (try simp only [List.map_toArray, List.map_cons, List.map_nil]); first | done | rfl | (simp only [List.length_drop, List.length_take]; rfl)) ?_; (with_reducible refine (entry_PackBlock.calls k2 _ _ x8_2 t120 t121 _ ?side1 ?side2 A28.out).mono ?_); (case side1 => repeat (first | exact (Kd.R_reads' HO_8.out).2.2 | (with_reducible refine Kd.C_alloc ?_ _) | (with_reducible refine Kd.C_drewN ?_ _) | (with_reducible refine Kd.C_drew ?_))); (case side2 => exact (Kd.R_reads' HO_8.out).2.1); rintro e w74 ⟨v122, rfl, ho0, hb⟩; refine ⟨_, rfl, ?_⟩; have n0_ := Aside0.mk (Kd.R_below (by (with_reducible repeat (first | apply Kd.R_alloc | apply Kd.R_drewN | apply Kd.R_drew)); exact HO_8.out) hb); have n1_ := Aside0.mk (Kd.R_lower ho0 (below_size (by repeat (first | (with_reducible first | exact HB.out | apply below_alloc | apply pw_below_drewN | apply below_drew1) | exact HB.out)))); have n2_ := Aside0.mk (below_step (by repeat (first | (with_reducible first | exact HB.out | apply below_alloc | apply pw_below_drewN | apply below_drew1) | exact HB.out)) hb); clear HO_8; clear HB; have HO_8 := n0_; have HO123 := n1_; have HB := n2_; clear n0_ n1_ n2_; (try clear hb); (try clear hb2); (try clear hk); (try clear hi); (try clear ho0)) | ((with_reducible refine gate_callee (f := 11) rfl ?_); refine goesL_ (some 79) rfl rfl Try.func11 (by kernel_rfl) rfl #[.int .i64 t121] rfl (by (try simp only [List.map_toArray, List.map_cons, List.map_nil]); first | done | rfl | (simp only [List.length_drop, List.length_take]; rfl)) ?_; (with_reducible refine (lockgatelaw6_num.calls t121 t124 _ A29.out).mono ?_); rintro e w' ⟨rfl, ⟨nd, rfl⟩⟩; refine ⟨_, rfl, ?_⟩))
                go_ret
                exact ⟨by first | rfl | (simp [errW_none, errW_some] <;> rfl) | (simp [*, errW_none, errW_some] <;> rfl), by repeat (first | (with_reducible first | exact HB.out | apply below_alloc | apply pw_below_drewN | apply below_drew1) | exact HB.out)⟩

/-- THE ONE PURE STATEMENT of lockgatelaw6_EntrySpoilt: yours. -/
def lockgatelaw6_EntrySpoilt.Pure : Prop := ∀ (l0 : List Int) (a1 : Int) (a2 : Int), l0.length ≤ maxLen → l0.length * 8 ≤ 140737488351232 → (∀ x ∈ l0, (Lit.int .i64 x).wf = true) → (Lit.int .i64 a1).wf = true → (Lit.int .u8 a2).wf = true → ∃ k, lockgatelaw6_EntrySpoilt.f k l0 a1 a2 = some true
theorem lockgatelaw6_EntrySpoilt.walk (P : lockgatelaw6_EntrySpoilt.Pure) (a0 : Option Addr) (len0 cap0 : Nat) (z0 : List Int) (a1 : Int) (a2 : Int) (w : World) (w0 : (a0 = none ∧ len0 = 0 ∧ cap0 = 0 ∧ z0 = []) ∨ ∃ x, a0 = some x ∧ len0 ≤ cap0 ∧ cap0 ≤ maxLen ∧ z0.length = cap0 ∧ (∀ i, i < z0.length → w.cell? (x.add i) = some (.int .i64 (z0.getD i 0))) ∧ ∀ n ∈ z0, (Lit.int .i64 n).wf = true) (y0 : len0 * 8 ≤ 140737488351232) (w1 : (Lit.int .i64 a1).wf = true) (w2 : (Lit.int .u8 a2).wf = true) :
    Calls Try.prog 6 #[.slice a0 len0 cap0, .int .i64 a1, .int .u8 a2] w fun e w' => e = .returned (.bool true) ∧ Below w.heap.size w w' := by
  obtain ⟨l0, rfl, hr0, hm0, hw0, hc0⟩ := ReadsInt.ofRowC w0
  obtain ⟨k, h⟩ := P l0 a1 a2 hm0 y0 hw0 w1 w2
  refine (lockgatelaw6_EntrySpoilt.calls k _ _ l0 a1 a2 true w (Kd.C_of_reads (d := (0 : Int)) (h1 := fun _ => rfl) hr0) hc0 h).mono ?_
  rintro e w' ⟨rfl, hd⟩
  exact ⟨rfl, hd⟩

end Go.Proofs.Ythhhklihggpldaa.PEntrySpoilt
