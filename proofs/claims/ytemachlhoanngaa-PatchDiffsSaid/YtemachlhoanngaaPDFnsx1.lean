-- written by the session's program wip/print/patch.py (a turned copy of the print) over contracts that the session proved by hand
import Derived.Test.YtemachlhoanngaaPDFnsx0
namespace Go.Proofs.Ytemachlhoanngaa.PDFns
open Go.Proofs.Ytemachlhoanngaa.Given
open Go.RowKit Go.Proofs.YtemachlhoanngaaW.PrintWords Go.Proofs.YtemachlhoanngaaW.PrintLast Go.Proofs.YtemachlhoanngaaW.PrintMore
attribute [local go_sem] max2_int min2_int max_two min_two max_three min_three max_four min_four   -- for this text's walks alone
set_option linter.unusedVariables false
set_option linter.unusedSimpArgs false

-- NOT PRINTED: function 12 (patch_Diff)

/-! ### lockgatelaw14_same: function 13 -/
def lockgatelaw14_same.l0 : Nat → List (S24) → List (S24) → Int → Option (Bool)
  | 0, _, _, _ => none
  | k + 1, x0, x1, x5 => if x5 < (x0.length : Int) then (if 0 ≤ x5 then (if x5 < (x1.length : Int) then (if ((rd_T24 x0 x5).f0) = ((rd_T24 x1 x5).f0) then (if ((rd_T24 x0 x5).f1) = ((rd_T24 x1 x5).f1) then (if (strOfNums ((rd_T24 x0 x5).f2)).toList = (strOfNums ((rd_T24 x1 x5).f2)).toList then (lockgatelaw14_same.l0 k x0 x1 (wrap64 (x5 + 1))) else (some false)) else (some false)) else (some false)) else (none)) else (none)) else (some true)
def lockgatelaw14_same.f (k : Nat) (l0 : List (S24)) (l1 : List (S24)) : Option (Bool) := if (l0.length : Int) = (l1.length : Int) then (lockgatelaw14_same.l0 k l0 l1 0) else (some false)
theorem lockgatelaw14_same.mono_l : ∀ k, (∀ y0 y1 y2, LeO (lockgatelaw14_same.l0 k y0 y1 y2) (lockgatelaw14_same.l0 (k + 1) y0 y1 y2))
  | 0 => fun _ _ _ r h => by simp [lockgatelaw14_same.l0] at h
  | k + 1 => by
    have ih0 := lockgatelaw14_same.mono_l k
    · intro y0 y1 y2
      unfold lockgatelaw14_same.l0
      repeat' first
      | (with_reducible exact ih0 _ _ _)
      | (with_reducible exact LeO.refl _)
      | (with_reducible exact LeO.none _)
      | (with_reducible refine LeO.ite ?_ ?_)
      | (with_reducible refine LeO.bind ?_ (fun _ => ?_))
      | exact ih0 _ _ _
      | exact LeO.none _
      | refine LeO.ite ?_ ?_
      | refine LeO.bind ?_ (fun _ => ?_)
theorem lockgatelaw14_same.mono : ∀ a0 a1 k, LeO (lockgatelaw14_same.f k a0 a1) (lockgatelaw14_same.f (k + 1) a0 a1) := by
  intro a0 a1 k
  have ih0 := lockgatelaw14_same.mono_l k
  unfold lockgatelaw14_same.f
  repeat' first
      | (with_reducible exact ih0 _ _ _)
      | (with_reducible exact LeO.refl _)
      | (with_reducible exact LeO.none _)
      | (with_reducible refine LeO.ite ?_ ?_)
      | (with_reducible refine LeO.bind ?_ (fun _ => ?_))
      | exact ih0 _ _ _
      | exact LeO.none _
      | refine LeO.ite ?_ ?_
      | refine LeO.bind ?_ (fun _ => ?_)
set_option maxHeartbeats 8000000 in
set_option maxRecDepth 100000 in
theorem lockgatelaw14_same.calls (k : Nat) (A0 : Option Addr) (c0 : Nat) (l0 : List (S24)) (A1 : Option Addr) (c1 : Nat) (l1 : List (S24)) (r : Bool) (w : World) (hr0 : Kd.C k24 w A0 l0.length l0) (hc0 : l0.length ≤ c0) (hr1 : Kd.C k24 w A1 l1.length l1) (hc1 : l1.length ≤ c1) (h : lockgatelaw14_same.f k l0 l1 = some r) :
    Calls Try.prog 13 #[.slice A0 l0.length c0, .slice A1 l1.length c1] w fun e w' => e = .returned (.bool r) ∧ Drawn0 w w' := by
  have HR0 := Aside0.mk hr0
  have HC0 := Aside0.mk hc0
  clear hr0 hc0
  have HR1 := Aside0.mk hr1
  have HC1 := Aside0.mk hc1
  clear hr1 hc1
  have H : (if (l0.length : Int) = (l1.length : Int) then (lockgatelaw14_same.l0 k l0 l1 0) else (some false)) = some r := h
  clear h
  by_cases c3 : (l0.length : Int) = (l1.length : Int)
  · rw [if_pos c3] at H
    have c3b0 : ((l0.length : Int) == (l1.length : Int)) = true := beq_iff_eq.mpr c3
    have c3b1 : ((l0.length : Int) != (l1.length : Int)) = false := bne_eq_false_iff_eq.mpr c3
    have c3b2 : (l0.length == l1.length) = true := by first | simpa using c3 | (simp at c3 ⊢; omega)
    clear c3
    have H' := Aside0.mk H
    clear H
    go_enter Try.func13, Try.ntmps13
    go_wp2
    repeat (go_quiet (fail); try go_wp2)
    go_loopg [5] k (fun kq v5 w' => ∃ (x5_1 : Int), v5 = .int .i64 x5_1 ∧ Aside0 (lockgatelaw14_same.l0 kq l0 l1 x5_1 = some r) ∧ Aside0 (kq ≤ k) ∧ Drawn0 w w')
    case atStart => exact ⟨(0), (by first | rfl | (simp; done) | (simp [*]; done)), H', ⟨Nat.le_refl _⟩, by repeat (first | exact Drawn0.refl _ | apply Drawn0.step)⟩
    case round =>
      clear H'
      try clear c1
      try clear p2
      try clear c3
      try clear c3b0
      try clear c3b1
      try clear c3b2
      obtain ⟨x5_1, rfl, HA, HK1, ⟨m1, rfl⟩⟩ := hrel
      cases gk with
      | zero => exact absurd HA.out (by simp [lockgatelaw14_same.l0])
      | succ k1 =>
        have H := HA.out
        clear HA
        simp only [lockgatelaw14_same.l0] at H
        by_cases c4 : x5_1 < (l0.length : Int)
        · rw [if_pos c4] at H
          have c4b0 : decide (x5_1 < (l0.length : Int)) = true := decide_eq_true c4
          clear c4
          by_cases c5 : 0 ≤ x5_1
          · rw [if_pos c5] at H
            have c5b0 : decide (0 ≤ x5_1) = true := decide_eq_true c5
            clear c5
            by_cases c6 : x5_1 < (l1.length : Int)
            · rw [if_pos c6] at H
              have c6b0 : decide (x5_1 < (l1.length : Int)) = true := decide_eq_true c6
              clear c6
              by_cases c7 : ((rd_T24 l0 x5_1).f0) = ((rd_T24 l1 x5_1).f0)
              · rw [if_pos c7] at H
                have c7b0 : (((rd_T24 l0 x5_1).f0) == ((rd_T24 l1 x5_1).f0)) = true := beq_iff_eq.mpr c7
                have c7b1 : (((rd_T24 l0 x5_1).f0) != ((rd_T24 l1 x5_1).f0)) = false := bne_eq_false_iff_eq.mpr c7
                clear c7
                by_cases c8 : ((rd_T24 l0 x5_1).f1) = ((rd_T24 l1 x5_1).f1)
                · rw [if_pos c8] at H
                  have c8b0 : (((rd_T24 l0 x5_1).f1) == ((rd_T24 l1 x5_1).f1)) = true := beq_iff_eq.mpr c8
                  have c8b1 : (((rd_T24 l0 x5_1).f1) != ((rd_T24 l1 x5_1).f1)) = false := bne_eq_false_iff_eq.mpr c8
                  clear c8
                  by_cases c9 : (strOfNums ((rd_T24 l0 x5_1).f2)).toList = (strOfNums ((rd_T24 l1 x5_1).f2)).toList
                  · rw [if_pos c9] at H
                    have c9b0 : ((strOfNums ((rd_T24 l0 x5_1).f2)).toList == (strOfNums ((rd_T24 l1 x5_1).f2)).toList) = true := beq_iff_eq.mpr c9
                    have c9b1 : ((strOfNums ((rd_T24 l0 x5_1).f2)).toList != (strOfNums ((rd_T24 l1 x5_1).f2)).toList) = false := bne_eq_false_iff_eq.mpr c9
                    clear c9
                    have H' := Aside0.mk H
                    clear H
                    have p104 : 0 ≤ (x5_1 : Int) := of_decide_eq_true (by first | (with_reducible assumption) | assumption)
                    have q104 : x5_1 < (l0.length : Int) := of_decide_eq_true (by first | (with_reducible assumption) | assumption)
                    obtain ⟨ad104, A104_2, c104_2, e104, hx104_0, hx104_1, hx104_2, hl104_2, hi104_2⟩ := at_T24 HR0.out x5_1 p104 q104
                    cases e104
                    have HR104_2 := Aside0.mk hi104_2
                    have HC104_2 := Aside0.mk hl104_2
                    clear hi104_2 hl104_2
                    replace p104 := eq_true p104
                    replace q104 := eq_true q104
                    have p105 : 0 ≤ (x5_1 : Int) := of_decide_eq_true (by first | (with_reducible assumption) | assumption)
                    have q105 : x5_1 < (l1.length : Int) := of_decide_eq_true (by first | (with_reducible assumption) | assumption)
                    obtain ⟨ad105, A105_2, c105_2, e105, hx105_0, hx105_1, hx105_2, hl105_2, hi105_2⟩ := at_T24 HR1.out x5_1 p105 q105
                    cases e105
                    have HR105_2 := Aside0.mk hi105_2
                    have HC105_2 := Aside0.mk hl105_2
                    clear hi105_2 hl105_2
                    replace p105 := eq_true p105
                    replace q105 := eq_true q105
                    have p106 : 0 ≤ (x5_1 : Int) := of_decide_eq_true (by first | (with_reducible assumption) | assumption)
                    have q106 : x5_1 < (l0.length : Int) := of_decide_eq_true (by first | (with_reducible assumption) | assumption)
                    obtain ⟨ad106, A106_2, c106_2, e106, hx106_0, hx106_1, hx106_2, hl106_2, hi106_2⟩ := at_T24 HR0.out x5_1 p106 q106
                    obtain rfl : ad104 = ad106 := (by injection e106)
                    have HR106_2 := Aside0.mk hi106_2
                    have HC106_2 := Aside0.mk hl106_2
                    clear hi106_2 hl106_2
                    replace p106 := eq_true p106
                    replace q106 := eq_true q106
                    have ea_ := Option.some.inj (hx104_2.symm.trans hx106_2)
                    injection ea_ with ea_ en_ ec_
                    subst ea_
                    subst ec_
                    clear en_
                    have p107 : 0 ≤ (x5_1 : Int) := of_decide_eq_true (by first | (with_reducible assumption) | assumption)
                    have q107 : x5_1 < (l1.length : Int) := of_decide_eq_true (by first | (with_reducible assumption) | assumption)
                    obtain ⟨ad107, A107_2, c107_2, e107, hx107_0, hx107_1, hx107_2, hl107_2, hi107_2⟩ := at_T24 HR1.out x5_1 p107 q107
                    obtain rfl : ad105 = ad107 := (by injection e107)
                    have HR107_2 := Aside0.mk hi107_2
                    have HC107_2 := Aside0.mk hl107_2
                    clear hi107_2 hl107_2
                    replace p107 := eq_true p107
                    replace q107 := eq_true q107
                    have ea_ := Option.some.inj (hx105_2.symm.trans hx107_2)
                    injection ea_ with ea_ en_ ec_
                    subst ea_
                    subst ec_
                    clear en_
                    have p108 : 0 ≤ (x5_1 : Int) := of_decide_eq_true (by first | (with_reducible assumption) | assumption)
                    have q108 : x5_1 < (l0.length : Int) := of_decide_eq_true (by first | (with_reducible assumption) | assumption)
                    obtain ⟨ad108, A108_2, c108_2, e108, hx108_0, hx108_1, hx108_2, hl108_2, hi108_2⟩ := at_T24 HR0.out x5_1 p108 q108
                    obtain rfl : ad104 = ad108 := (by injection e108)
                    have HR108_2 := Aside0.mk hi108_2
                    have HC108_2 := Aside0.mk hl108_2
                    clear hi108_2 hl108_2
                    replace p108 := eq_true p108
                    replace q108 := eq_true q108
                    have ea_ := Option.some.inj (hx104_2.symm.trans hx108_2)
                    injection ea_ with ea_ en_ ec_
                    subst ea_
                    subst ec_
                    clear en_
                    have hcv10 := Kd.C_string (P := Try.prog) (A := A104_2) (c := c104_2) Try.underlying22 Try.underlying5 Try.underlying9 HR108_2.out
                    have hcvq10 := fun n_ : Nat => Kd.C_string (P := Try.prog) (A := A104_2) (c := c104_2) Try.underlying22 Try.underlying5 Try.underlying9 (Kd.C_drewN HR108_2.out n_)
                    have hcvr10 := fun n_ : Nat => Kd.C_string (P := Try.prog) (A := A104_2) (c := c104_2) Try.underlying22 Try.underlying5 Try.underlying9 (Kd.C_drewN (Kd.C_drewN HR108_2.out m1) n_)
                    have p109 : 0 ≤ (x5_1 : Int) := of_decide_eq_true (by first | (with_reducible assumption) | assumption)
                    have q109 : x5_1 < (l1.length : Int) := of_decide_eq_true (by first | (with_reducible assumption) | assumption)
                    obtain ⟨ad109, A109_2, c109_2, e109, hx109_0, hx109_1, hx109_2, hl109_2, hi109_2⟩ := at_T24 HR1.out x5_1 p109 q109
                    obtain rfl : ad105 = ad109 := (by injection e109)
                    have HR109_2 := Aside0.mk hi109_2
                    have HC109_2 := Aside0.mk hl109_2
                    clear hi109_2 hl109_2
                    replace p109 := eq_true p109
                    replace q109 := eq_true q109
                    have ea_ := Option.some.inj (hx105_2.symm.trans hx109_2)
                    injection ea_ with ea_ en_ ec_
                    subst ea_
                    subst ec_
                    clear en_
                    have hcv11 := Kd.C_string (P := Try.prog) (A := A105_2) (c := c105_2) Try.underlying22 Try.underlying5 Try.underlying9 HR109_2.out
                    have hcvq11 := fun n_ : Nat => Kd.C_string (P := Try.prog) (A := A105_2) (c := c105_2) Try.underlying22 Try.underlying5 Try.underlying9 (Kd.C_drewN HR109_2.out n_)
                    have hcvr11 := fun n_ : Nat => Kd.C_string (P := Try.prog) (A := A105_2) (c := c105_2) Try.underlying22 Try.underlying5 Try.underlying9 (Kd.C_drewN (Kd.C_drewN HR109_2.out m1) n_)
                    go_wp2
                    repeat (go_quiet (fail); try go_wp2)
                    go_roundg k1
                    case measure => have := HK1.out; omega
                    case rel => exact ⟨(wrap64 (x5_1 + 1)), (by first | rfl | (simp; done) | (simp [*]; done)), H', ⟨by have := HK1.out; omega⟩, by repeat (first | exact Drawn0.refl _ | apply Drawn0.step)⟩
                  · rw [if_neg c9] at H
                    have c9b0 : ((strOfNums ((rd_T24 l0 x5_1).f2)).toList == (strOfNums ((rd_T24 l1 x5_1).f2)).toList) = false := beq_eq_false_iff_ne.mpr c9
                    have c9b1 : ((strOfNums ((rd_T24 l0 x5_1).f2)).toList != (strOfNums ((rd_T24 l1 x5_1).f2)).toList) = true := bne_iff_ne.mpr c9
                    obtain rfl := Option.some.inj H
                    have p104 : 0 ≤ (x5_1 : Int) := of_decide_eq_true (by first | (with_reducible assumption) | assumption)
                    have q104 : x5_1 < (l0.length : Int) := of_decide_eq_true (by first | (with_reducible assumption) | assumption)
                    obtain ⟨ad104, A104_2, c104_2, e104, hx104_0, hx104_1, hx104_2, hl104_2, hi104_2⟩ := at_T24 HR0.out x5_1 p104 q104
                    cases e104
                    have HR104_2 := Aside0.mk hi104_2
                    have HC104_2 := Aside0.mk hl104_2
                    clear hi104_2 hl104_2
                    replace p104 := eq_true p104
                    replace q104 := eq_true q104
                    have p105 : 0 ≤ (x5_1 : Int) := of_decide_eq_true (by first | (with_reducible assumption) | assumption)
                    have q105 : x5_1 < (l1.length : Int) := of_decide_eq_true (by first | (with_reducible assumption) | assumption)
                    obtain ⟨ad105, A105_2, c105_2, e105, hx105_0, hx105_1, hx105_2, hl105_2, hi105_2⟩ := at_T24 HR1.out x5_1 p105 q105
                    cases e105
                    have HR105_2 := Aside0.mk hi105_2
                    have HC105_2 := Aside0.mk hl105_2
                    clear hi105_2 hl105_2
                    replace p105 := eq_true p105
                    replace q105 := eq_true q105
                    have p106 : 0 ≤ (x5_1 : Int) := of_decide_eq_true (by first | (with_reducible assumption) | assumption)
                    have q106 : x5_1 < (l0.length : Int) := of_decide_eq_true (by first | (with_reducible assumption) | assumption)
                    obtain ⟨ad106, A106_2, c106_2, e106, hx106_0, hx106_1, hx106_2, hl106_2, hi106_2⟩ := at_T24 HR0.out x5_1 p106 q106
                    obtain rfl : ad104 = ad106 := (by injection e106)
                    have HR106_2 := Aside0.mk hi106_2
                    have HC106_2 := Aside0.mk hl106_2
                    clear hi106_2 hl106_2
                    replace p106 := eq_true p106
                    replace q106 := eq_true q106
                    have ea_ := Option.some.inj (hx104_2.symm.trans hx106_2)
                    injection ea_ with ea_ en_ ec_
                    subst ea_
                    subst ec_
                    clear en_
                    have p107 : 0 ≤ (x5_1 : Int) := of_decide_eq_true (by first | (with_reducible assumption) | assumption)
                    have q107 : x5_1 < (l1.length : Int) := of_decide_eq_true (by first | (with_reducible assumption) | assumption)
                    obtain ⟨ad107, A107_2, c107_2, e107, hx107_0, hx107_1, hx107_2, hl107_2, hi107_2⟩ := at_T24 HR1.out x5_1 p107 q107
                    obtain rfl : ad105 = ad107 := (by injection e107)
                    have HR107_2 := Aside0.mk hi107_2
                    have HC107_2 := Aside0.mk hl107_2
                    clear hi107_2 hl107_2
                    replace p107 := eq_true p107
                    replace q107 := eq_true q107
                    have ea_ := Option.some.inj (hx105_2.symm.trans hx107_2)
                    injection ea_ with ea_ en_ ec_
                    subst ea_
                    subst ec_
                    clear en_
                    have p108 : 0 ≤ (x5_1 : Int) := of_decide_eq_true (by first | (with_reducible assumption) | assumption)
                    have q108 : x5_1 < (l0.length : Int) := of_decide_eq_true (by first | (with_reducible assumption) | assumption)
                    obtain ⟨ad108, A108_2, c108_2, e108, hx108_0, hx108_1, hx108_2, hl108_2, hi108_2⟩ := at_T24 HR0.out x5_1 p108 q108
                    obtain rfl : ad104 = ad108 := (by injection e108)
                    have HR108_2 := Aside0.mk hi108_2
                    have HC108_2 := Aside0.mk hl108_2
                    clear hi108_2 hl108_2
                    replace p108 := eq_true p108
                    replace q108 := eq_true q108
                    have ea_ := Option.some.inj (hx104_2.symm.trans hx108_2)
                    injection ea_ with ea_ en_ ec_
                    subst ea_
                    subst ec_
                    clear en_
                    have hcv12 := Kd.C_string (P := Try.prog) (A := A104_2) (c := c104_2) Try.underlying22 Try.underlying5 Try.underlying9 HR108_2.out
                    have hcvq12 := fun n_ : Nat => Kd.C_string (P := Try.prog) (A := A104_2) (c := c104_2) Try.underlying22 Try.underlying5 Try.underlying9 (Kd.C_drewN HR108_2.out n_)
                    have hcvr12 := fun n_ : Nat => Kd.C_string (P := Try.prog) (A := A104_2) (c := c104_2) Try.underlying22 Try.underlying5 Try.underlying9 (Kd.C_drewN (Kd.C_drewN HR108_2.out m1) n_)
                    have p109 : 0 ≤ (x5_1 : Int) := of_decide_eq_true (by first | (with_reducible assumption) | assumption)
                    have q109 : x5_1 < (l1.length : Int) := of_decide_eq_true (by first | (with_reducible assumption) | assumption)
                    obtain ⟨ad109, A109_2, c109_2, e109, hx109_0, hx109_1, hx109_2, hl109_2, hi109_2⟩ := at_T24 HR1.out x5_1 p109 q109
                    obtain rfl : ad105 = ad109 := (by injection e109)
                    have HR109_2 := Aside0.mk hi109_2
                    have HC109_2 := Aside0.mk hl109_2
                    clear hi109_2 hl109_2
                    replace p109 := eq_true p109
                    replace q109 := eq_true q109
                    have ea_ := Option.some.inj (hx105_2.symm.trans hx109_2)
                    injection ea_ with ea_ en_ ec_
                    subst ea_
                    subst ec_
                    clear en_
                    have hcv13 := Kd.C_string (P := Try.prog) (A := A105_2) (c := c105_2) Try.underlying22 Try.underlying5 Try.underlying9 HR109_2.out
                    have hcvq13 := fun n_ : Nat => Kd.C_string (P := Try.prog) (A := A105_2) (c := c105_2) Try.underlying22 Try.underlying5 Try.underlying9 (Kd.C_drewN HR109_2.out n_)
                    have hcvr13 := fun n_ : Nat => Kd.C_string (P := Try.prog) (A := A105_2) (c := c105_2) Try.underlying22 Try.underlying5 Try.underlying9 (Kd.C_drewN (Kd.C_drewN HR109_2.out m1) n_)
                    go_wp2
                    repeat (go_quiet (fail); try go_wp2)
                    go_ret
                    exact ⟨by first | rfl | (simp; done) | (simp [*]; done), by repeat (first | exact Drawn0.refl _ | apply Drawn0.step)⟩
                · rw [if_neg c8] at H
                  have c8b0 : (((rd_T24 l0 x5_1).f1) == ((rd_T24 l1 x5_1).f1)) = false := beq_eq_false_iff_ne.mpr c8
                  have c8b1 : (((rd_T24 l0 x5_1).f1) != ((rd_T24 l1 x5_1).f1)) = true := bne_iff_ne.mpr c8
                  obtain rfl := Option.some.inj H
                  have p104 : 0 ≤ (x5_1 : Int) := of_decide_eq_true (by first | (with_reducible assumption) | assumption)
                  have q104 : x5_1 < (l0.length : Int) := of_decide_eq_true (by first | (with_reducible assumption) | assumption)
                  obtain ⟨ad104, A104_2, c104_2, e104, hx104_0, hx104_1, hx104_2, hl104_2, hi104_2⟩ := at_T24 HR0.out x5_1 p104 q104
                  cases e104
                  have HR104_2 := Aside0.mk hi104_2
                  have HC104_2 := Aside0.mk hl104_2
                  clear hi104_2 hl104_2
                  replace p104 := eq_true p104
                  replace q104 := eq_true q104
                  have p105 : 0 ≤ (x5_1 : Int) := of_decide_eq_true (by first | (with_reducible assumption) | assumption)
                  have q105 : x5_1 < (l1.length : Int) := of_decide_eq_true (by first | (with_reducible assumption) | assumption)
                  obtain ⟨ad105, A105_2, c105_2, e105, hx105_0, hx105_1, hx105_2, hl105_2, hi105_2⟩ := at_T24 HR1.out x5_1 p105 q105
                  cases e105
                  have HR105_2 := Aside0.mk hi105_2
                  have HC105_2 := Aside0.mk hl105_2
                  clear hi105_2 hl105_2
                  replace p105 := eq_true p105
                  replace q105 := eq_true q105
                  have p106 : 0 ≤ (x5_1 : Int) := of_decide_eq_true (by first | (with_reducible assumption) | assumption)
                  have q106 : x5_1 < (l0.length : Int) := of_decide_eq_true (by first | (with_reducible assumption) | assumption)
                  obtain ⟨ad106, A106_2, c106_2, e106, hx106_0, hx106_1, hx106_2, hl106_2, hi106_2⟩ := at_T24 HR0.out x5_1 p106 q106
                  obtain rfl : ad104 = ad106 := (by injection e106)
                  have HR106_2 := Aside0.mk hi106_2
                  have HC106_2 := Aside0.mk hl106_2
                  clear hi106_2 hl106_2
                  replace p106 := eq_true p106
                  replace q106 := eq_true q106
                  have ea_ := Option.some.inj (hx104_2.symm.trans hx106_2)
                  injection ea_ with ea_ en_ ec_
                  subst ea_
                  subst ec_
                  clear en_
                  have p107 : 0 ≤ (x5_1 : Int) := of_decide_eq_true (by first | (with_reducible assumption) | assumption)
                  have q107 : x5_1 < (l1.length : Int) := of_decide_eq_true (by first | (with_reducible assumption) | assumption)
                  obtain ⟨ad107, A107_2, c107_2, e107, hx107_0, hx107_1, hx107_2, hl107_2, hi107_2⟩ := at_T24 HR1.out x5_1 p107 q107
                  obtain rfl : ad105 = ad107 := (by injection e107)
                  have HR107_2 := Aside0.mk hi107_2
                  have HC107_2 := Aside0.mk hl107_2
                  clear hi107_2 hl107_2
                  replace p107 := eq_true p107
                  replace q107 := eq_true q107
                  have ea_ := Option.some.inj (hx105_2.symm.trans hx107_2)
                  injection ea_ with ea_ en_ ec_
                  subst ea_
                  subst ec_
                  clear en_
                  go_wp2
                  repeat (go_quiet (fail); try go_wp2)
                  go_ret
                  exact ⟨by first | rfl | (simp; done) | (simp [*]; done), by repeat (first | exact Drawn0.refl _ | apply Drawn0.step)⟩
              · rw [if_neg c7] at H
                have c7b0 : (((rd_T24 l0 x5_1).f0) == ((rd_T24 l1 x5_1).f0)) = false := beq_eq_false_iff_ne.mpr c7
                have c7b1 : (((rd_T24 l0 x5_1).f0) != ((rd_T24 l1 x5_1).f0)) = true := bne_iff_ne.mpr c7
                obtain rfl := Option.some.inj H
                have p104 : 0 ≤ (x5_1 : Int) := of_decide_eq_true (by first | (with_reducible assumption) | assumption)
                have q104 : x5_1 < (l0.length : Int) := of_decide_eq_true (by first | (with_reducible assumption) | assumption)
                obtain ⟨ad104, A104_2, c104_2, e104, hx104_0, hx104_1, hx104_2, hl104_2, hi104_2⟩ := at_T24 HR0.out x5_1 p104 q104
                cases e104
                have HR104_2 := Aside0.mk hi104_2
                have HC104_2 := Aside0.mk hl104_2
                clear hi104_2 hl104_2
                replace p104 := eq_true p104
                replace q104 := eq_true q104
                have p105 : 0 ≤ (x5_1 : Int) := of_decide_eq_true (by first | (with_reducible assumption) | assumption)
                have q105 : x5_1 < (l1.length : Int) := of_decide_eq_true (by first | (with_reducible assumption) | assumption)
                obtain ⟨ad105, A105_2, c105_2, e105, hx105_0, hx105_1, hx105_2, hl105_2, hi105_2⟩ := at_T24 HR1.out x5_1 p105 q105
                cases e105
                have HR105_2 := Aside0.mk hi105_2
                have HC105_2 := Aside0.mk hl105_2
                clear hi105_2 hl105_2
                replace p105 := eq_true p105
                replace q105 := eq_true q105
                go_wp2
                repeat (go_quiet (fail); try go_wp2)
                go_ret
                exact ⟨by first | rfl | (simp; done) | (simp [*]; done), by repeat (first | exact Drawn0.refl _ | apply Drawn0.step)⟩
            · rw [if_neg c6] at H
              exact absurd H (by simp)
          · rw [if_neg c5] at H
            exact absurd H (by simp)
        · rw [if_neg c4] at H
          have c4b0 : decide (x5_1 < (l0.length : Int)) = false := decide_eq_false c4
          clear c4
          obtain rfl := Option.some.inj H
          go_wp2
          repeat (go_quiet (fail); try go_wp2)
          go_ret
          exact ⟨by first | rfl | (simp; done) | (simp [*]; done), by repeat (first | exact Drawn0.refl _ | apply Drawn0.step)⟩
  · rw [if_neg c3] at H
    have c3b0 : ((l0.length : Int) == (l1.length : Int)) = false := beq_eq_false_iff_ne.mpr c3
    have c3b1 : ((l0.length : Int) != (l1.length : Int)) = true := bne_iff_ne.mpr c3
    have c3b2 : (l0.length == l1.length) = false := by first | simpa using c3 | (simp at c3 ⊢; omega)
    obtain rfl := Option.some.inj H
    go_enter Try.func13, Try.ntmps13
    go_wp2
    repeat (go_quiet (fail); try go_wp2)
    go_ret
    exact ⟨by first | rfl | (simp; done) | (simp [*]; done), by repeat (first | exact Drawn0.refl _ | apply Drawn0.step)⟩

end Go.Proofs.Ytemachlhoanngaa.PDFns
