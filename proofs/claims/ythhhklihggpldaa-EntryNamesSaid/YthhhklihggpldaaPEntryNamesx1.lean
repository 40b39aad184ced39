-- written by the session's program wip/print/patch.py (a turned copy of the print) over contracts that the session proved by hand
import Derived.Test.YthhhklihggpldaaPEntryNamesx0
namespace Go.Proofs.Ythhhklihggpldaa.PEntryNames
open Go.Proofs.Ythhhklihggpldaa.Given
open Go.RowKit Go.Proofs.YthhhklihggpldaaW.PrintWords Go.Proofs.YthhhklihggpldaaW.PrintLast Go.Proofs.YthhhklihggpldaaW.PrintMore
attribute [local go_sem] max2_int min2_int max_two min_two max_three min_three max_four min_four   -- for this text's walks alone
set_option linter.unusedVariables false
set_option linter.unusedSimpArgs false

/-! ### lockgatelaw6_num: function 11 -/
def lockgatelaw6_num.f (a0 : Int) : Option (Int) := some a0
set_option maxHeartbeats 8000000 in
set_option maxRecDepth 100000 in
theorem lockgatelaw6_num.calls (a0 : Int) (r : Int) (w : World) (h : lockgatelaw6_num.f a0 = some r) :
    Calls Try.prog 11 #[.int .i64 a0] w fun e w' => e = .returned (.int .i64 r) ∧ Drawn0 w w' := by
  have H : (some a0) = some r := h
  clear h
  obtain rfl := Option.some.inj H
  go_enter Try.func11, Try.ntmps11
  go_wp2
  go_ret
  exact ⟨by first | rfl | (simp; done) | (simp [*]; done), by repeat (first | exact Drawn0.refl _ | apply Drawn0.step)⟩

/-! ### lockgatelaw6_alive: function 8 -/
def lockgatelaw6_alive.f  : Option (Bool) := (entry_Pack.f 1 (⟨#[46]⟩ : ByteArray)).bind fun bt101 => ((lockgatelaw6_num.f bt101.2).bind fun t105 => (if t105 = 0 then (if (bt101.1.length : Int) = 32 then (if 0 < (bt101.1.length : Int) then (if (rd bt101.1 0) = 1 then (if 4 < (bt101.1.length : Int) then (if (rd bt101.1 4) = 1 then (if 5 < (bt101.1.length : Int) then (if (rd bt101.1 5) = 46 then (if 6 < (bt101.1.length : Int) then (some ((rd bt101.1 6) == 0)) else (none)) else (some false)) else (none)) else (some false)) else (none)) else (some false)) else (none)) else (some false)) else (some false)))
set_option maxHeartbeats 8000000 in
set_option maxRecDepth 100000 in
theorem lockgatelaw6_alive.calls  (r : Bool) (w : World) (h : lockgatelaw6_alive.f  = some r) :
    Calls Try.prog 8 #[] w fun e w' => e = .returned (.bool r) ∧ Below w.heap.size w w' := by
  have hu28 := Try.underlying28
  have HB := Aside0.mk (Below.refl w.heap.size w)
  have H : ((entry_Pack.f 1 (⟨#[46]⟩ : ByteArray)).bind fun bt101 => ((lockgatelaw6_num.f bt101.2).bind fun t105 => (if t105 = 0 then (if (bt101.1.length : Int) = 32 then (if 0 < (bt101.1.length : Int) then (if (rd bt101.1 0) = 1 then (if 4 < (bt101.1.length : Int) then (if (rd bt101.1 4) = 1 then (if 5 < (bt101.1.length : Int) then (if (rd bt101.1 5) = 46 then (if 6 < (bt101.1.length : Int) then (some ((rd bt101.1 6) == 0)) else (none)) else (some false)) else (none)) else (some false)) else (none)) else (some false)) else (none)) else (some false)) else (some false)))) = some r := h
  clear h
  replace H := Option.bind_eq_some_iff.mp H
  obtain ⟨⟨t101, t104⟩, A10, H⟩ := H
  replace H : ((lockgatelaw6_num.f t104).bind fun t105 => (if t105 = 0 then (if (t101.length : Int) = 32 then (if 0 < (t101.length : Int) then (if (rd t101 0) = 1 then (if 4 < (t101.length : Int) then (if (rd t101 4) = 1 then (if 5 < (t101.length : Int) then (if (rd t101 5) = 46 then (if 6 < (t101.length : Int) then (some ((rd t101 6) == 0)) else (none)) else (some false)) else (none)) else (some false)) else (none)) else (some false)) else (none)) else (some false)) else (some false))) = some r := H
  have A1 := Aside0.mk A10
  clear A10
  replace H := Option.bind_eq_some_iff.mp H
  obtain ⟨t105, A20, H⟩ := H
  replace H : (if t105 = 0 then (if (t101.length : Int) = 32 then (if 0 < (t101.length : Int) then (if (rd t101 0) = 1 then (if 4 < (t101.length : Int) then (if (rd t101 4) = 1 then (if 5 < (t101.length : Int) then (if (rd t101 5) = 46 then (if 6 < (t101.length : Int) then (some ((rd t101 6) == 0)) else (none)) else (some false)) else (none)) else (some false)) else (none)) else (some false)) else (none)) else (some false)) else (some false)) = some r := H
  have A2 := Aside0.mk A20
  clear A20
  by_cases c3 : t105 = 0
  · rw [if_pos c3] at H
    have c3b0 : (t105 == 0) = true := beq_iff_eq.mpr c3
    have c3b1 : (t105 != 0) = false := bne_eq_false_iff_eq.mpr c3
    clear c3
    by_cases c4 : (t101.length : Int) = 32
    · rw [if_pos c4] at H
      have c4b0 : ((t101.length : Int) == 32) = true := beq_iff_eq.mpr c4
      have c4b1 : ((t101.length : Int) != 32) = false := bne_eq_false_iff_eq.mpr c4
      clear c4
      by_cases c5 : 0 < (t101.length : Int)
      · rw [if_pos c5] at H
        have c5b0 : decide (0 < (t101.length : Int)) = true := decide_eq_true c5
        have c5b1 : decide (0 < t101.length) = true := decide_eq_true (by omega)
        clear c5
        by_cases c6 : (rd t101 0) = 1
        · rw [if_pos c6] at H
          have c6b0 : ((rd t101 0) == 1) = true := beq_iff_eq.mpr c6
          have c6b1 : ((rd t101 0) != 1) = false := bne_eq_false_iff_eq.mpr c6
          clear c6
          by_cases c7 : 4 < (t101.length : Int)
          · rw [if_pos c7] at H
            have c7b0 : decide (4 < (t101.length : Int)) = true := decide_eq_true c7
            have c7b1 : decide (4 < t101.length) = true := decide_eq_true (by omega)
            clear c7
            by_cases c8 : (rd t101 4) = 1
            · rw [if_pos c8] at H
              have c8b0 : ((rd t101 4) == 1) = true := beq_iff_eq.mpr c8
              have c8b1 : ((rd t101 4) != 1) = false := bne_eq_false_iff_eq.mpr c8
              clear c8
              by_cases c9 : 5 < (t101.length : Int)
              · rw [if_pos c9] at H
                have c9b0 : decide (5 < (t101.length : Int)) = true := decide_eq_true c9
                have c9b1 : decide (5 < t101.length) = true := decide_eq_true (by omega)
                clear c9
                by_cases c10 : (rd t101 5) = 46
                · rw [if_pos c10] at H
                  have c10b0 : ((rd t101 5) == 46) = true := beq_iff_eq.mpr c10
                  have c10b1 : ((rd t101 5) != 46) = false := bne_eq_false_iff_eq.mpr c10
                  clear c10
                  by_cases c11 : 6 < (t101.length : Int)
                  · rw [if_pos c11] at H
                    have c11b0 : decide (6 < (t101.length : Int)) = true := decide_eq_true c11
                    have c11b1 : decide (6 < t101.length) = true := decide_eq_true (by omega)
                    clear c11
                    obtain rfl := Option.some.inj H
                    go_enter Try.func8, Try.ntmps8
                    go_wp2_with (first | ((with_reducible refine gate_callee (f := 9) rfl ?_); refine goesL_ (some 5) rfl rfl Try.func9 (by kernel_rfl) rfl #[.agg #[.int .i64 1, .string (⟨#[46]⟩ : ByteArray)]] rfl (by (try simp only [List.map_toArray, List.map_cons, List.map_nil]); first | done | rfl | (simp only [List.length_drop, List.length_take]; rfl)) ?_; (with_reducible refine (entry_Pack.calls 1 (⟨#[46]⟩ : ByteArray) t101 t104 _ A1.out).mono ?_); rintro e w12 ⟨v102, rfl, ho0, hb⟩; refine ⟨_, rfl, ?_⟩; have n0_ := Aside0.mk (Kd.R_lower ho0 (below_size (by repeat (first | (with_reducible first | exact HB.out | apply below_alloc | apply pw_below_drewN | apply below_drew1) | exact HB.out)))); have n1_ := Aside0.mk (below_step (by repeat (first | (with_reducible first | exact HB.out | apply below_alloc | apply pw_below_drewN | apply below_drew1) | exact HB.out)) hb); clear HB; have HO103 := n0_; have HB := n1_; clear n0_ n1_; (try clear hb); (try clear hb2); (try clear hk); (try clear hi); (try clear ho0)) | ((with_reducible refine gate_callee (f := 11) rfl ?_); refine goesL_ (some 9) rfl rfl Try.func11 (by kernel_rfl) rfl #[.int .i64 t104] rfl (by (try simp only [List.map_toArray, List.map_cons, List.map_nil]); first | done | rfl | (simp only [List.length_drop, List.length_take]; rfl)) ?_; (with_reducible refine (lockgatelaw6_num.calls t104 t105 _ A2.out).mono ?_); rintro e w' ⟨rfl, ⟨nd, rfl⟩⟩; refine ⟨_, rfl, ?_⟩; obtain ⟨Ao13, co13, eo13⟩ := Kd.R_slice HO103.out; subst eo13; have p106 : 0 ≤ (0 : Int) := (by omega); have q106 : 0 < (t101.length : Int) := of_decide_eq_true (by first | (with_reducible assumption) | assumption); obtain ⟨ad106, e106, hx106_0⟩ := Kd.at_int (Kd.R_reads' HO103.out).2.2 0 p106 q106; cases e106; have qi106 : (0 < t101.length) = True := eq_true (by omega); (try rw [show ((0 : Int)).toNat = 0 from rfl] at hx106_0); (try rw [Addr.add_zero'] at hx106_0); replace p106 := eq_true p106; replace q106 := eq_true q106; have p107 : 0 ≤ (4 : Int) := (by omega); have q107 : 4 < (t101.length : Int) := of_decide_eq_true (by first | (with_reducible assumption) | assumption); obtain ⟨ad107, e107, hx107_0⟩ := Kd.at_int (Kd.R_reads' HO103.out).2.2 4 p107 q107; obtain rfl : ad106 = ad107 := (by injection e107); (try simp only [show (4 : Int).toNat = 4 from rfl, Nat.reduceMul, Nat.reduceEqDiff, Go.Addr.add, ↓reduceIte] at hx107_0); have qi107 : (4 < t101.length) = True := eq_true (by omega); (try rw [show ((4 : Int)).toNat = 4 from rfl] at hx107_0); replace p107 := eq_true p107; replace q107 := eq_true q107; have p108 : 0 ≤ (5 : Int) := (by omega); have q108 : 5 < (t101.length : Int) := of_decide_eq_true (by first | (with_reducible assumption) | assumption); obtain ⟨ad108, e108, hx108_0⟩ := Kd.at_int (Kd.R_reads' HO103.out).2.2 5 p108 q108; obtain rfl : ad106 = ad108 := (by injection e108); (try simp only [show (5 : Int).toNat = 5 from rfl, Nat.reduceMul, Nat.reduceEqDiff, Go.Addr.add, ↓reduceIte] at hx108_0); have qi108 : (5 < t101.length) = True := eq_true (by omega); (try rw [show ((5 : Int)).toNat = 5 from rfl] at hx108_0); replace p108 := eq_true p108; replace q108 := eq_true q108; have p109 : 0 ≤ (6 : Int) := (by omega); have q109 : 6 < (t101.length : Int) := of_decide_eq_true (by first | (with_reducible assumption) | assumption); obtain ⟨ad109, e109, hx109_0⟩ := Kd.at_int (Kd.R_reads' HO103.out).2.2 6 p109 q109; obtain rfl : ad106 = ad109 := (by injection e109); (try simp only [show (6 : Int).toNat = 6 from rfl, Nat.reduceMul, Nat.reduceEqDiff, Go.Addr.add, ↓reduceIte] at hx109_0); have qi109 : (6 < t101.length) = True := eq_true (by omega); (try rw [show ((6 : Int)).toNat = 6 from rfl] at hx109_0); replace p109 := eq_true p109; replace q109 := eq_true q109))
                    go_ret
                    exact ⟨by first | rfl | (simp [errW_none, errW_some] <;> rfl) | (simp [*, errW_none, errW_some] <;> rfl), by repeat (first | (with_reducible first | exact HB.out | apply below_alloc | apply pw_below_drewN | apply below_drew1) | exact HB.out)⟩
                  · rw [if_neg c11] at H
                    exact absurd H (by simp)
                · rw [if_neg c10] at H
                  have c10b0 : ((rd t101 5) == 46) = false := beq_eq_false_iff_ne.mpr c10
                  have c10b1 : ((rd t101 5) != 46) = true := bne_iff_ne.mpr c10
                  obtain rfl := Option.some.inj H
                  go_enter Try.func8, Try.ntmps8
                  go_wp2_with (first | ((with_reducible refine gate_callee (f := 9) rfl ?_); refine goesL_ (some 5) rfl rfl Try.func9 (by kernel_rfl) rfl #[.agg #[.int .i64 1, .string (⟨#[46]⟩ : ByteArray)]] rfl (by (try simp only [List.map_toArray, List.map_cons, List.map_nil]); first | done | rfl | (simp only [List.length_drop, List.length_take]; rfl)) ?_; (with_reducible refine (entry_Pack.calls 1 (⟨#[46]⟩ : ByteArray) t101 t104 _ A1.out).mono ?_); rintro e w14 ⟨v102, rfl, ho0, hb⟩; refine ⟨_, rfl, ?_⟩; have n0_ := Aside0.mk (Kd.R_lower ho0 (below_size (by repeat (first | (with_reducible first | exact HB.out | apply below_alloc | apply pw_below_drewN | apply below_drew1) | exact HB.out)))); have n1_ := Aside0.mk (below_step (by repeat (first | (with_reducible first | exact HB.out | apply below_alloc | apply pw_below_drewN | apply below_drew1) | exact HB.out)) hb); clear HB; have HO103 := n0_; have HB := n1_; clear n0_ n1_; (try clear hb); (try clear hb2); (try clear hk); (try clear hi); (try clear ho0)) | ((with_reducible refine gate_callee (f := 11) rfl ?_); refine goesL_ (some 9) rfl rfl Try.func11 (by kernel_rfl) rfl #[.int .i64 t104] rfl (by (try simp only [List.map_toArray, List.map_cons, List.map_nil]); first | done | rfl | (simp only [List.length_drop, List.length_take]; rfl)) ?_; (with_reducible refine (lockgatelaw6_num.calls t104 t105 _ A2.out).mono ?_); rintro e w' ⟨rfl, ⟨nd, rfl⟩⟩; refine ⟨_, rfl, ?_⟩; obtain ⟨Ao15, co15, eo15⟩ := Kd.R_slice HO103.out; subst eo15; have p106 : 0 ≤ (0 : Int) := (by omega); have q106 : 0 < (t101.length : Int) := of_decide_eq_true (by first | (with_reducible assumption) | assumption); obtain ⟨ad106, e106, hx106_0⟩ := Kd.at_int (Kd.R_reads' HO103.out).2.2 0 p106 q106; cases e106; have qi106 : (0 < t101.length) = True := eq_true (by omega); (try rw [show ((0 : Int)).toNat = 0 from rfl] at hx106_0); (try rw [Addr.add_zero'] at hx106_0); replace p106 := eq_true p106; replace q106 := eq_true q106; have p107 : 0 ≤ (4 : Int) := (by omega); have q107 : 4 < (t101.length : Int) := of_decide_eq_true (by first | (with_reducible assumption) | assumption); obtain ⟨ad107, e107, hx107_0⟩ := Kd.at_int (Kd.R_reads' HO103.out).2.2 4 p107 q107; obtain rfl : ad106 = ad107 := (by injection e107); (try simp only [show (4 : Int).toNat = 4 from rfl, Nat.reduceMul, Nat.reduceEqDiff, Go.Addr.add, ↓reduceIte] at hx107_0); have qi107 : (4 < t101.length) = True := eq_true (by omega); (try rw [show ((4 : Int)).toNat = 4 from rfl] at hx107_0); replace p107 := eq_true p107; replace q107 := eq_true q107; have p108 : 0 ≤ (5 : Int) := (by omega); have q108 : 5 < (t101.length : Int) := of_decide_eq_true (by first | (with_reducible assumption) | assumption); obtain ⟨ad108, e108, hx108_0⟩ := Kd.at_int (Kd.R_reads' HO103.out).2.2 5 p108 q108; obtain rfl : ad106 = ad108 := (by injection e108); (try simp only [show (5 : Int).toNat = 5 from rfl, Nat.reduceMul, Nat.reduceEqDiff, Go.Addr.add, ↓reduceIte] at hx108_0); have qi108 : (5 < t101.length) = True := eq_true (by omega); (try rw [show ((5 : Int)).toNat = 5 from rfl] at hx108_0); replace p108 := eq_true p108; replace q108 := eq_true q108))
                  go_ret
                  exact ⟨by first | rfl | (simp [errW_none, errW_some] <;> rfl) | (simp [*, errW_none, errW_some] <;> rfl), by repeat (first | (with_reducible first | exact HB.out | apply below_alloc | apply pw_below_drewN | apply below_drew1) | exact HB.out)⟩
              · rw [if_neg c9] at H
                exact absurd H (by simp)
            · rw [if_neg c8] at H
              have c8b0 : ((rd t101 4) == 1) = false := beq_eq_false_iff_ne.mpr c8
              have c8b1 : ((rd t101 4) != 1) = true := bne_iff_ne.mpr c8
              obtain rfl := Option.some.inj H
              go_enter Try.func8, Try.ntmps8
              go_wp2_with (first | ((with_reducible refine gate_callee (f := 9) rfl ?_); refine goesL_ (some 5) rfl rfl Try.func9 (by kernel_rfl) rfl #[.agg #[.int .i64 1, .string (⟨#[46]⟩ : ByteArray)]] rfl (by (try simp only [List.map_toArray, List.map_cons, List.map_nil]); first | done | rfl | (simp only [List.length_drop, List.length_take]; rfl)) ?_; (with_reducible refine (entry_Pack.calls 1 (⟨#[46]⟩ : ByteArray) t101 t104 _ A1.out).mono ?_); rintro e w16 ⟨v102, rfl, ho0, hb⟩; refine ⟨_, rfl, ?_⟩; have n0_ := Aside0.mk (Kd.R_lower ho0 (below_size (by repeat (first | (with_reducible first | exact HB.out | apply below_alloc | apply pw_below_drewN | apply below_drew1) | exact HB.out)))); have n1_ := Aside0.mk (below_step (by repeat (first | (with_reducible first | exact HB.out | apply below_alloc | apply pw_below_drewN | apply below_drew1) | exact HB.out)) hb); clear HB; have HO103 := n0_; have HB := n1_; clear n0_ n1_; (try clear hb); (try clear hb2); (try clear hk); (try clear hi); (try clear ho0)) | ((with_reducible refine gate_callee (f := 11) rfl ?_); refine goesL_ (some 9) rfl rfl Try.func11 (by kernel_rfl) rfl #[.int .i64 t104] rfl (by (try simp only [List.map_toArray, List.map_cons, List.map_nil]); first | done | rfl | (simp only [List.length_drop, List.length_take]; rfl)) ?_; (with_reducible refine (lockgatelaw6_num.calls t104 t105 _ A2.out).mono ?_); rintro e w' ⟨rfl, ⟨nd, rfl⟩⟩; refine ⟨_, rfl, ?_⟩; obtain ⟨Ao17, co17, eo17⟩ := Kd.R_slice HO103.out; subst eo17; have p106 : 0 ≤ (0 : Int) := (by omega); have q106 : 0 < (t101.length : Int) := of_decide_eq_true (by first | (with_reducible assumption) | assumption); obtain ⟨ad106, e106, hx106_0⟩ := Kd.at_int (Kd.R_reads' HO103.out).2.2 0 p106 q106; cases e106; have qi106 : (0 < t101.length) = True := eq_true (by omega); (try rw [show ((0 : Int)).toNat = 0 from rfl] at hx106_0); (try rw [Addr.add_zero'] at hx106_0); replace p106 := eq_true p106; replace q106 := eq_true q106; have p107 : 0 ≤ (4 : Int) := (by omega); have q107 : 4 < (t101.length : Int) := of_decide_eq_true (by first | (with_reducible assumption) | assumption); obtain ⟨ad107, e107, hx107_0⟩ := Kd.at_int (Kd.R_reads' HO103.out).2.2 4 p107 q107; obtain rfl : ad106 = ad107 := (by injection e107); (try simp only [show (4 : Int).toNat = 4 from rfl, Nat.reduceMul, Nat.reduceEqDiff, Go.Addr.add, ↓reduceIte] at hx107_0); have qi107 : (4 < t101.length) = True := eq_true (by omega); (try rw [show ((4 : Int)).toNat = 4 from rfl] at hx107_0); replace p107 := eq_true p107; replace q107 := eq_true q107))
              go_ret
              exact ⟨by first | rfl | (simp [errW_none, errW_some] <;> rfl) | (simp [*, errW_none, errW_some] <;> rfl), by repeat (first | (with_reducible first | exact HB.out | apply below_alloc | apply pw_below_drewN | apply below_drew1) | exact HB.out)⟩
          · rw [if_neg c7] at H
            exact absurd H (by simp)
        · rw [if_neg c6] at H
          have c6b0 : ((rd t101 0) == 1) = false := beq_eq_false_iff_ne.mpr c6
          have c6b1 : ((rd t101 0) != 1) = true := bne_iff_ne.mpr c6
          obtain rfl := Option.some.inj H
          go_enter Try.func8, Try.ntmps8
          go_wp2_with (first | ((with_reducible refine gate_callee (f := 9) rfl ?_); refine goesL_ (some 5) rfl rfl Try.func9 (by kernel_rfl) rfl #[.agg #[.int .i64 1, .string (⟨#[46]⟩ : ByteArray)]] rfl (by (try simp only [List.map_toArray, List.map_cons, List.map_nil]); first | done | rfl | (simp only [List.length_drop, List.length_take]; rfl)) ?_; (with_reducible refine (entry_Pack.calls 1 (⟨#[46]⟩ : ByteArray) t101 t104 _ A1.out).mono ?_); rintro e w18 ⟨v102, rfl, ho0, hb⟩; refine ⟨_, rfl, ?_⟩; have n0_ := Aside0.mk (Kd.R_lower ho0 (below_size (by repeat (first | (with_reducible first | exact HB.out | apply below_alloc | apply pw_below_drewN | apply below_drew1) | exact HB.out)))); have n1_ := Aside0.mk (below_step (by repeat (first | (with_reducible first | exact HB.out | apply below_alloc | apply pw_below_drewN | apply below_drew1) | exact HB.out)) hb); clear HB; have HO103 := n0_; have HB := n1_; clear n0_ n1_; (try clear hb); (try clear hb2); (try clear hk); (try clear hi); (try clear ho0)) | ((with_reducible refine gate_callee (f := 11) rfl ?_); refine goesL_ (some 9) rfl rfl Try.func11 (by kernel_rfl) rfl #[.int .i64 t104] rfl (by (try simp only [List.map_toArray, List.map_cons, List.map_nil]); first | done | rfl | (simp only [List.length_drop, List.length_take]; rfl)) ?_; (with_reducible refine (lockgatelaw6_num.calls t104 t105 _ A2.out).mono ?_); rintro e w' ⟨rfl, ⟨nd, rfl⟩⟩; refine ⟨_, rfl, ?_⟩; obtain ⟨Ao19, co19, eo19⟩ := Kd.R_slice HO103.out; subst eo19; have p106 : 0 ≤ (0 : Int) := (by omega); have q106 : 0 < (t101.length : Int) := of_decide_eq_true (by first | (with_reducible assumption) | assumption); obtain ⟨ad106, e106, hx106_0⟩ := Kd.at_int (Kd.R_reads' HO103.out).2.2 0 p106 q106; cases e106; have qi106 : (0 < t101.length) = True := eq_true (by omega); (try rw [show ((0 : Int)).toNat = 0 from rfl] at hx106_0); (try rw [Addr.add_zero'] at hx106_0); replace p106 := eq_true p106; replace q106 := eq_true q106))
          go_ret
          exact ⟨by first | rfl | (simp [errW_none, errW_some] <;> rfl) | (simp [*, errW_none, errW_some] <;> rfl), by repeat (first | (with_reducible first | exact HB.out | apply below_alloc | apply pw_below_drewN | apply below_drew1) | exact HB.out)⟩
      · rw [if_neg c5] at H
        exact absurd H (by simp)
    · rw [if_neg c4] at H
      have c4b0 : ((t101.length : Int) == 32) = false := beq_eq_false_iff_ne.mpr c4
      have c4b1 : ((t101.length : Int) != 32) = true := bne_iff_ne.mpr c4
      obtain rfl := Option.some.inj H
      go_enter Try.func8, Try.ntmps8
      go_wp2_with (first | ((with_reducible refine gate_callee (f := 9) rfl ?_); refine goesL_ (some 5) rfl rfl Try.func9 (by kernel_rfl) rfl #[.agg #[.int .i64 1, .string (⟨#[46]⟩ : ByteArray)]] rfl (by (try simp only [List.map_toArray, List.map_cons, List.map_nil]); first | done | rfl | (simp only [List.length_drop, List.length_take]; rfl)) ?_; (with_reducible refine (entry_Pack.calls 1 (⟨#[46]⟩ : ByteArray) t101 t104 _ A1.out).mono ?_); rintro e w20 ⟨v102, rfl, ho0, hb⟩; refine ⟨_, rfl, ?_⟩; have n0_ := Aside0.mk (Kd.R_lower ho0 (below_size (by repeat (first | (with_reducible first | exact HB.out | apply below_alloc | apply pw_below_drewN | apply below_drew1) | exact HB.out)))); have n1_ := Aside0.mk (below_step (by repeat (first | (with_reducible first | exact HB.out | apply below_alloc | apply pw_below_drewN | apply below_drew1) | exact HB.out)) hb); clear HB; have HO103 := n0_; have HB := n1_; clear n0_ n1_; (try clear hb); (try clear hb2); (try clear hk); (try clear hi); (try clear ho0)) | ((with_reducible refine gate_callee (f := 11) rfl ?_); refine goesL_ (some 9) rfl rfl Try.func11 (by kernel_rfl) rfl #[.int .i64 t104] rfl (by (try simp only [List.map_toArray, List.map_cons, List.map_nil]); first | done | rfl | (simp only [List.length_drop, List.length_take]; rfl)) ?_; (with_reducible refine (lockgatelaw6_num.calls t104 t105 _ A2.out).mono ?_); rintro e w' ⟨rfl, ⟨nd, rfl⟩⟩; refine ⟨_, rfl, ?_⟩; obtain ⟨Ao21, co21, eo21⟩ := Kd.R_slice HO103.out; subst eo21))
      go_ret
      exact ⟨by first | rfl | (simp [errW_none, errW_some] <;> rfl) | (simp [*, errW_none, errW_some] <;> rfl), by repeat (first | (with_reducible first | exact HB.out | apply below_alloc | apply pw_below_drewN | apply below_drew1) | exact HB.out)⟩
  · rw [if_neg c3] at H
    have c3b0 : (t105 == 0) = false := beq_eq_false_iff_ne.mpr c3
    have c3b1 : (t105 != 0) = true := bne_iff_ne.mpr c3
    obtain rfl := Option.some.inj H
    go_enter Try.func8, Try.ntmps8
    go_wp2_with (first | ((with_reducible refine gate_callee (f := 9) rfl ?_); refine goesL_ (some 5) rfl rfl Try.func9 (by kernel_rfl) rfl #[.agg #[.int .i64 1, .string (⟨#[46]⟩ : ByteArray)]] rfl (by (try simp only [List.map_toArray, List.map_cons, List.map_nil]); first | done | rfl | (simp only [List.length_drop, List.length_take]; rfl)) ?_; (with_reducible refine (entry_Pack.calls 1 (⟨#[46]⟩ : ByteArray) t101 t104 _ A1.out).mono ?_); rintro e w22 ⟨v102, rfl, ho0, hb⟩; refine ⟨_, rfl, ?_⟩; have n0_ := Aside0.mk (Kd.R_lower ho0 (below_size (by repeat (first | (with_reducible first | exact HB.out | apply below_alloc | apply pw_below_drewN | apply below_drew1) | exact HB.out)))); have n1_ := Aside0.mk (below_step (by repeat (first | (with_reducible first | exact HB.out | apply below_alloc | apply pw_below_drewN | apply below_drew1) | exact HB.out)) hb); clear HB; have HO103 := n0_; have HB := n1_; clear n0_ n1_; (try clear hb); (try clear hb2); (try clear hk); (try clear hi); (try clear ho0)) | ((with_reducible refine gate_callee (f := 11) rfl ?_); refine goesL_ (some 9) rfl rfl Try.func11 (by kernel_rfl) rfl #[.int .i64 t104] rfl (by (try simp only [List.map_toArray, List.map_cons, List.map_nil]); first | done | rfl | (simp only [List.length_drop, List.length_take]; rfl)) ?_; (with_reducible refine (lockgatelaw6_num.calls t104 t105 _ A2.out).mono ?_); rintro e w' ⟨rfl, ⟨nd, rfl⟩⟩; refine ⟨_, rfl, ?_⟩))
    go_ret
    exact ⟨by first | rfl | (simp [errW_none, errW_some] <;> rfl) | (simp [*, errW_none, errW_some] <;> rfl), by repeat (first | (with_reducible first | exact HB.out | apply below_alloc | apply pw_below_drewN | apply below_drew1) | exact HB.out)⟩

/-! ### lockgatelaw6_EntryNames: function 3 -/
mutual
def lockgatelaw6_EntryNames.j0 : Nat → Int → Int → Int → Bool → Bool → Option (Bool)
  | 0, _, _, _, _, _ => none
  | k + 1, x0, x1, x2, x7, x31 => if x31 = true then (some x7) else (if 0 ≤ x0 then (if (x0 : Int).toNat ≤ 281474976710656 then (lockgatelaw6_EntryNames.l0 k x0 x1 x2 (List.replicate (x0 : Int).toNat 0) 0) else (none)) else (none))
def lockgatelaw6_EntryNames.l0 : Nat → Int → Int → Int → List Int → Int → Option (Bool)
  | 0, _, _, _, _, _ => none
  | k + 1, x0, x1, x2, x8, x9 => if x9 < x0 then (if 0 ≤ x9 then (if x9 < (x8.length : Int) then (lockgatelaw6_EntryNames.l0 k x0 x1 x2 (x8.set (x9 : Int).toNat 110) (wrap64 (x9 + 1))) else (none)) else (none)) else (if x0 ≥ 1 then (lockgatelaw6_EntryNames.j2 k x0 x1 x2 x8 (decide (x0 ≤ 27))) else (lockgatelaw6_EntryNames.j2 k x0 x1 x2 x8 false))
def lockgatelaw6_EntryNames.j2 : Nat → Int → Int → Int → List Int → Bool → Option (Bool)
  | 0, _, _, _, _, _ => none
  | k + 1, x0, x1, x2, x8, x10 => if x1 < x0 then (if 0 ≤ x1 then (if x1 < (x8.length : Int) then ((some (x8.set (x1 : Int).toNat x2 : List Int)).bind fun y115 => (if x10 = true then (if x2 = 0 then ((entry_Pack.f 9 (strOfNums y115)).bind fun bt116 => ((entry_Name.f (strOfNums y115)).bind fun t120 => (if (t120 == false) = true then ((lockgatelaw6_num.f bt116.2).bind fun t121 => (if ((t121 == 0) == false) = true then (some (((bt116.1.length : Int) == 32) == false)) else (some false))) else (some false)))) else ((entry_Pack.f 9 (strOfNums y115)).bind fun bt122 => ((entry_Name.f (strOfNums y115)).bind fun t126 => (if (t126 == (x2 != 47)) = true then ((lockgatelaw6_num.f bt122.2).bind fun t127 => (if ((t127 == 0) == (x2 != 47)) = true then (some (((bt122.1.length : Int) == 32) == (x2 != 47))) else (some false))) else (some false))))) else ((entry_Pack.f 9 (strOfNums y115)).bind fun bt128 => ((entry_Name.f (strOfNums y115)).bind fun t132 => (if (t132 == false) = true then ((lockgatelaw6_num.f bt128.2).bind fun t133 => (if ((t133 == 0) == false) = true then (some (((bt128.1.length : Int) == 32) == false)) else (some false))) else (some false)))))) else (none)) else (none)) else ((entry_Pack.f 9 (strOfNums x8)).bind fun bt134 => ((entry_Name.f (strOfNums x8)).bind fun t138 => (if (t138 == x10) = true then ((lockgatelaw6_num.f bt134.2).bind fun t139 => (if ((t139 == 0) == x10) = true then (some (((bt134.1.length : Int) == 32) == x10)) else (some false))) else (some false))))
end
def lockgatelaw6_EntryNames.f (k : Nat) (a0 : Int) (a1 : Int) (a2 : Int) : Option (Bool) := (lockgatelaw6_alive.f).bind fun t110 => (if t110 = true then (if a0 < 0 then (lockgatelaw6_EntryNames.j0 k a0 a1 a2 t110 true) else (if a0 > 60 then (lockgatelaw6_EntryNames.j0 k a0 a1 a2 t110 true) else (if a1 < 0 then (lockgatelaw6_EntryNames.j0 k a0 a1 a2 t110 true) else (lockgatelaw6_EntryNames.j0 k a0 a1 a2 t110 (decide (a1 ≥ 60)))))) else (lockgatelaw6_EntryNames.j0 k a0 a1 a2 t110 true))
theorem lockgatelaw6_EntryNames.mono_l : ∀ k, (∀ y0 y1 y2 y3 y4, LeO (lockgatelaw6_EntryNames.j0 k y0 y1 y2 y3 y4) (lockgatelaw6_EntryNames.j0 (k + 1) y0 y1 y2 y3 y4)) ∧ (∀ y0 y1 y2 y3 y4, LeO (lockgatelaw6_EntryNames.l0 k y0 y1 y2 y3 y4) (lockgatelaw6_EntryNames.l0 (k + 1) y0 y1 y2 y3 y4)) ∧ (∀ y0 y1 y2 y3 y4, LeO (lockgatelaw6_EntryNames.j2 k y0 y1 y2 y3 y4) (lockgatelaw6_EntryNames.j2 (k + 1) y0 y1 y2 y3 y4))
  | 0 => ⟨fun _ _ _ _ _ r h => by simp [lockgatelaw6_EntryNames.j0] at h, fun _ _ _ _ _ r h => by simp [lockgatelaw6_EntryNames.l0] at h, fun _ _ _ _ _ r h => by simp [lockgatelaw6_EntryNames.j2] at h⟩
  | k + 1 => by
    obtain ⟨ih0, ih1, ih2⟩ := lockgatelaw6_EntryNames.mono_l k
    refine ⟨?_, ?_, ?_⟩
    · intro y0 y1 y2 y3 y4
      unfold lockgatelaw6_EntryNames.j0
      repeat' first
      | (with_reducible exact ih0 _ _ _ _ _)
      | (with_reducible exact ih1 _ _ _ _ _)
      | (with_reducible exact ih2 _ _ _ _ _)
      | (with_reducible exact LeO.refl _)
      | (with_reducible exact LeO.none _)
      | (with_reducible refine LeO.ite ?_ ?_)
      | (with_reducible refine LeO.bind ?_ (fun _ => ?_))
      | exact ih0 _ _ _ _ _
      | exact ih1 _ _ _ _ _
      | exact ih2 _ _ _ _ _
      | exact LeO.none _
      | refine LeO.ite ?_ ?_
      | refine LeO.bind ?_ (fun _ => ?_)
    · intro y0 y1 y2 y3 y4
      unfold lockgatelaw6_EntryNames.l0
      repeat' first
      | (with_reducible exact ih0 _ _ _ _ _)
      | (with_reducible exact ih1 _ _ _ _ _)
      | (with_reducible exact ih2 _ _ _ _ _)
      | (with_reducible exact LeO.refl _)
      | (with_reducible exact LeO.none _)
      | (with_reducible refine LeO.ite ?_ ?_)
      | (with_reducible refine LeO.bind ?_ (fun _ => ?_))
      | exact ih0 _ _ _ _ _
      | exact ih1 _ _ _ _ _
      | exact ih2 _ _ _ _ _
      | exact LeO.none _
      | refine LeO.ite ?_ ?_
      | refine LeO.bind ?_ (fun _ => ?_)
    · intro y0 y1 y2 y3 y4
      unfold lockgatelaw6_EntryNames.j2
      repeat' first
      | (with_reducible exact ih0 _ _ _ _ _)
      | (with_reducible exact ih1 _ _ _ _ _)
      | (with_reducible exact ih2 _ _ _ _ _)
      | (with_reducible exact LeO.refl _)
      | (with_reducible exact LeO.none _)
      | (with_reducible refine LeO.ite ?_ ?_)
      | (with_reducible refine LeO.bind ?_ (fun _ => ?_))
      | exact ih0 _ _ _ _ _
      | exact ih1 _ _ _ _ _
      | exact ih2 _ _ _ _ _
      | exact LeO.none _
      | refine LeO.ite ?_ ?_
      | refine LeO.bind ?_ (fun _ => ?_)
theorem lockgatelaw6_EntryNames.mono : ∀ a0 a1 a2 k, LeO (lockgatelaw6_EntryNames.f k a0 a1 a2) (lockgatelaw6_EntryNames.f (k + 1) a0 a1 a2) := by
  intro a0 a1 a2 k
  obtain ⟨ih0, ih1, ih2⟩ := lockgatelaw6_EntryNames.mono_l k
  unfold lockgatelaw6_EntryNames.f
  repeat' first
      | (with_reducible exact ih0 _ _ _ _ _)
      | (with_reducible exact ih1 _ _ _ _ _)
      | (with_reducible exact ih2 _ _ _ _ _)
      | (with_reducible exact LeO.refl _)
      | (with_reducible exact LeO.none _)
      | (with_reducible refine LeO.ite ?_ ?_)
      | (with_reducible refine LeO.bind ?_ (fun _ => ?_))
      | exact ih0 _ _ _ _ _
      | exact ih1 _ _ _ _ _
      | exact ih2 _ _ _ _ _
      | exact LeO.none _
      | refine LeO.ite ?_ ?_
      | refine LeO.bind ?_ (fun _ => ?_)
set_option maxHeartbeats 8000000 in
set_option maxRecDepth 100000 in
theorem lockgatelaw6_EntryNames.calls (k : Nat) (a0 : Int) (a1 : Int) (a2 : Int) (r : Bool) (w : World) (h : lockgatelaw6_EntryNames.f k a0 a1 a2 = some r) :
    Calls Try.prog 3 #[.int .i64 a0, .int .i64 a1, .int .u8 a2] w fun e w' => e = .returned (.bool r) ∧ Below w.heap.size w w' := by
  have hu28 := Try.underlying28
  have HB := Aside0.mk (Below.refl w.heap.size w)
  have H : ((lockgatelaw6_alive.f).bind fun t110 => (if t110 = true then (if a0 < 0 then (lockgatelaw6_EntryNames.j0 k a0 a1 a2 t110 true) else (if a0 > 60 then (lockgatelaw6_EntryNames.j0 k a0 a1 a2 t110 true) else (if a1 < 0 then (lockgatelaw6_EntryNames.j0 k a0 a1 a2 t110 true) else (lockgatelaw6_EntryNames.j0 k a0 a1 a2 t110 (decide (a1 ≥ 60)))))) else (lockgatelaw6_EntryNames.j0 k a0 a1 a2 t110 true))) = some r := h
  clear h
  replace H := Option.bind_eq_some_iff.mp H
  obtain ⟨t110, A40, H⟩ := H
  replace H : (if t110 = true then (if a0 < 0 then (lockgatelaw6_EntryNames.j0 k a0 a1 a2 t110 true) else (if a0 > 60 then (lockgatelaw6_EntryNames.j0 k a0 a1 a2 t110 true) else (if a1 < 0 then (lockgatelaw6_EntryNames.j0 k a0 a1 a2 t110 true) else (lockgatelaw6_EntryNames.j0 k a0 a1 a2 t110 (decide (a1 ≥ 60)))))) else (lockgatelaw6_EntryNames.j0 k a0 a1 a2 t110 true)) = some r := H
  have A4 := Aside0.mk A40
  clear A40
  have HC5 := Aside0.mk H
  clear H
  go_enter Try.func3, Try.ntmps3
  go_upto_region 2 with (first | ((with_reducible refine gate_callee (f := 8) rfl ?_); refine goesL_ (some 13) rfl rfl Try.func8 (by kernel_rfl) rfl #[] rfl (by (try simp only [List.map_toArray, List.map_cons, List.map_nil]); first | done | rfl | (simp only [List.length_drop, List.length_take]; rfl)) ?_; (with_reducible refine (lockgatelaw6_alive.calls  t110 _ A4.out).mono ?_); rintro e w6 ⟨rfl, hb⟩; refine ⟨_, rfl, ?_⟩; have n0_ := Aside0.mk (below_step (by repeat (first | (with_reducible first | exact HB.out | apply below_alloc | apply pw_below_drewN | apply below_drew1) | exact HB.out)) hb); clear HB; have HB := n0_; clear n0_; (try clear hb); (try clear hb2); (try clear hk); (try clear hi)))
  (try simp only [Act.put, List.setIfInBounds_toArray, List.set_cons_zero, List.set_cons_succ])
  go_cut [31] (fun v31 wc => ∃ (kq : Nat) (x31_4 : Bool), v31 = .bool x31_4 ∧ Aside0 (lockgatelaw6_EntryNames.j0 kq a0 a1 a2 t110 x31_4 = some r) ∧ Aside0 (kq ≤ k) ∧ Aside0 (Below w.heap.size w wc))
  case first =>
    have H := HC5.out
    clear HC5
    by_cases c7 : t110 = true
    · subst c7
      have H1 : (if a0 < 0 then (lockgatelaw6_EntryNames.j0 k a0 a1 a2 true true) else (if a0 > 60 then (lockgatelaw6_EntryNames.j0 k a0 a1 a2 true true) else (if a1 < 0 then (lockgatelaw6_EntryNames.j0 k a0 a1 a2 true true) else (lockgatelaw6_EntryNames.j0 k a0 a1 a2 true (decide (a1 ≥ 60)))))) = some r := by rw [if_pos rfl] at H; exact H
      clear H
      have H := H1
      clear H1
      by_cases c8 : a0 < 0
      · rw [if_pos c8] at H
        have c8b0 : decide (a0 < 0) = true := decide_eq_true c8
        clear c8
        (first | rw [c8b0] | (simp only [i64_w, i32_w]; rw [c8b0]) | skip)
        have H' := Aside0.mk H
        clear H
        go_wp2
        go_meet
        case rel => exact ⟨_, (true), (by first | rfl | (simp; done) | (simp [*]; done)), H', ⟨by first | omega | exact Nat.le_refl _⟩, ⟨by repeat (first | (with_reducible first | exact HB.out | apply below_alloc | apply pw_below_drewN | apply below_drew1) | exact HB.out)⟩⟩
      · rw [if_neg c8] at H
        have c8b0 : decide (a0 < 0) = false := decide_eq_false c8
        clear c8
        (first | rw [c8b0] | (simp only [i64_w, i32_w]; rw [c8b0]) | skip)
        by_cases c9 : a0 > 60
        · rw [if_pos c9] at H
          have c9b0 : decide (60 < a0) = true := decide_eq_true c9
          clear c9
          have H' := Aside0.mk H
          clear H
          go_wp2
          go_meet
          case rel => exact ⟨_, (true), (by first | rfl | (simp; done) | (simp [*]; done)), H', ⟨by first | omega | exact Nat.le_refl _⟩, ⟨by repeat (first | (with_reducible first | exact HB.out | apply below_alloc | apply pw_below_drewN | apply below_drew1) | exact HB.out)⟩⟩
        · rw [if_neg c9] at H
          have c9b0 : decide (60 < a0) = false := decide_eq_false c9
          clear c9
          by_cases c10 : a1 < 0
          · rw [if_pos c10] at H
            have c10b0 : decide (a1 < 0) = true := decide_eq_true c10
            clear c10
            have H' := Aside0.mk H
            clear H
            go_wp2
            go_meet
            case rel => exact ⟨_, (true), (by first | rfl | (simp; done) | (simp [*]; done)), H', ⟨by first | omega | exact Nat.le_refl _⟩, ⟨by repeat (first | (with_reducible first | exact HB.out | apply below_alloc | apply pw_below_drewN | apply below_drew1) | exact HB.out)⟩⟩
          · rw [if_neg c10] at H
            have c10b0 : decide (a1 < 0) = false := decide_eq_false c10
            clear c10
            have H' := Aside0.mk H
            clear H
            go_wp2
            go_meet
            case rel => exact ⟨_, (decide (a1 ≥ 60)), (by first | rfl | (simp; done) | (simp [*]; done)), H', ⟨by first | omega | exact Nat.le_refl _⟩, ⟨by repeat (first | (with_reducible first | exact HB.out | apply below_alloc | apply pw_below_drewN | apply below_drew1) | exact HB.out)⟩⟩
    · replace c7 := Bool.eq_false_iff.mpr c7
      subst c7
      have H1 : (lockgatelaw6_EntryNames.j0 k a0 a1 a2 false true) = some r := by rw [if_neg (show ¬ (false = true) by decide)] at H; exact H
      clear H
      have H := H1
      clear H1
      have H' := Aside0.mk H
      clear H
      go_wp2
      go_meet
      case rel => exact ⟨_, (true), (by first | rfl | (simp; done) | (simp [*]; done)), H', ⟨by first | omega | exact Nat.le_refl _⟩, ⟨by repeat (first | (with_reducible first | exact HB.out | apply below_alloc | apply pw_below_drewN | apply below_drew1) | exact HB.out)⟩⟩
  case rest =>
    clear HC5
    try clear c1
    try clear p2
    try clear c3
    try clear c7
    try clear c8
    try clear c8b0
    try clear c9
    try clear c9b0
    try clear c10
    try clear c10b0
    obtain ⟨kq, x31_4, rfl, HA, HJ4, HB⟩ := hcut
    cases kq with
    | zero => exact absurd HA.out (by simp [lockgatelaw6_EntryNames.j0])
    | succ kj4 =>
      have H := HA.out
      clear HA
      simp only [lockgatelaw6_EntryNames.j0] at H
      by_cases c11 : x31_4 = true
      · subst c11
        have H1 : (some t110) = some r := by rw [if_pos rfl] at H; exact H
        clear H
        have H := H1
        clear H1
        obtain rfl := Option.some.inj H
        go_wp2
        go_ret
        exact ⟨by first | rfl | (simp [errW_none, errW_some] <;> rfl) | (simp [*, errW_none, errW_some] <;> rfl), by repeat (first | (with_reducible first | exact HB.out | apply below_alloc | apply pw_below_drewN | apply below_drew1) | exact HB.out)⟩
      · replace c11 := Bool.eq_false_iff.mpr c11
        subst c11
        have H1 : (if 0 ≤ a0 then (if (a0 : Int).toNat ≤ 281474976710656 then (lockgatelaw6_EntryNames.l0 kj4 a0 a1 a2 (List.replicate (a0 : Int).toNat 0) 0) else (none)) else (none)) = some r := by rw [if_neg (show ¬ (false = true) by decide)] at H; exact H
        clear H
        have H := H1
        clear H1
        by_cases c12 : 0 ≤ a0
        · rw [if_pos c12] at H
          have c12b0 := eq_true c12
          have c12b1 : decide (0 ≤ a0) = true := decide_eq_true c12
          clear c12
          by_cases c13 : (a0 : Int).toNat ≤ 281474976710656
          · rw [if_pos c13] at H
            have c13b0 := eq_true c13
            have c13b1 : decide ((a0 : Int).toNat ≤ 281474976710656) = true := decide_eq_true c13
            clear c13
            obtain ⟨y111, hy111⟩ : ∃ y_ : List Int, y_ = (List.replicate (a0 : Int).toNat 0) := ⟨_, rfl⟩
            replace H : (lockgatelaw6_EntryNames.l0 kj4 a0 a1 a2 y111 0) = some r := by first | (rw [hy111]; with_reducible exact H) | (have H2_ := (Option.bind_some _ _).symm.trans H; rw [hy111]; with_reducible exact H2_) | (have H2_ := (Option.bind_some _ _).symm.trans H; with_reducible exact H2_) | with_reducible exact H | (rw [hy111]; exact H) | exact H
            have Ny111 := Aside0.mk hy111
            clear hy111
            have H' := Aside0.mk H
            clear H
            go_wp2_with (first | ((with_reducible refine gate_dst (N := 34) rfl ?_); (try (refine gate_guard (by rfl) ?_; dsimp only)); refine Kd.R_make (Kd.int .u8) _ 5 rfl (N := 34) rfl 23 _ _ rfl a0 rfl rfl Try.underlying23 (.int .u8 0) 1 info5 rfl (by decide) (by omega) 0 (ok := fun _ => True) (okp := fun _ => True) rfl (fun _ hk => hk) trivial (of_decide_eq_true (by first | (with_reducible assumption) | assumption)) (Nat.le_trans (Nat.mul_le_mul_right _ (of_decide_eq_true (by first | (with_reducible assumption) | assumption) : a0.toNat ≤ 281474976710656)) (by omega)) (Below.refl _ _) (Nat.le_refl _) ?_; intro v112 w14 ho15 hb hg_ hnew_; clear hg_ hnew_; (first | rw [← Ny111.out] at ho15 | (simp only [Int.reduceToNat] at ho15; rw [← Ny111.out] at ho15)); have n0_ := Aside0.mk (Kd.R_lower ho15 (below_size (by repeat (first | (with_reducible first | exact HB.out | apply below_alloc | apply pw_below_drewN | apply below_drew1) | exact HB.out)))); have n1_ := Aside0.mk (below_step (by repeat (first | (with_reducible first | exact HB.out | apply below_alloc | apply pw_below_drewN | apply below_drew1) | exact HB.out)) hb); clear HB; have HO113 := n0_; have HB := n1_; clear n0_ n1_; clear hb ho15))
            go_loopg [9] kj4 (fun kq v9 w' => ∃ (x8_2 : List Int) (x9_2 : Int), v9 = .int .i64 x9_2 ∧ Aside0 (lockgatelaw6_EntryNames.l0 kq a0 a1 a2 x8_2 x9_2 = some r) ∧ Aside0 (kq ≤ kj4) ∧ Aside0 (Kd.R (Kd.int .u8) 5 w' w.heap.size (fun _ => True) v112 x8_2) ∧ Aside0 (Below w.heap.size w w'))
            case atStart => exact ⟨(y111), (0), (by first | rfl | (simp; done) | (simp [*]; done)), H', ⟨Nat.le_refl _⟩, ⟨by (with_reducible repeat (first | apply Kd.R_alloc | apply Kd.R_drewN | apply Kd.R_drew)); exact HO113.out⟩, ⟨by repeat (first | (with_reducible first | exact HB.out | apply below_alloc | apply pw_below_drewN | apply below_drew1) | exact HB.out)⟩⟩
            case round =>
              clear H'
              try clear c1
              try clear p2
              try clear c3
              try clear c7
              try clear c8
              try clear c8b0
              try clear c9
              try clear c9b0
              try clear c10
              try clear c10b0
              try clear c11
              try clear c12
              try clear c12b0
              try clear c12b1
              try clear c13
              try clear c13b0
              try clear c13b1
              try clear p2
              obtain ⟨x8_2, x9_2, rfl, HA, HK2, HO_8, HB⟩ := hrel
              cases gk with
              | zero => exact absurd HA.out (by simp [lockgatelaw6_EntryNames.l0])
              | succ k2 =>
                have H := HA.out
                clear HA
                simp only [lockgatelaw6_EntryNames.l0] at H
                by_cases c16 : x9_2 < a0
                · rw [if_pos c16] at H
                  have c16b0 : decide (x9_2 < a0) = true := decide_eq_true c16
                  clear c16
                  by_cases c17 : 0 ≤ x9_2
                  · rw [if_pos c17] at H
                    have c17b0 : decide (0 ≤ x9_2) = true := decide_eq_true c17
                    clear c17
                    by_cases c18 : x9_2 < (x8_2.length : Int)
                    · rw [if_pos c18] at H
                      have c18b0 : decide (x9_2 < (x8_2.length : Int)) = true := decide_eq_true c18
                      clear c18
                      obtain ⟨y114, hy114⟩ : ∃ y_ : List Int, y_ = (x8_2.set (x9_2 : Int).toNat 110) := ⟨_, rfl⟩
                      replace H : (lockgatelaw6_EntryNames.l0 k2 a0 a1 a2 y114 (wrap64 (x9_2 + 1))) = some r := by first | (rw [hy114]; with_reducible exact H) | (have H2_ := (Option.bind_some _ _).symm.trans H; rw [hy114]; with_reducible exact H2_) | (have H2_ := (Option.bind_some _ _).symm.trans H; with_reducible exact H2_) | with_reducible exact H | (rw [hy114]; exact H) | exact H
                      have Ny114 := Aside0.mk hy114
                      clear hy114
                      have H' := Aside0.mk H
                      clear H
                      have p19 : 0 ≤ (x9_2 : Int) := of_decide_eq_true (by first | (with_reducible assumption) | assumption)
                      have q19 : (x9_2 : Int) < ((x8_2.length : Int) : Int) := of_decide_eq_true (by first | (with_reducible assumption) | assumption)
                      obtain ⟨go19, co19, eo19, gb19, gl19, cl19, HG19⟩ := Kd.R_form HO_8.out (by omega)
                      (first | cases eo19 | (injection eo19 with ea_ en_ ec_; (first | subst ea_ | (injection ea_ with ea_; subst ea_)); subst ec_; clear en_))
                      have GB19 := Aside0.mk gb19
                      have GG19 := Aside0.mk HG19
                      clear gb19 gl19 HG19
                      obtain ⟨hx19_0, hf19_0⟩ := Kd.R_celln 0 HO_8.out (x9_2 : Int) p19 q19
                      replace p19 := eq_true p19
                      replace q19 := eq_true q19
                      have HP20 := Kd.R_putg HO_8.out (x9_2 : Int) 110
                      go_wp2_with (first | ((with_reducible refine gate_store (t := 5) (p := 42) rfl ?_); refine store_event (t := 5) (p := 42) (v := ?vo_w21) (w1 := (wr.setCell ⟨go19, (x9_2 : Int).toNat, none⟩ (.int .u8 110))) ?hg ?ho ?hn ?hr ?_; (case ho => rfl); (case hg => rfl); (case hn => rfl); (case hr => first | (go_simp; done) | (go_simp; rfl)); intro w21 hw; have hg : wr.grownBy w21 (some go19) := (by rw [hw]; exact HP20.2); have hp_ : Kd.R (Kd.int .u8) 5 w21 w.heap.size (fun _ => True) (.slice (some ⟨go19, 0, none⟩) x8_2.length co19) y114 := (by rw [hw, Ny114.out]; exact HP20.1); clear HP20; have n0_ := Aside0.mk (hp_); have n1_ := Aside0.mk ((by rw [hw]; exact below_set (HB.out) GB19.out : Below w.heap.size w w21)); clear HO_8; clear HB; have HO_8 := n0_; have HB := n1_; clear n0_ n1_; clear hg hw hp_))
                      go_roundg k2
                      case measure => have := HJ4.out; have := HK2.out; omega
                      case rel => exact ⟨(y114), (wrap64 (x9_2 + 1)), (by first | rfl | (simp; done) | (simp [*]; done)), H', ⟨by have := HJ4.out; have := HK2.out; omega⟩, ⟨by (with_reducible repeat (first | apply Kd.R_alloc | apply Kd.R_drewN | apply Kd.R_drew)); exact HO_8.out⟩, ⟨by repeat (first | (with_reducible first | exact HB.out | apply below_alloc | apply pw_below_drewN | apply below_drew1) | exact HB.out)⟩⟩
                    · rw [if_neg c18] at H
                      exact absurd H (by simp)
                  · rw [if_neg c17] at H
                    exact absurd H (by simp)
                · rw [if_neg c16] at H
                  have c16b0 : decide (x9_2 < a0) = false := decide_eq_false c16
                  clear c16
                  have HC22 := Aside0.mk H
                  clear H
                  go_upto_region 9 with (fail)
                  go_cut [10] (fun v10 wc => ∃ (kq : Nat) (x10_21 : Bool), v10 = .bool x10_21 ∧ Aside0 (lockgatelaw6_EntryNames.j2 kq a0 a1 a2 x8_2 x10_21 = some r) ∧ Aside0 (kq ≤ k2) ∧ Aside0 (Kd.R (Kd.int .u8) 5 wc w.heap.size (fun _ => True) v112 x8_2) ∧ Aside0 (Below w.heap.size w wc))
                  case first =>
                    have H := HC22.out
                    clear HC22
                    by_cases c23 : a0 ≥ 1
                    · rw [if_pos c23] at H
                      have c23b0 : decide (1 ≤ a0) = true := decide_eq_true c23
                      clear c23
                      (first | rw [c23b0] | (simp only [i64_w, i32_w]; rw [c23b0]) | skip)
                      have H' := Aside0.mk H
                      clear H
                      go_wp2
                      go_meet
                      case rel => exact ⟨_, (decide (a0 ≤ 27)), (by first | rfl | (simp; done) | (simp [*]; done)), H', ⟨by have := HJ4.out; have := HK2.out; first | omega | exact Nat.le_refl _⟩, ⟨by (with_reducible repeat (first | apply Kd.R_alloc | apply Kd.R_drewN | apply Kd.R_drew)); exact HO_8.out⟩, ⟨by repeat (first | (with_reducible first | exact HB.out | apply below_alloc | apply pw_below_drewN | apply below_drew1) | exact HB.out)⟩⟩
                    · rw [if_neg c23] at H
                      have c23b0 : decide (1 ≤ a0) = false := decide_eq_false c23
                      clear c23
                      (first | rw [c23b0] | (simp only [i64_w, i32_w]; rw [c23b0]) | skip)
                      have H' := Aside0.mk H
                      clear H
                      go_wp2
                      go_meet
                      case rel => exact ⟨_, (false), (by first | rfl | (simp; done) | (simp [*]; done)), H', ⟨by have := HJ4.out; have := HK2.out; first | omega | exact Nat.le_refl _⟩, ⟨by (with_reducible repeat (first | apply Kd.R_alloc | apply Kd.R_drewN | apply Kd.R_drew)); exact HO_8.out⟩, ⟨by repeat (first | (with_reducible first | exact HB.out | apply below_alloc | apply pw_below_drewN | apply below_drew1) | exact HB.out)⟩⟩
                  case rest =>
                    clear HC22
                    try clear c1
                    try clear p1
                    try clear q1
                    try clear hx1
                    try clear c2
                    try clear p2
                    try clear c3
                    try clear p6
                    try clear c7
                    try clear c8
                    try clear c8b0
                    try clear c9
                    try clear c9b0
                    try clear c10
                    try clear c10b0
                    try clear c11
                    try clear c12
                    try clear c12b0
                    try clear c12b1
                    try clear c13
                    try clear c13b0
                    try clear c13b1
                    try clear c16
                    try clear c16b0
                    try clear c17
                    try clear c17b0
                    try clear c18
                    try clear c18b0
                    try clear p19
                    try clear q19
                    try clear hx19
                    try clear hf19
                    try clear c23
                    try clear c23b0
                    try clear hx19_0
                    try clear p19
                    try clear p2
                    try clear q19
                    obtain ⟨kq, x10_21, rfl, HA, HJ21, HO_8, HB⟩ := hcut
                    cases kq with
                    | zero => exact absurd HA.out (by simp [lockgatelaw6_EntryNames.j2])
                    | succ kj21 =>
                      have H := HA.out
                      clear HA
                      simp only [lockgatelaw6_EntryNames.j2] at H
                      by_cases c24 : a1 < a0
                      · rw [if_pos c24] at H
                        have c24b0 : decide (a1 < a0) = true := decide_eq_true c24
                        clear c24
                        by_cases c25 : 0 ≤ a1
                        · rw [if_pos c25] at H
                          have c25b0 : decide (0 ≤ a1) = true := decide_eq_true c25
                          clear c25
                          by_cases c26 : a1 < (x8_2.length : Int)
                          · rw [if_pos c26] at H
                            have c26b0 : decide (a1 < (x8_2.length : Int)) = true := decide_eq_true c26
                            clear c26
                            obtain ⟨y115, hy115⟩ : ∃ y_ : List Int, y_ = (x8_2.set (a1 : Int).toNat a2) := ⟨_, rfl⟩
                            replace H : (if x10_21 = true then (if a2 = 0 then ((entry_Pack.f 9 (strOfNums y115)).bind fun bt116 => ((entry_Name.f (strOfNums y115)).bind fun t120 => (if (t120 == false) = true then ((lockgatelaw6_num.f bt116.2).bind fun t121 => (if ((t121 == 0) == false) = true then (some (((bt116.1.length : Int) == 32) == false)) else (some false))) else (some false)))) else ((entry_Pack.f 9 (strOfNums y115)).bind fun bt122 => ((entry_Name.f (strOfNums y115)).bind fun t126 => (if (t126 == (a2 != 47)) = true then ((lockgatelaw6_num.f bt122.2).bind fun t127 => (if ((t127 == 0) == (a2 != 47)) = true then (some (((bt122.1.length : Int) == 32) == (a2 != 47))) else (some false))) else (some false))))) else ((entry_Pack.f 9 (strOfNums y115)).bind fun bt128 => ((entry_Name.f (strOfNums y115)).bind fun t132 => (if (t132 == false) = true then ((lockgatelaw6_num.f bt128.2).bind fun t133 => (if ((t133 == 0) == false) = true then (some (((bt128.1.length : Int) == 32) == false)) else (some false))) else (some false))))) = some r := by first | (rw [hy115]; with_reducible exact H) | (have H2_ := (Option.bind_some _ _).symm.trans H; rw [hy115]; with_reducible exact H2_) | (have H2_ := (Option.bind_some _ _).symm.trans H; with_reducible exact H2_) | with_reducible exact H | (rw [hy115]; exact H) | exact H
                            have Ny115 := Aside0.mk hy115
                            clear hy115
                            by_cases c28 : x10_21 = true
                            · subst c28
                              have H1 : (if a2 = 0 then ((entry_Pack.f 9 (strOfNums y115)).bind fun bt116 => ((entry_Name.f (strOfNums y115)).bind fun t120 => (if (t120 == false) = true then ((lockgatelaw6_num.f bt116.2).bind fun t121 => (if ((t121 == 0) == false) = true then (some (((bt116.1.length : Int) == 32) == false)) else (some false))) else (some false)))) else ((entry_Pack.f 9 (strOfNums y115)).bind fun bt122 => ((entry_Name.f (strOfNums y115)).bind fun t126 => (if (t126 == (a2 != 47)) = true then ((lockgatelaw6_num.f bt122.2).bind fun t127 => (if ((t127 == 0) == (a2 != 47)) = true then (some (((bt122.1.length : Int) == 32) == (a2 != 47))) else (some false))) else (some false))))) = some r := by rw [if_pos rfl] at H; exact H
                              clear H
                              have H := H1
                              clear H1
                              by_cases c29 : a2 = 0
                              · rw [if_pos c29] at H
                                have c29b0 : (a2 == 0) = true := beq_iff_eq.mpr c29
                                have c29b1 : (a2 != 0) = false := bne_eq_false_iff_eq.mpr c29
                                clear c29
                                replace H := Option.bind_eq_some_iff.mp H
                                obtain ⟨⟨t116, t119⟩, A300, H⟩ := H
                                replace H : ((entry_Name.f (strOfNums y115)).bind fun t120 => (if (t120 == false) = true then ((lockgatelaw6_num.f t119).bind fun t121 => (if ((t121 == 0) == false) = true then (some (((t116.length : Int) == 32) == false)) else (some false))) else (some false))) = some r := H
                                have A30 := Aside0.mk A300
                                clear A300
                                replace H := Option.bind_eq_some_iff.mp H
                                obtain ⟨t120, A310, H⟩ := H
                                replace H : (if (t120 == false) = true then ((lockgatelaw6_num.f t119).bind fun t121 => (if ((t121 == 0) == false) = true then (some (((t116.length : Int) == 32) == false)) else (some false))) else (some false)) = some r := H
                                have A31 := Aside0.mk A310
                                clear A310
                                by_cases c32 : (t120 == false) = true
                                · rw [if_pos c32] at H
                                  have c32b0 : (t120 == false) = true := c32
                                  (try (have c32b1 : decide (t120 = false) = true := by simpa using c32))
                                  (try (have c32b2 : (t120 == false) = true := by simpa using c32))
                                  clear c32
                                  replace H := Option.bind_eq_some_iff.mp H
                                  obtain ⟨t121, A330, H⟩ := H
                                  replace H : (if ((t121 == 0) == false) = true then (some (((t116.length : Int) == 32) == false)) else (some false)) = some r := H
                                  have A33 := Aside0.mk A330
                                  clear A330
                                  by_cases c34 : ((t121 == 0) == false) = true
                                  · rw [if_pos c34] at H
                                    have c34b0 : ((t121 == 0) == false) = true := c34
                                    (try (have c34b1 : decide ((t121 == 0) = false) = true := by simpa using c34))
                                    (try (have c34b2 : ((t121 == 0) == false) = true := by simpa using c34))
                                    clear c34
                                    obtain rfl := Option.some.inj H
                                    have p27 : 0 ≤ (a1 : Int) := of_decide_eq_true (by first | (with_reducible assumption) | assumption)
                                    have q27 : (a1 : Int) < ((x8_2.length : Int) : Int) := of_decide_eq_true (by first | (with_reducible assumption) | assumption)
                                    obtain ⟨go27, co27, eo27, gb27, gl27, cl27, HG27⟩ := Kd.R_form HO_8.out (by omega)
                                    (first | cases eo27 | (injection eo27 with ea_ en_ ec_; (first | subst ea_ | (injection ea_ with ea_; subst ea_)); subst ec_; clear en_))
                                    have GB27 := Aside0.mk gb27
                                    have GG27 := Aside0.mk HG27
                                    clear gb27 gl27 HG27
                                    obtain ⟨hx27_0, hf27_0⟩ := Kd.R_celln 0 HO_8.out (a1 : Int) p27 q27
                                    replace p27 := eq_true p27
                                    replace q27 := eq_true q27
                                    have HP35 := Kd.R_putg HO_8.out (a1 : Int) a2
                                    go_wp2_with (first | ((with_reducible refine gate_store (t := 5) (p := 55) rfl ?_); refine store_event (t := 5) (p := 55) (v := ?vo_w36) (w1 := (wc.setCell ⟨go27, (a1 : Int).toNat, none⟩ (.int .u8 a2))) ?hg ?ho ?hn ?hr ?_; (case ho => rfl); (case hg => rfl); (case hn => rfl); (case hr => first | (go_simp; done) | (go_simp; rfl)); intro w36 hw; have hg : wc.grownBy w36 (some go27) := (by rw [hw]; exact HP35.2); have hp_ : Kd.R (Kd.int .u8) 5 w36 w.heap.size (fun _ => True) (.slice (some ⟨go27, 0, none⟩) x8_2.length co27) y115 := (by rw [hw, Ny115.out]; exact HP35.1); clear HP35; have n0_ := Aside0.mk (hp_); have n1_ := Aside0.mk ((by rw [hw]; exact below_set (HB.out) GB27.out : Below w.heap.size w w36)); clear HO_8; clear HB; have HO_8 := n0_; have HB := n1_; clear n0_ n1_; clear hg hw hp_; have hcv37 := own_string (P := Try.prog) Try.underlying23 Try.underlying5 Try.underlying9 (Kd.own_of_R HO_8.out)) | ((with_reducible refine gate_callee (f := 9) rfl ?_); refine goesL_ (some 69) rfl rfl Try.func9 (by kernel_rfl) rfl #[.agg #[.int .i64 9, .string (strOfNums y115)]] rfl (by (try simp only [List.map_toArray, List.map_cons, List.map_nil]); first | done | rfl | (simp only [List.length_drop, List.length_take]; rfl)) ?_; (with_reducible refine (entry_Pack.calls 9 (strOfNums y115) t116 t119 _ A30.out).mono ?_); rintro e w38 ⟨v117, rfl, ho0, hb⟩; refine ⟨_, rfl, ?_⟩; have n0_ := Aside0.mk (Kd.R_elder' (by (with_reducible repeat (first | apply Kd.R_alloc | apply Kd.R_drewN | apply Kd.R_drew)); exact HO_8.out) (Kd.R_base ho0) hb); have n1_ := Aside0.mk (Kd.R_lower (Kd.R_new' ho0 (Kd.R_lt (by (with_reducible repeat (first | apply Kd.R_alloc | apply Kd.R_drewN | apply Kd.R_drew)); exact HO_8.out))) (below_size (by repeat (first | (with_reducible first | exact HB.out | apply below_alloc | apply pw_below_drewN | apply below_drew1) | exact HB.out)))); have n2_ := Aside0.mk (below_step (by repeat (first | (with_reducible first | exact HB.out | apply below_alloc | apply pw_below_drewN | apply below_drew1) | exact HB.out)) hb); clear HO_8; clear HB; have HO_8 := n0_; have HO118 := n1_; have HB := n2_; clear n0_ n1_ n2_; (try clear hb); (try clear hb2); (try clear hk); (try clear hi); (try clear ho0); have hcv39 := own_string (P := Try.prog) Try.underlying23 Try.underlying5 Try.underlying9 (Kd.own_of_R HO_8.out)) | ((with_reducible refine gate_callee (f := 10) rfl ?_); refine goesL_ (some 74) rfl rfl Try.func10 (by kernel_rfl) rfl #[.string (strOfNums y115)] rfl (by (try simp only [List.map_toArray, List.map_cons, List.map_nil]); first | done | rfl | (simp only [List.length_drop, List.length_take]; rfl)) ?_; (with_reducible refine (entry_Name.calls (strOfNums y115) t120 _ A31.out).mono ?_); rintro e w' ⟨rfl, ⟨nd, rfl⟩⟩; refine ⟨_, rfl, ?_⟩) | (go_at_call 11; (with_reducible refine (lockgatelaw6_num.calls t119 t121 _ A33.out).mono ?_); rintro e w' ⟨rfl, ⟨nd, rfl⟩⟩; obtain ⟨Ao40, co40, eo40⟩ := Kd.R_slice HO118.out; subst eo40))
                                    go_ret
                                    exact ⟨by first | rfl | (simp [errW_none, errW_some] <;> rfl) | (simp [*, errW_none, errW_some] <;> rfl), by repeat (first | (with_reducible first | exact HB.out | apply below_alloc | apply pw_below_drewN | apply below_drew1) | exact HB.out)⟩
                                  · rw [if_neg c34] at H
                                    have c34b0 : ((t121 == 0) == false) = false := by simpa using c34
                                    (try (have c34b1 : decide ((t121 == 0) = false) = false := by simpa using c34))
                                    (try (have c34b2 : ((t121 == 0) == false) = false := by simpa using c34))
                                    (try (have c34b3 : ¬ ((t121 == 0) = false) := by simpa using c34))
                                    clear c34
                                    obtain rfl := Option.some.inj H
                                    have p27 : 0 ≤ (a1 : Int) := of_decide_eq_true (by first | (with_reducible assumption) | assumption)
                                    have q27 : (a1 : Int) < ((x8_2.length : Int) : Int) := of_decide_eq_true (by first | (with_reducible assumption) | assumption)
                                    obtain ⟨go27, co27, eo27, gb27, gl27, cl27, HG27⟩ := Kd.R_form HO_8.out (by omega)
                                    (first | cases eo27 | (injection eo27 with ea_ en_ ec_; (first | subst ea_ | (injection ea_ with ea_; subst ea_)); subst ec_; clear en_))
                                    have GB27 := Aside0.mk gb27
                                    have GG27 := Aside0.mk HG27
                                    clear gb27 gl27 HG27
                                    obtain ⟨hx27_0, hf27_0⟩ := Kd.R_celln 0 HO_8.out (a1 : Int) p27 q27
                                    replace p27 := eq_true p27
                                    replace q27 := eq_true q27
                                    have HP41 := Kd.R_putg HO_8.out (a1 : Int) a2
                                    go_wp2_with (first | ((with_reducible refine gate_store (t := 5) (p := 55) rfl ?_); refine store_event (t := 5) (p := 55) (v := ?vo_w42) (w1 := (wc.setCell ⟨go27, (a1 : Int).toNat, none⟩ (.int .u8 a2))) ?hg ?ho ?hn ?hr ?_; (case ho => rfl); (case hg => rfl); (case hn => rfl); (case hr => first | (go_simp; done) | (go_simp; rfl)); intro w42 hw; have hg : wc.grownBy w42 (some go27) := (by rw [hw]; exact HP41.2); have hp_ : Kd.R (Kd.int .u8) 5 w42 w.heap.size (fun _ => True) (.slice (some ⟨go27, 0, none⟩) x8_2.length co27) y115 := (by rw [hw, Ny115.out]; exact HP41.1); clear HP41; have n0_ := Aside0.mk (hp_); have n1_ := Aside0.mk ((by rw [hw]; exact below_set (HB.out) GB27.out : Below w.heap.size w w42)); clear HO_8; clear HB; have HO_8 := n0_; have HB := n1_; clear n0_ n1_; clear hg hw hp_; have hcv43 := own_string (P := Try.prog) Try.underlying23 Try.underlying5 Try.underlying9 (Kd.own_of_R HO_8.out)) | ((with_reducible refine gate_callee (f := 9) rfl ?_); refine goesL_ (some 69) rfl rfl Try.func9 (by kernel_rfl) rfl #[.agg #[.int .i64 9, .string (strOfNums y115)]] rfl (by (try simp only [List.map_toArray, List.map_cons, List.map_nil]); first | done | rfl | (simp only [List.length_drop, List.length_take]; rfl)) ?_; (with_reducible refine (entry_Pack.calls 9 (strOfNums y115) t116 t119 _ A30.out).mono ?_); rintro e w44 ⟨v117, rfl, ho0, hb⟩; refine ⟨_, rfl, ?_⟩; have n0_ := Aside0.mk (Kd.R_elder' (by (with_reducible repeat (first | apply Kd.R_alloc | apply Kd.R_drewN | apply Kd.R_drew)); exact HO_8.out) (Kd.R_base ho0) hb); have n1_ := Aside0.mk (Kd.R_lower (Kd.R_new' ho0 (Kd.R_lt (by (with_reducible repeat (first | apply Kd.R_alloc | apply Kd.R_drewN | apply Kd.R_drew)); exact HO_8.out))) (below_size (by repeat (first | (with_reducible first | exact HB.out | apply below_alloc | apply pw_below_drewN | apply below_drew1) | exact HB.out)))); have n2_ := Aside0.mk (below_step (by repeat (first | (with_reducible first | exact HB.out | apply below_alloc | apply pw_below_drewN | apply below_drew1) | exact HB.out)) hb); clear HO_8; clear HB; have HO_8 := n0_; have HO118 := n1_; have HB := n2_; clear n0_ n1_ n2_; (try clear hb); (try clear hb2); (try clear hk); (try clear hi); (try clear ho0); have hcv45 := own_string (P := Try.prog) Try.underlying23 Try.underlying5 Try.underlying9 (Kd.own_of_R HO_8.out)) | ((with_reducible refine gate_callee (f := 10) rfl ?_); refine goesL_ (some 74) rfl rfl Try.func10 (by kernel_rfl) rfl #[.string (strOfNums y115)] rfl (by (try simp only [List.map_toArray, List.map_cons, List.map_nil]); first | done | rfl | (simp only [List.length_drop, List.length_take]; rfl)) ?_; (with_reducible refine (entry_Name.calls (strOfNums y115) t120 _ A31.out).mono ?_); rintro e w' ⟨rfl, ⟨nd, rfl⟩⟩; refine ⟨_, rfl, ?_⟩) | (go_at_call 11; (with_reducible refine (lockgatelaw6_num.calls t119 t121 _ A33.out).mono ?_); rintro e w' ⟨rfl, ⟨nd, rfl⟩⟩))
                                    go_ret
                                    exact ⟨by first | rfl | (simp [errW_none, errW_some] <;> rfl) | (simp [*, errW_none, errW_some] <;> rfl), by repeat (first | (with_reducible first | exact HB.out | apply below_alloc | apply pw_below_drewN | apply below_drew1) | exact HB.out)⟩
                                · rw [if_neg c32] at H
                                  have c32b0 : (t120 == false) = false := by simpa using c32
                                  (try (have c32b1 : decide (t120 = false) = false := by simpa using c32))
                                  (try (have c32b2 : (t120 == false) = false := by simpa using c32))
                                  (try (have c32b3 : ¬ (t120 = false) := by simpa using c32))
                                  clear c32
                                  obtain rfl := Option.some.inj H
                                  have p27 : 0 ≤ (a1 : Int) := of_decide_eq_true (by first | (with_reducible assumption) | assumption)
                                  have q27 : (a1 : Int) < ((x8_2.length : Int) : Int) := of_decide_eq_true (by first | (with_reducible assumption) | assumption)
                                  obtain ⟨go27, co27, eo27, gb27, gl27, cl27, HG27⟩ := Kd.R_form HO_8.out (by omega)
                                  (first | cases eo27 | (injection eo27 with ea_ en_ ec_; (first | subst ea_ | (injection ea_ with ea_; subst ea_)); subst ec_; clear en_))
                                  have GB27 := Aside0.mk gb27
                                  have GG27 := Aside0.mk HG27
                                  clear gb27 gl27 HG27
                                  obtain ⟨hx27_0, hf27_0⟩ := Kd.R_celln 0 HO_8.out (a1 : Int) p27 q27
                                  replace p27 := eq_true p27
                                  replace q27 := eq_true q27
                                  have HP46 := Kd.R_putg HO_8.out (a1 : Int) a2
                                  go_wp2_with (first | ((with_reducible refine gate_store (t := 5) (p := 55) rfl ?_); refine store_event (t := 5) (p := 55) (v := ?vo_w47) (w1 := (wc.setCell ⟨go27, (a1 : Int).toNat, none⟩ (.int .u8 a2))) ?hg ?ho ?hn ?hr ?_; (case ho => rfl); (case hg => rfl); (case hn => rfl); (case hr => first | (go_simp; done) | (go_simp; rfl)); intro w47 hw; have hg : wc.grownBy w47 (some go27) := (by rw [hw]; exact HP46.2); have hp_ : Kd.R (Kd.int .u8) 5 w47 w.heap.size (fun _ => True) (.slice (some ⟨go27, 0, none⟩) x8_2.length co27) y115 := (by rw [hw, Ny115.out]; exact HP46.1); clear HP46; have n0_ := Aside0.mk (hp_); have n1_ := Aside0.mk ((by rw [hw]; exact below_set (HB.out) GB27.out : Below w.heap.size w w47)); clear HO_8; clear HB; have HO_8 := n0_; have HB := n1_; clear n0_ n1_; clear hg hw hp_; have hcv48 := own_string (P := Try.prog) Try.underlying23 Try.underlying5 Try.underlying9 (Kd.own_of_R HO_8.out)) | ((with_reducible refine gate_callee (f := 9) rfl ?_); refine goesL_ (some 69) rfl rfl Try.func9 (by kernel_rfl) rfl #[.agg #[.int .i64 9, .string (strOfNums y115)]] rfl (by (try simp only [List.map_toArray, List.map_cons, List.map_nil]); first | done | rfl | (simp only [List.length_drop, List.length_take]; rfl)) ?_; (with_reducible refine (entry_Pack.calls 9 (strOfNums y115) t116 t119 _ A30.out).mono ?_); rintro e w49 ⟨v117, rfl, ho0, hb⟩; refine ⟨_, rfl, ?_⟩; have n0_ := Aside0.mk (Kd.R_elder' (by (with_reducible repeat (first | apply Kd.R_alloc | apply Kd.R_drewN | apply Kd.R_drew)); exact HO_8.out) (Kd.R_base ho0) hb); have n1_ := Aside0.mk (Kd.R_lower (Kd.R_new' ho0 (Kd.R_lt (by (with_reducible repeat (first | apply Kd.R_alloc | apply Kd.R_drewN | apply Kd.R_drew)); exact HO_8.out))) (below_size (by repeat (first | (with_reducible first | exact HB.out | apply below_alloc | apply pw_below_drewN | apply below_drew1) | exact HB.out)))); have n2_ := Aside0.mk (below_step (by repeat (first | (with_reducible first | exact HB.out | apply below_alloc | apply pw_below_drewN | apply below_drew1) | exact HB.out)) hb); clear HO_8; clear HB; have HO_8 := n0_; have HO118 := n1_; have HB := n2_; clear n0_ n1_ n2_; (try clear hb); (try clear hb2); (try clear hk); (try clear hi); (try clear ho0); have hcv50 := own_string (P := Try.prog) Try.underlying23 Try.underlying5 Try.underlying9 (Kd.own_of_R HO_8.out)) | ((with_reducible refine gate_callee (f := 10) rfl ?_); refine goesL_ (some 74) rfl rfl Try.func10 (by kernel_rfl) rfl #[.string (strOfNums y115)] rfl (by (try simp only [List.map_toArray, List.map_cons, List.map_nil]); first | done | rfl | (simp only [List.length_drop, List.length_take]; rfl)) ?_; (with_reducible refine (entry_Name.calls (strOfNums y115) t120 _ A31.out).mono ?_); rintro e w' ⟨rfl, ⟨nd, rfl⟩⟩; refine ⟨_, rfl, ?_⟩))
                                  go_ret
                                  exact ⟨by first | rfl | (simp [errW_none, errW_some] <;> rfl) | (simp [*, errW_none, errW_some] <;> rfl), by repeat (first | (with_reducible first | exact HB.out | apply below_alloc | apply pw_below_drewN | apply below_drew1) | exact HB.out)⟩
                              · rw [if_neg c29] at H
                                have c29b0 : (a2 == 0) = false := beq_eq_false_iff_ne.mpr c29
                                have c29b1 : (a2 != 0) = true := bne_iff_ne.mpr c29
                                replace H := Option.bind_eq_some_iff.mp H
                                obtain ⟨⟨t122, t125⟩, A510, H⟩ := H
                                replace H : ((entry_Name.f (strOfNums y115)).bind fun t126 => (if (t126 == (a2 != 47)) = true then ((lockgatelaw6_num.f t125).bind fun t127 => (if ((t127 == 0) == (a2 != 47)) = true then (some (((t122.length : Int) == 32) == (a2 != 47))) else (some false))) else (some false))) = some r := H
                                have A51 := Aside0.mk A510
                                clear A510
                                replace H := Option.bind_eq_some_iff.mp H
                                obtain ⟨t126, A520, H⟩ := H
                                replace H : (if (t126 == (a2 != 47)) = true then ((lockgatelaw6_num.f t125).bind fun t127 => (if ((t127 == 0) == (a2 != 47)) = true then (some (((t122.length : Int) == 32) == (a2 != 47))) else (some false))) else (some false)) = some r := H
                                have A52 := Aside0.mk A520
                                clear A520
                                by_cases c53 : (t126 == (a2 != 47)) = true
                                · rw [if_pos c53] at H
                                  have c53b0 : (t126 == (a2 != 47)) = true := c53
                                  (try (have c53b1 : decide (t126 = (a2 != 47)) = true := by simpa using c53))
                                  (try (have c53b2 : (t126 == (a2 != 47)) = true := by simpa using c53))
                                  clear c53
                                  replace H := Option.bind_eq_some_iff.mp H
                                  obtain ⟨t127, A540, H⟩ := H
                                  replace H : (if ((t127 == 0) == (a2 != 47)) = true then (some (((t122.length : Int) == 32) == (a2 != 47))) else (some false)) = some r := H
                                  have A54 := Aside0.mk A540
                                  clear A540
                                  by_cases c55 : ((t127 == 0) == (a2 != 47)) = true
                                  · rw [if_pos c55] at H
                                    have c55b0 : ((t127 == 0) == (a2 != 47)) = true := c55
                                    (try (have c55b1 : decide ((t127 == 0) = (a2 != 47)) = true := by simpa using c55))
                                    (try (have c55b2 : ((t127 == 0) == (a2 != 47)) = true := by simpa using c55))
                                    clear c55
                                    obtain rfl := Option.some.inj H
                                    have p27 : 0 ≤ (a1 : Int) := of_decide_eq_true (by first | (with_reducible assumption) | assumption)
                                    have q27 : (a1 : Int) < ((x8_2.length : Int) : Int) := of_decide_eq_true (by first | (with_reducible assumption) | assumption)
                                    obtain ⟨go27, co27, eo27, gb27, gl27, cl27, HG27⟩ := Kd.R_form HO_8.out (by omega)
                                    (first | cases eo27 | (injection eo27 with ea_ en_ ec_; (first | subst ea_ | (injection ea_ with ea_; subst ea_)); subst ec_; clear en_))
                                    have GB27 := Aside0.mk gb27
                                    have GG27 := Aside0.mk HG27
                                    clear gb27 gl27 HG27
                                    obtain ⟨hx27_0, hf27_0⟩ := Kd.R_celln 0 HO_8.out (a1 : Int) p27 q27
                                    replace p27 := eq_true p27
                                    replace q27 := eq_true q27
                                    have HP56 := Kd.R_putg HO_8.out (a1 : Int) a2
                                    go_wp2_with (first | ((with_reducible refine gate_store (t := 5) (p := 55) rfl ?_); refine store_event (t := 5) (p := 55) (v := ?vo_w57) (w1 := (wc.setCell ⟨go27, (a1 : Int).toNat, none⟩ (.int .u8 a2))) ?hg ?ho ?hn ?hr ?_; (case ho => rfl); (case hg => rfl); (case hn => rfl); (case hr => first | (go_simp; done) | (go_simp; rfl)); intro w57 hw; have hg : wc.grownBy w57 (some go27) := (by rw [hw]; exact HP56.2); have hp_ : Kd.R (Kd.int .u8) 5 w57 w.heap.size (fun _ => True) (.slice (some ⟨go27, 0, none⟩) x8_2.length co27) y115 := (by rw [hw, Ny115.out]; exact HP56.1); clear HP56; have n0_ := Aside0.mk (hp_); have n1_ := Aside0.mk ((by rw [hw]; exact below_set (HB.out) GB27.out : Below w.heap.size w w57)); clear HO_8; clear HB; have HO_8 := n0_; have HB := n1_; clear n0_ n1_; clear hg hw hp_; have hcv58 := own_string (P := Try.prog) Try.underlying23 Try.underlying5 Try.underlying9 (Kd.own_of_R HO_8.out)) | ((with_reducible refine gate_callee (f := 9) rfl ?_); refine goesL_ (some 69) rfl rfl Try.func9 (by kernel_rfl) rfl #[.agg #[.int .i64 9, .string (strOfNums y115)]] rfl (by (try simp only [List.map_toArray, List.map_cons, List.map_nil]); first | done | rfl | (simp only [List.length_drop, List.length_take]; rfl)) ?_; (with_reducible refine (entry_Pack.calls 9 (strOfNums y115) t122 t125 _ A51.out).mono ?_); rintro e w59 ⟨v123, rfl, ho0, hb⟩; refine ⟨_, rfl, ?_⟩; have n0_ := Aside0.mk (Kd.R_elder' (by (with_reducible repeat (first | apply Kd.R_alloc | apply Kd.R_drewN | apply Kd.R_drew)); exact HO_8.out) (Kd.R_base ho0) hb); have n1_ := Aside0.mk (Kd.R_lower (Kd.R_new' ho0 (Kd.R_lt (by (with_reducible repeat (first | apply Kd.R_alloc | apply Kd.R_drewN | apply Kd.R_drew)); exact HO_8.out))) (below_size (by repeat (first | (with_reducible first | exact HB.out | apply below_alloc | apply pw_below_drewN | apply below_drew1) | exact HB.out)))); have n2_ := Aside0.mk (below_step (by repeat (first | (with_reducible first | exact HB.out | apply below_alloc | apply pw_below_drewN | apply below_drew1) | exact HB.out)) hb); clear HO_8; clear HB; have HO_8 := n0_; have HO124 := n1_; have HB := n2_; clear n0_ n1_ n2_; (try clear hb); (try clear hb2); (try clear hk); (try clear hi); (try clear ho0); have hcv60 := own_string (P := Try.prog) Try.underlying23 Try.underlying5 Try.underlying9 (Kd.own_of_R HO_8.out)) | ((with_reducible refine gate_callee (f := 10) rfl ?_); refine goesL_ (some 74) rfl rfl Try.func10 (by kernel_rfl) rfl #[.string (strOfNums y115)] rfl (by (try simp only [List.map_toArray, List.map_cons, List.map_nil]); first | done | rfl | (simp only [List.length_drop, List.length_take]; rfl)) ?_; (with_reducible refine (entry_Name.calls (strOfNums y115) t126 _ A52.out).mono ?_); rintro e w' ⟨rfl, ⟨nd, rfl⟩⟩; refine ⟨_, rfl, ?_⟩) | (go_at_call 11; (with_reducible refine (lockgatelaw6_num.calls t125 t127 _ A54.out).mono ?_); rintro e w' ⟨rfl, ⟨nd, rfl⟩⟩; obtain ⟨Ao61, co61, eo61⟩ := Kd.R_slice HO124.out; subst eo61))
                                    go_ret
                                    exact ⟨by first | rfl | (simp [errW_none, errW_some] <;> rfl) | (simp [*, errW_none, errW_some] <;> rfl), by repeat (first | (with_reducible first | exact HB.out | apply below_alloc | apply pw_below_drewN | apply below_drew1) | exact HB.out)⟩
                                  · rw [if_neg c55] at H
                                    have c55b0 : ((t127 == 0) == (a2 != 47)) = false := by simpa using c55
                                    (try (have c55b1 : decide ((t127 == 0) = (a2 != 47)) = false := by simpa using c55))
                                    (try (have c55b2 : ((t127 == 0) == (a2 != 47)) = false := by simpa using c55))
                                    (try (have c55b3 : ¬ ((t127 == 0) = (a2 != 47)) := by simpa using c55))
                                    clear c55
                                    obtain rfl := Option.some.inj H
                                    have p27 : 0 ≤ (a1 : Int) := of_decide_eq_true (by first | (with_reducible assumption) | assumption)
                                    have q27 : (a1 : Int) < ((x8_2.length : Int) : Int) := of_decide_eq_true (by first | (with_reducible assumption) | assumption)
                                    obtain ⟨go27, co27, eo27, gb27, gl27, cl27, HG27⟩ := Kd.R_form HO_8.out (by omega)
                                    (first | cases eo27 | (injection eo27 with ea_ en_ ec_; (first | subst ea_ | (injection ea_ with ea_; subst ea_)); subst ec_; clear en_))
                                    have GB27 := Aside0.mk gb27
                                    have GG27 := Aside0.mk HG27
                                    clear gb27 gl27 HG27
                                    obtain ⟨hx27_0, hf27_0⟩ := Kd.R_celln 0 HO_8.out (a1 : Int) p27 q27
                                    replace p27 := eq_true p27
                                    replace q27 := eq_true q27
                                    have HP62 := Kd.R_putg HO_8.out (a1 : Int) a2
                                    go_wp2_with (first | ((with_reducible refine gate_store (t := 5) (p := 55) rfl ?_); refine store_event (t := 5) (p := 55) (v := ?vo_w63) (w1 := (wc.setCell ⟨go27, (a1 : Int).toNat, none⟩ (.int .u8 a2))) ?hg ?ho ?hn ?hr ?_; (case ho => rfl); (case hg => rfl); (case hn => rfl); (case hr => first | (go_simp; done) | (go_simp; rfl)); intro w63 hw; have hg : wc.grownBy w63 (some go27) := (by rw [hw]; exact HP62.2); have hp_ : Kd.R (Kd.int .u8) 5 w63 w.heap.size (fun _ => True) (.slice (some ⟨go27, 0, none⟩) x8_2.length co27) y115 := (by rw [hw, Ny115.out]; exact HP62.1); clear HP62; have n0_ := Aside0.mk (hp_); have n1_ := Aside0.mk ((by rw [hw]; exact below_set (HB.out) GB27.out : Below w.heap.size w w63)); clear HO_8; clear HB; have HO_8 := n0_; have HB := n1_; clear n0_ n1_; clear hg hw hp_; have hcv64 := own_string (P := Try.prog) Try.underlying23 Try.underlying5 Try.underlying9 (Kd.own_of_R HO_8.out)) | ((with_reducible refine gate_callee (f := 9) rfl ?_); refine goesL_ (some 69) rfl rfl Try.func9 (by kernel_rfl) rfl #[.agg #[.int .i64 9, .string (strOfNums y115)]] rfl (by (try simp only [List.map_toArray, List.map_cons, List.map_nil]); first | done | rfl | (simp only [List.length_drop, List.length_take]; rfl)) ?_; (with_reducible refine (entry_Pack.calls 9 (strOfNums y115) t122 t125 _ A51.out).mono ?_); rintro e w65 ⟨v123, rfl, ho0, hb⟩; refine ⟨_, rfl, ?_⟩; have n0_ := Aside0.mk (Kd.R_elder' (by (with_reducible repeat (first | apply Kd.R_alloc | apply Kd.R_drewN | apply Kd.R_drew)); exact HO_8.out) (Kd.R_base ho0) hb); have n1_ := Aside0.mk (Kd.R_lower (Kd.R_new' ho0 (Kd.R_lt (by (with_reducible repeat (first | apply Kd.R_alloc | apply Kd.R_drewN | apply Kd.R_drew)); exact HO_8.out))) (below_size (by repeat (first | (with_reducible first | exact HB.out | apply below_alloc | apply pw_below_drewN | apply below_drew1) | exact HB.out)))); have n2_ := Aside0.mk (below_step (by repeat (first | (with_reducible first | exact HB.out | apply below_alloc | apply pw_below_drewN | apply below_drew1) | exact HB.out)) hb); clear HO_8; clear HB; have HO_8 := n0_; have HO124 := n1_; have HB := n2_; clear n0_ n1_ n2_; (try clear hb); (try clear hb2); (try clear hk); (try clear hi); (try clear ho0); have hcv66 := own_string (P := Try.prog) Try.underlying23 Try.underlying5 Try.underlying9 (Kd.own_of_R HO_8.out)) | ((with_reducible refine gate_callee (f := 10) rfl ?_); refine goesL_ (some 74) rfl rfl Try.func10 (by kernel_rfl) rfl #[.string (strOfNums y115)] rfl (by (try simp only [List.map_toArray, List.map_cons, List.map_nil]); first | done | rfl | (simp only [List.length_drop, List.length_take]; rfl)) ?_; (with_reducible refine (entry_Name.calls (strOfNums y115) t126 _ A52.out).mono ?_); rintro e w' ⟨rfl, ⟨nd, rfl⟩⟩; refine ⟨_, rfl, ?_⟩) | (go_at_call 11; (with_reducible refine (lockgatelaw6_num.calls t125 t127 _ A54.out).mono ?_); rintro e w' ⟨rfl, ⟨nd, rfl⟩⟩))
                                    go_ret
                                    exact ⟨by first | rfl | (simp [errW_none, errW_some] <;> rfl) | (simp [*, errW_none, errW_some] <;> rfl), by repeat (first | (with_reducible first | exact HB.out | apply below_alloc | apply pw_below_drewN | apply below_drew1) | exact HB.out)⟩
                                · rw [if_neg c53] at H
                                  have c53b0 : (t126 == (a2 != 47)) = false := by simpa using c53
                                  (try (have c53b1 : decide (t126 = (a2 != 47)) = false := by simpa using c53))
                                  (try (have c53b2 : (t126 == (a2 != 47)) = false := by simpa using c53))
                                  (try (have c53b3 : ¬ (t126 = (a2 != 47)) := by simpa using c53))
                                  clear c53
                                  obtain rfl := Option.some.inj H
                                  have p27 : 0 ≤ (a1 : Int) := of_decide_eq_true (by first | (with_reducible assumption) | assumption)
                                  have q27 : (a1 : Int) < ((x8_2.length : Int) : Int) := of_decide_eq_true (by first | (with_reducible assumption) | assumption)
                                  obtain ⟨go27, co27, eo27, gb27, gl27, cl27, HG27⟩ := Kd.R_form HO_8.out (by omega)
                                  (first | cases eo27 | (injection eo27 with ea_ en_ ec_; (first | subst ea_ | (injection ea_ with ea_; subst ea_)); subst ec_; clear en_))
                                  have GB27 := Aside0.mk gb27
                                  have GG27 := Aside0.mk HG27
                                  clear gb27 gl27 HG27
                                  obtain ⟨hx27_0, hf27_0⟩ := Kd.R_celln 0 HO_8.out (a1 : Int) p27 q27
                                  replace p27 := eq_true p27
                                  replace q27 := eq_true q27
                                  have HP67 := Kd.R_putg HO_8.out (a1 : Int) a2
                                  go_wp2_with (first | ((with_reducible refine gate_store (t := 5) (p := 55) rfl ?_); refine store_event (t := 5) (p := 55) (v := ?vo_w68) (w1 := (wc.setCell ⟨go27, (a1 : Int).toNat, none⟩ (.int .u8 a2))) ?hg ?ho ?hn ?hr ?_; (case ho => rfl); (case hg => rfl); (case hn => rfl); (case hr => first | (go_simp; done) | (go_simp; rfl)); intro w68 hw; have hg : wc.grownBy w68 (some go27) := (by rw [hw]; exact HP67.2); have hp_ : Kd.R (Kd.int .u8) 5 w68 w.heap.size (fun _ => True) (.slice (some ⟨go27, 0, none⟩) x8_2.length co27) y115 := (by rw [hw, Ny115.out]; exact HP67.1); clear HP67; have n0_ := Aside0.mk (hp_); have n1_ := Aside0.mk ((by rw [hw]; exact below_set (HB.out) GB27.out : Below w.heap.size w w68)); clear HO_8; clear HB; have HO_8 := n0_; have HB := n1_; clear n0_ n1_; clear hg hw hp_; have hcv69 := own_string (P := Try.prog) Try.underlying23 Try.underlying5 Try.underlying9 (Kd.own_of_R HO_8.out)) | ((with_reducible refine gate_callee (f := 9) rfl ?_); refine goesL_ (some 69) rfl rfl Try.func9 (by kernel_rfl) rfl #[.agg #[.int .i64 9, .string (strOfNums y115)]] rfl (by (try simp only [List.map_toArray, List.map_cons, List.map_nil]); first | done | rfl | (simp only [List.length_drop, List.length_take]; rfl)) ?_; (with_reducible refine (entry_Pack.calls 9 (strOfNums y115) t122 t125 _ A51.out).mono ?_); rintro e w70 ⟨v123, rfl, ho0, hb⟩; refine ⟨_, rfl, ?_⟩; have n0_ := Aside0.mk (Kd.R_elder' (by (with_reducible repeat (first | apply Kd.R_alloc | apply Kd.R_drewN | apply Kd.R_drew)); exact HO_8.out) (Kd.R_base ho0) hb); have n1_ := Aside0.mk (Kd.R_lower (Kd.R_new' ho0 (Kd.R_lt (by (with_reducible repeat (first | apply Kd.R_alloc | apply Kd.R_drewN | apply Kd.R_drew)); exact HO_8.out))) (below_size (by repeat (first | (with_reducible first | exact HB.out | apply below_alloc | apply pw_below_drewN | apply below_drew1) | exact HB.out)))); have n2_ := Aside0.mk (below_step (by repeat (first | (with_reducible first | exact HB.out | apply below_alloc | apply pw_below_drewN | apply below_drew1) | exact HB.out)) hb); clear HO_8; clear HB; have HO_8 := n0_; have HO124 := n1_; have HB := n2_; clear n0_ n1_ n2_; (try clear hb); (try clear hb2); (try clear hk); (try clear hi); (try clear ho0); have hcv71 := own_string (P := Try.prog) Try.underlying23 Try.underlying5 Try.underlying9 (Kd.own_of_R HO_8.out)) | ((with_reducible refine gate_callee (f := 10) rfl ?_); refine goesL_ (some 74) rfl rfl Try.func10 (by kernel_rfl) rfl #[.string (strOfNums y115)] rfl (by (try simp only [List.map_toArray, List.map_cons, List.map_nil]); first | done | rfl | (simp only [List.length_drop, List.length_take]; rfl)) ?_; (with_reducible refine (entry_Name.calls (strOfNums y115) t126 _ A52.out).mono ?_); rintro e w' ⟨rfl, ⟨nd, rfl⟩⟩; refine ⟨_, rfl, ?_⟩))
                                  go_ret
                                  exact ⟨by first | rfl | (simp [errW_none, errW_some] <;> rfl) | (simp [*, errW_none, errW_some] <;> rfl), by repeat (first | (with_reducible first | exact HB.out | apply below_alloc | apply pw_below_drewN | apply below_drew1) | exact HB.out)⟩
                            · replace c28 := Bool.eq_false_iff.mpr c28
                              subst c28
                              have H1 : ((entry_Pack.f 9 (strOfNums y115)).bind fun bt128 => ((entry_Name.f (strOfNums y115)).bind fun t132 => (if (t132 == false) = true then ((lockgatelaw6_num.f bt128.2).bind fun t133 => (if ((t133 == 0) == false) = true then (some (((bt128.1.length : Int) == 32) == false)) else (some false))) else (some false)))) = some r := by rw [if_neg (show ¬ (false = true) by decide)] at H; exact H
                              clear H
                              have H := H1
                              clear H1
                              replace H := Option.bind_eq_some_iff.mp H
                              obtain ⟨⟨t128, t131⟩, A720, H⟩ := H
                              replace H : ((entry_Name.f (strOfNums y115)).bind fun t132 => (if (t132 == false) = true then ((lockgatelaw6_num.f t131).bind fun t133 => (if ((t133 == 0) == false) = true then (some (((t128.length : Int) == 32) == false)) else (some false))) else (some false))) = some r := H
                              have A72 := Aside0.mk A720
                              clear A720
                              replace H := Option.bind_eq_some_iff.mp H
                              obtain ⟨t132, A730, H⟩ := H
                              replace H : (if (t132 == false) = true then ((lockgatelaw6_num.f t131).bind fun t133 => (if ((t133 == 0) == false) = true then (some (((t128.length : Int) == 32) == false)) else (some false))) else (some false)) = some r := H
                              have A73 := Aside0.mk A730
                              clear A730
                              by_cases c74 : (t132 == false) = true
                              · rw [if_pos c74] at H
                                have c74b0 : (t132 == false) = true := c74
                                (try (have c74b1 : decide (t132 = false) = true := by simpa using c74))
                                (try (have c74b2 : (t132 == false) = true := by simpa using c74))
                                clear c74
                                replace H := Option.bind_eq_some_iff.mp H
                                obtain ⟨t133, A750, H⟩ := H
                                replace H : (if ((t133 == 0) == false) = true then (some (((t128.length : Int) == 32) == false)) else (some false)) = some r := H
                                have A75 := Aside0.mk A750
                                clear A750
                                by_cases c76 : ((t133 == 0) == false) = true
                                · rw [if_pos c76] at H
                                  have c76b0 : ((t133 == 0) == false) = true := c76
                                  (try (have c76b1 : decide ((t133 == 0) = false) = true := by simpa using c76))
                                  (try (have c76b2 : ((t133 == 0) == false) = true := by simpa using c76))
                                  clear c76
                                  obtain rfl := Option.some.inj H
                                  have p27 : 0 ≤ (a1 : Int) := of_decide_eq_true (by first | (with_reducible assumption) | assumption)
                                  have q27 : (a1 : Int) < ((x8_2.length : Int) : Int) := of_decide_eq_true (by first | (with_reducible assumption) | assumption)
                                  obtain ⟨go27, co27, eo27, gb27, gl27, cl27, HG27⟩ := Kd.R_form HO_8.out (by omega)
                                  (first | cases eo27 | (injection eo27 with ea_ en_ ec_; (first | subst ea_ | (injection ea_ with ea_; subst ea_)); subst ec_; clear en_))
                                  have GB27 := Aside0.mk gb27
                                  have GG27 := Aside0.mk HG27
                                  clear gb27 gl27 HG27
                                  obtain ⟨hx27_0, hf27_0⟩ := Kd.R_celln 0 HO_8.out (a1 : Int) p27 q27
                                  replace p27 := eq_true p27
                                  replace q27 := eq_true q27
                                  have HP77 := Kd.R_putg HO_8.out (a1 : Int) a2
                                  go_wp2_with (first | ((with_reducible refine gate_store (t := 5) (p := 55) rfl ?_); refine store_event (t := 5) (p := 55) (v := ?vo_w78) (w1 := (wc.setCell ⟨go27, (a1 : Int).toNat, none⟩ (.int .u8 a2))) ?hg ?ho ?hn ?hr ?_; (case ho => rfl); (case hg => rfl); (case hn => rfl); (case hr => first | (go_simp; done) | (go_simp; rfl)); intro w78 hw; have hg : wc.grownBy w78 (some go27) := (by rw [hw]; exact HP77.2); have hp_ : Kd.R (Kd.int .u8) 5 w78 w.heap.size (fun _ => True) (.slice (some ⟨go27, 0, none⟩) x8_2.length co27) y115 := (by rw [hw, Ny115.out]; exact HP77.1); clear HP77; have n0_ := Aside0.mk (hp_); have n1_ := Aside0.mk ((by rw [hw]; exact below_set (HB.out) GB27.out : Below w.heap.size w w78)); clear HO_8; clear HB; have HO_8 := n0_; have HB := n1_; clear n0_ n1_; clear hg hw hp_; have hcv79 := own_string (P := Try.prog) Try.underlying23 Try.underlying5 Try.underlying9 (Kd.own_of_R HO_8.out)) | ((with_reducible refine gate_callee (f := 9) rfl ?_); refine goesL_ (some 69) rfl rfl Try.func9 (by kernel_rfl) rfl #[.agg #[.int .i64 9, .string (strOfNums y115)]] rfl (by (try simp only [List.map_toArray, List.map_cons, List.map_nil]); first | done | rfl | (simp only [List.length_drop, List.length_take]; rfl)) ?_; (with_reducible refine (entry_Pack.calls 9 (strOfNums y115) t128 t131 _ A72.out).mono ?_); rintro e w80 ⟨v129, rfl, ho0, hb⟩; refine ⟨_, rfl, ?_⟩; have n0_ := Aside0.mk (Kd.R_elder' (by (with_reducible repeat (first | apply Kd.R_alloc | apply Kd.R_drewN | apply Kd.R_drew)); exact HO_8.out) (Kd.R_base ho0) hb); have n1_ := Aside0.mk (Kd.R_lower (Kd.R_new' ho0 (Kd.R_lt (by (with_reducible repeat (first | apply Kd.R_alloc | apply Kd.R_drewN | apply Kd.R_drew)); exact HO_8.out))) (below_size (by repeat (first | (with_reducible first | exact HB.out | apply below_alloc | apply pw_below_drewN | apply below_drew1) | exact HB.out)))); have n2_ := Aside0.mk (below_step (by repeat (first | (with_reducible first | exact HB.out | apply below_alloc | apply pw_below_drewN | apply below_drew1) | exact HB.out)) hb); clear HO_8; clear HB; have HO_8 := n0_; have HO130 := n1_; have HB := n2_; clear n0_ n1_ n2_; (try clear hb); (try clear hb2); (try clear hk); (try clear hi); (try clear ho0); have hcv81 := own_string (P := Try.prog) Try.underlying23 Try.underlying5 Try.underlying9 (Kd.own_of_R HO_8.out)) | ((with_reducible refine gate_callee (f := 10) rfl ?_); refine goesL_ (some 74) rfl rfl Try.func10 (by kernel_rfl) rfl #[.string (strOfNums y115)] rfl (by (try simp only [List.map_toArray, List.map_cons, List.map_nil]); first | done | rfl | (simp only [List.length_drop, List.length_take]; rfl)) ?_; (with_reducible refine (entry_Name.calls (strOfNums y115) t132 _ A73.out).mono ?_); rintro e w' ⟨rfl, ⟨nd, rfl⟩⟩; refine ⟨_, rfl, ?_⟩) | (go_at_call 11; (with_reducible refine (lockgatelaw6_num.calls t131 t133 _ A75.out).mono ?_); rintro e w' ⟨rfl, ⟨nd, rfl⟩⟩; obtain ⟨Ao82, co82, eo82⟩ := Kd.R_slice HO130.out; subst eo82))
                                  go_ret
                                  exact ⟨by first | rfl | (simp [errW_none, errW_some] <;> rfl) | (simp [*, errW_none, errW_some] <;> rfl), by repeat (first | (with_reducible first | exact HB.out | apply below_alloc | apply pw_below_drewN | apply below_drew1) | exact HB.out)⟩
                                · rw [if_neg c76] at H
                                  have c76b0 : ((t133 == 0) == false) = false := by simpa using c76
                                  (try (have c76b1 : decide ((t133 == 0) = false) = false := by simpa using c76))
                                  (try (have c76b2 : ((t133 == 0) == false) = false := by simpa using c76))
                                  (try (have c76b3 : ¬ ((t133 == 0) = false) := by simpa using c76))
                                  clear c76
                                  obtain rfl := Option.some.inj H
                                  have p27 : 0 ≤ (a1 : Int) := of_decide_eq_true (by first | (with_reducible assumption) | assumption)
                                  have q27 : (a1 : Int) < ((x8_2.length : Int) : Int) := of_decide_eq_true (by first | (with_reducible assumption) | assumption)
                                  obtain ⟨go27, co27, eo27, gb27, gl27, cl27, HG27⟩ := Kd.R_form HO_8.out (by omega)
                                  (first | cases eo27 | (injection eo27 with ea_ en_ ec_; (first | subst ea_ | (injection ea_ with ea_; subst ea_)); subst ec_; clear en_))
                                  have GB27 := Aside0.mk gb27
                                  have GG27 := Aside0.mk HG27
                                  clear gb27 gl27 HG27
                                  obtain ⟨hx27_0, hf27_0⟩ := Kd.R_celln 0 HO_8.out (a1 : Int) p27 q27
                                  replace p27 := eq_true p27
                                  replace q27 := eq_true q27
                                  have HP83 := Kd.R_putg HO_8.out (a1 : Int) a2
                                  go_wp2_with (first | ((with_reducible refine gate_store (t := 5) (p := 55) rfl ?_); refine store_event (t := 5) (p := 55) (v := ?vo_w84) (w1 := (wc.setCell ⟨go27, (a1 : Int).toNat, none⟩ (.int .u8 a2))) ?hg ?ho ?hn ?hr ?_; (case ho => rfl); (case hg => rfl); (case hn => rfl); (case hr => first | (go_simp; done) | (go_simp; rfl)); intro w84 hw; have hg : wc.grownBy w84 (some go27) := (by rw [hw]; exact HP83.2); have hp_ : Kd.R (Kd.int .u8) 5 w84 w.heap.size (fun _ => True) (.slice (some ⟨go27, 0, none⟩) x8_2.length co27) y115 := (by rw [hw, Ny115.out]; exact HP83.1); clear HP83; have n0_ := Aside0.mk (hp_); have n1_ := Aside0.mk ((by rw [hw]; exact below_set (HB.out) GB27.out : Below w.heap.size w w84)); clear HO_8; clear HB; have HO_8 := n0_; have HB := n1_; clear n0_ n1_; clear hg hw hp_; have hcv85 := own_string (P := Try.prog) Try.underlying23 Try.underlying5 Try.underlying9 (Kd.own_of_R HO_8.out)) | ((with_reducible refine gate_callee (f := 9) rfl ?_); refine goesL_ (some 69) rfl rfl Try.func9 (by kernel_rfl) rfl #[.agg #[.int .i64 9, .string (strOfNums y115)]] rfl (by (try simp only [List.map_toArray, List.map_cons, List.map_nil]); first | done | rfl | (simp only [List.length_drop, List.length_take]; rfl)) ?_; (with_reducible refine (entry_Pack.calls 9 (strOfNums y115) t128 t131 _ A72.out).mono ?_); rintro e w86 ⟨v129, rfl, ho0, hb⟩; refine ⟨_, rfl, ?_⟩; have n0_ := Aside0.mk (Kd.R_elder' (by (with_reducible repeat (first | apply Kd.R_alloc | apply Kd.R_drewN | apply Kd.R_drew)); exact HO_8.out) (Kd.R_base ho0) hb); have n1_ := Aside0.mk (Kd.R_lower (Kd.R_new' ho0 (Kd.R_lt (by (with_reducible repeat (first | apply Kd.R_alloc | apply Kd.R_drewN | apply Kd.R_drew)); exact HO_8.out))) (below_size (by repeat (first | (with_reducible first | exact HB.out | apply below_alloc | apply pw_below_drewN | apply below_drew1) | exact HB.out)))); have n2_ := Aside0.mk (below_step (by repeat (first | (with_reducible first | exact HB.out | apply below_alloc | apply pw_below_drewN | apply below_drew1) | exact HB.out)) hb); clear HO_8; clear HB; have HO_8 := n0_; have HO130 := n1_; have HB := n2_; clear n0_ n1_ n2_; (try clear hb); (try clear hb2); (try clear hk); (try clear hi); (try clear ho0); have hcv87 := own_string (P := Try.prog) Try.underlying23 Try.underlying5 Try.underlying9 (Kd.own_of_R HO_8.out)) | ((with_reducible refine gate_callee (f := 10) rfl ?_); refine goesL_ (some 74) rfl rfl Try.func10 (by kernel_rfl) rfl #[.string (strOfNums y115)] rfl (by (try simp only [List.map_toArray, List.map_cons, List.map_nil]); first | done | rfl | (simp only [List.length_drop, List.length_take]; rfl)) ?_; (with_reducible refine (entry_Name.calls (strOfNums y115) t132 _ A73.out).mono ?_); rintro e w' ⟨rfl, ⟨nd, rfl⟩⟩; refine ⟨_, rfl, ?_⟩) | (go_at_call 11; (with_reducible refine (lockgatelaw6_num.calls t131 t133 _ A75.out).mono ?_); rintro e w' ⟨rfl, ⟨nd, rfl⟩⟩))
                                  go_ret
                                  exact ⟨by first | rfl | (simp [errW_none, errW_some] <;> rfl) | (simp [*, errW_none, errW_some] <;> rfl), by repeat (first | (with_reducible first | exact HB.out | apply below_alloc | apply pw_below_drewN | apply below_drew1) | exact HB.out)⟩
                              · rw [if_neg c74] at H
                                have c74b0 : (t132 == false) = false := by simpa using c74
                                (try (have c74b1 : decide (t132 = false) = false := by simpa using c74))
                                (try (have c74b2 : (t132 == false) = false := by simpa using c74))
                                (try (have c74b3 : ¬ (t132 = false) := by simpa using c74))
                                clear c74
                                obtain rfl := Option.some.inj H
                                have p27 : 0 ≤ (a1 : Int) := of_decide_eq_true (by first | (with_reducible assumption) | assumption)
                                have q27 : (a1 : Int) < ((x8_2.length : Int) : Int) := of_decide_eq_true (by first | (with_reducible assumption) | assumption)
                                obtain ⟨go27, co27, eo27, gb27, gl27, cl27, HG27⟩ := Kd.R_form HO_8.out (by omega)
                                (first | cases eo27 | (injection eo27 with ea_ en_ ec_; (first | subst ea_ | (injection ea_ with ea_; subst ea_)); subst ec_; clear en_))
                                have GB27 := Aside0.mk gb27
                                have GG27 := Aside0.mk HG27
                                clear gb27 gl27 HG27
                                obtain ⟨hx27_0, hf27_0⟩ := Kd.R_celln 0 HO_8.out (a1 : Int) p27 q27
                                replace p27 := eq_true p27
                                replace q27 := eq_true q27
                                have HP88 := Kd.R_putg HO_8.out (a1 : Int) a2
                                go_wp2_with (first | ((with_reducible refine gate_store (t := 5) (p := 55) rfl ?_); refine store_event (t := 5) (p := 55) (v := ?vo_w89) (w1 := (wc.setCell ⟨go27, (a1 : Int).toNat, none⟩ (.int .u8 a2))) ?hg ?ho ?hn ?hr ?_; (case ho => rfl); (case hg => rfl); (case hn => rfl); (case hr => first | (go_simp; done) | (go_simp; rfl)); intro w89 hw; have hg : wc.grownBy w89 (some go27) := (by rw [hw]; exact HP88.2); have hp_ : Kd.R (Kd.int .u8) 5 w89 w.heap.size (fun _ => True) (.slice (some ⟨go27, 0, none⟩) x8_2.length co27) y115 := (by rw [hw, Ny115.out]; exact HP88.1); clear HP88; have n0_ := Aside0.mk (hp_); have n1_ := Aside0.mk ((by rw [hw]; exact below_set (HB.out) GB27.out : Below w.heap.size w w89)); clear HO_8; clear HB; have HO_8 := n0_; have HB := n1_; clear n0_ n1_; clear hg hw hp_; have hcv90 := own_string (P := Try.prog) Try.underlying23 Try.underlying5 Try.underlying9 (Kd.own_of_R HO_8.out)) | ((with_reducible refine gate_callee (f := 9) rfl ?_); refine goesL_ (some 69) rfl rfl Try.func9 (by kernel_rfl) rfl #[.agg #[.int .i64 9, .string (strOfNums y115)]] rfl (by (try simp only [List.map_toArray, List.map_cons, List.map_nil]); first | done | rfl | (simp only [List.length_drop, List.length_take]; rfl)) ?_; (with_reducible refine (entry_Pack.calls 9 (strOfNums y115) t128 t131 _ A72.out).mono ?_); rintro e w91 ⟨v129, rfl, ho0, hb⟩; refine ⟨_, rfl, ?_⟩; have n0_ := Aside0.mk (Kd.R_elder' (by (with_reducible repeat (first | apply Kd.R_alloc | apply Kd.R_drewN | apply Kd.R_drew)); exact HO_8.out) (Kd.R_base ho0) hb); have n1_ := Aside0.mk (Kd.R_lower (Kd.R_new' ho0 (Kd.R_lt (by (with_reducible repeat (first | apply Kd.R_alloc | apply Kd.R_drewN | apply Kd.R_drew)); exact HO_8.out))) (below_size (by repeat (first | (with_reducible first | exact HB.out | apply below_alloc | apply pw_below_drewN | apply below_drew1) | exact HB.out)))); have n2_ := Aside0.mk (below_step (by repeat (first | (with_reducible first | exact HB.out | apply below_alloc | apply pw_below_drewN | apply below_drew1) | exact HB.out)) hb); clear HO_8; clear HB; have HO_8 := n0_; have HO130 := n1_; have HB := n2_; clear n0_ n1_ n2_; (try clear hb); (try clear hb2); (try clear hk); (try clear hi); (try clear ho0); have hcv92 := own_string (P := Try.prog) Try.underlying23 Try.underlying5 Try.underlying9 (Kd.own_of_R HO_8.out)) | ((with_reducible refine gate_callee (f := 10) rfl ?_); refine goesL_ (some 74) rfl rfl Try.func10 (by kernel_rfl) rfl #[.string (strOfNums y115)] rfl (by (try simp only [List.map_toArray, List.map_cons, List.map_nil]); first | done | rfl | (simp only [List.length_drop, List.length_take]; rfl)) ?_; (with_reducible refine (entry_Name.calls (strOfNums y115) t132 _ A73.out).mono ?_); rintro e w' ⟨rfl, ⟨nd, rfl⟩⟩; refine ⟨_, rfl, ?_⟩))
                                go_ret
                                exact ⟨by first | rfl | (simp [errW_none, errW_some] <;> rfl) | (simp [*, errW_none, errW_some] <;> rfl), by repeat (first | (with_reducible first | exact HB.out | apply below_alloc | apply pw_below_drewN | apply below_drew1) | exact HB.out)⟩
                          · rw [if_neg c26] at H
                            exact absurd H (by simp)
                        · rw [if_neg c25] at H
                          exact absurd H (by simp)
                      · rw [if_neg c24] at H
                        have c24b0 : decide (a1 < a0) = false := decide_eq_false c24
                        clear c24
                        replace H := Option.bind_eq_some_iff.mp H
                        obtain ⟨⟨t134, t137⟩, A930, H⟩ := H
                        replace H : ((entry_Name.f (strOfNums x8_2)).bind fun t138 => (if (t138 == x10_21) = true then ((lockgatelaw6_num.f t137).bind fun t139 => (if ((t139 == 0) == x10_21) = true then (some (((t134.length : Int) == 32) == x10_21)) else (some false))) else (some false))) = some r := H
                        have A93 := Aside0.mk A930
                        clear A930
                        replace H := Option.bind_eq_some_iff.mp H
                        obtain ⟨t138, A940, H⟩ := H
                        replace H : (if (t138 == x10_21) = true then ((lockgatelaw6_num.f t137).bind fun t139 => (if ((t139 == 0) == x10_21) = true then (some (((t134.length : Int) == 32) == x10_21)) else (some false))) else (some false)) = some r := H
                        have A94 := Aside0.mk A940
                        clear A940
                        by_cases c95 : (t138 == x10_21) = true
                        · rw [if_pos c95] at H
                          have c95b0 : (t138 == x10_21) = true := c95
                          (try (have c95b1 : decide (t138 = x10_21) = true := by simpa using c95))
                          (try (have c95b2 : (t138 == x10_21) = true := by simpa using c95))
                          clear c95
                          replace H := Option.bind_eq_some_iff.mp H
                          obtain ⟨t139, A960, H⟩ := H
                          replace H : (if ((t139 == 0) == x10_21) = true then (some (((t134.length : Int) == 32) == x10_21)) else (some false)) = some r := H
                          have A96 := Aside0.mk A960
                          clear A960
                          by_cases c97 : ((t139 == 0) == x10_21) = true
                          · rw [if_pos c97] at H
                            have c97b0 : ((t139 == 0) == x10_21) = true := c97
                            (try (have c97b1 : decide ((t139 == 0) = x10_21) = true := by simpa using c97))
                            (try (have c97b2 : ((t139 == 0) == x10_21) = true := by simpa using c97))
                            clear c97
                            obtain rfl := Option.some.inj H
                            have hcv98 := own_string (P := Try.prog) Try.underlying23 Try.underlying5 Try.underlying9 (Kd.own_of_R HO_8.out)
                            go_wp2_with (first | ((with_reducible refine gate_callee (f := 9) rfl ?_); refine goesL_ (some 69) rfl rfl Try.func9 (by kernel_rfl) rfl #[.agg #[.int .i64 9, .string (strOfNums x8_2)]] rfl (by (try simp only [List.map_toArray, List.map_cons, List.map_nil]); first | done | rfl | (simp only [List.length_drop, List.length_take]; rfl)) ?_; (with_reducible refine (entry_Pack.calls 9 (strOfNums x8_2) t134 t137 _ A93.out).mono ?_); rintro e w99 ⟨v135, rfl, ho0, hb⟩; refine ⟨_, rfl, ?_⟩; have n0_ := Aside0.mk (Kd.R_elder' (by (with_reducible repeat (first | apply Kd.R_alloc | apply Kd.R_drewN | apply Kd.R_drew)); exact HO_8.out) (Kd.R_base ho0) hb); have n1_ := Aside0.mk (Kd.R_lower (Kd.R_new' ho0 (Kd.R_lt (by (with_reducible repeat (first | apply Kd.R_alloc | apply Kd.R_drewN | apply Kd.R_drew)); exact HO_8.out))) (below_size (by repeat (first | (with_reducible first | exact HB.out | apply below_alloc | apply pw_below_drewN | apply below_drew1) | exact HB.out)))); have n2_ := Aside0.mk (below_step (by repeat (first | (with_reducible first | exact HB.out | apply below_alloc | apply pw_below_drewN | apply below_drew1) | exact HB.out)) hb); clear HO_8; clear HB; have HO_8 := n0_; have HO136 := n1_; have HB := n2_; clear n0_ n1_ n2_; (try clear hb); (try clear hb2); (try clear hk); (try clear hi); (try clear ho0); have hcv100 := own_string (P := Try.prog) Try.underlying23 Try.underlying5 Try.underlying9 (Kd.own_of_R HO_8.out)) | ((with_reducible refine gate_callee (f := 10) rfl ?_); refine goesL_ (some 74) rfl rfl Try.func10 (by kernel_rfl) rfl #[.string (strOfNums x8_2)] rfl (by (try simp only [List.map_toArray, List.map_cons, List.map_nil]); first | done | rfl | (simp only [List.length_drop, List.length_take]; rfl)) ?_; (with_reducible refine (entry_Name.calls (strOfNums x8_2) t138 _ A94.out).mono ?_); rintro e w' ⟨rfl, ⟨nd, rfl⟩⟩; refine ⟨_, rfl, ?_⟩) | (go_at_call 11; (with_reducible refine (lockgatelaw6_num.calls t137 t139 _ A96.out).mono ?_); rintro e w' ⟨rfl, ⟨nd, rfl⟩⟩; obtain ⟨Ao101, co101, eo101⟩ := Kd.R_slice HO136.out; subst eo101))
                            go_ret
                            exact ⟨by first | rfl | (simp [errW_none, errW_some] <;> rfl) | (simp [*, errW_none, errW_some] <;> rfl), by repeat (first | (with_reducible first | exact HB.out | apply below_alloc | apply pw_below_drewN | apply below_drew1) | exact HB.out)⟩
                          · rw [if_neg c97] at H
                            have c97b0 : ((t139 == 0) == x10_21) = false := by simpa using c97
                            (try (have c97b1 : decide ((t139 == 0) = x10_21) = false := by simpa using c97))
                            (try (have c97b2 : ((t139 == 0) == x10_21) = false := by simpa using c97))
                            (try (have c97b3 : ¬ ((t139 == 0) = x10_21) := by simpa using c97))
                            clear c97
                            obtain rfl := Option.some.inj H
                            have hcv102 := own_string (P := Try.prog) Try.underlying23 Try.underlying5 Try.underlying9 (Kd.own_of_R HO_8.out)
                            go_wp2_with (first | ((with_reducible refine gate_callee (f := 9) rfl ?_); refine goesL_ (some 69) rfl rfl Try.func9 (by kernel_rfl) rfl #[.agg #[.int .i64 9, .string (strOfNums x8_2)]] rfl (by (try simp only [List.map_toArray, List.map_cons, List.map_nil]); first | done | rfl | (simp only [List.length_drop, List.length_take]; rfl)) ?_; (with_reducible refine (entry_Pack.calls 9 (strOfNums x8_2) t134 t137 _ A93.out).mono ?_); rintro e w103 ⟨v135, rfl, ho0, hb⟩; refine ⟨_, rfl, ?_⟩; have n0_ := Aside0.mk (Kd.R_elder' (by (with_reducible repeat (first | apply Kd.R_alloc | apply Kd.R_drewN | apply Kd.R_drew)); exact HO_8.out) (Kd.R_base ho0) hb); have n1_ := Aside0.mk (Kd.R_lower (Kd.R_new' ho0 (Kd.R_lt (by (with_reducible repeat (first | apply Kd.R_alloc | apply Kd.R_drewN | apply Kd.R_drew)); exact HO_8.out))) (below_size (by repeat (first | (with_reducible first | exact HB.out | apply below_alloc | apply pw_below_drewN | apply below_drew1) | exact HB.out)))); have n2_ := Aside0.mk (below_step (by repeat (first | (with_reducible first | exact HB.out | apply below_alloc | apply pw_below_drewN | apply below_drew1) | exact HB.out)) hb); clear HO_8; clear HB; have HO_8 := n0_; have HO136 := n1_; have HB := n2_; clear n0_ n1_ n2_; (try clear hb); (try clear hb2); (try clear hk); (try clear hi); (try clear ho0); have hcv104 := own_string (P := Try.prog) Try.underlying23 Try.underlying5 Try.underlying9 (Kd.own_of_R HO_8.out)) | ((with_reducible refine gate_callee (f := 10) rfl ?_); refine goesL_ (some 74) rfl rfl Try.func10 (by kernel_rfl) rfl #[.string (strOfNums x8_2)] rfl (by (try simp only [List.map_toArray, List.map_cons, List.map_nil]); first | done | rfl | (simp only [List.length_drop, List.length_take]; rfl)) ?_; (with_reducible refine (entry_Name.calls (strOfNums x8_2) t138 _ A94.out).mono ?_); rintro e w' ⟨rfl, ⟨nd, rfl⟩⟩; refine ⟨_, rfl, ?_⟩) | (go_at_call 11; (with_reducible refine (lockgatelaw6_num.calls t137 t139 _ A96.out).mono ?_); rintro e w' ⟨rfl, ⟨nd, rfl⟩⟩))
                            go_ret
                            exact ⟨by first | rfl | (simp [errW_none, errW_some] <;> rfl) | (simp [*, errW_none, errW_some] <;> rfl), by repeat (first | (with_reducible first | exact HB.out | apply below_alloc | apply pw_below_drewN | apply below_drew1) | exact HB.out)⟩
                        · rw [if_neg c95] at H
                          have c95b0 : (t138 == x10_21) = false := by simpa using c95
                          (try (have c95b1 : decide (t138 = x10_21) = false := by simpa using c95))
                          (try (have c95b2 : (t138 == x10_21) = false := by simpa using c95))
                          (try (have c95b3 : ¬ (t138 = x10_21) := by simpa using c95))
                          clear c95
                          obtain rfl := Option.some.inj H
                          have hcv105 := own_string (P := Try.prog) Try.underlying23 Try.underlying5 Try.underlying9 (Kd.own_of_R HO_8.out)
                          go_wp2_with (first | ((with_reducible refine gate_callee (f := 9) rfl ?_); refine goesL_ (some 69) rfl rfl Try.func9 (by kernel_rfl) rfl #[.agg #[.int .i64 9, .string (strOfNums x8_2)]] rfl (by (try simp only [List.map_toArray, List.map_cons, List.map_nil]); first | done | rfl | (simp only [List.length_drop, List.length_take]; rfl)) ?_; (with_reducible refine (entry_Pack.calls 9 (strOfNums x8_2) t134 t137 _ A93.out).mono ?_); rintro e w106 ⟨v135, rfl, ho0, hb⟩; refine ⟨_, rfl, ?_⟩; have n0_ := Aside0.mk (Kd.R_elder' (by (with_reducible repeat (first | apply Kd.R_alloc | apply Kd.R_drewN | apply Kd.R_drew)); exact HO_8.out) (Kd.R_base ho0) hb); have n1_ := Aside0.mk (Kd.R_lower (Kd.R_new' ho0 (Kd.R_lt (by (with_reducible repeat (first | apply Kd.R_alloc | apply Kd.R_drewN | apply Kd.R_drew)); exact HO_8.out))) (below_size (by repeat (first | (with_reducible first | exact HB.out | apply below_alloc | apply pw_below_drewN | apply below_drew1) | exact HB.out)))); have n2_ := Aside0.mk (below_step (by repeat (first | (with_reducible first | exact HB.out | apply below_alloc | apply pw_below_drewN | apply below_drew1) | exact HB.out)) hb); clear HO_8; clear HB; have HO_8 := n0_; have HO136 := n1_; have HB := n2_; clear n0_ n1_ n2_; (try clear hb); (try clear hb2); (try clear hk); (try clear hi); (try clear ho0); have hcv107 := own_string (P := Try.prog) Try.underlying23 Try.underlying5 Try.underlying9 (Kd.own_of_R HO_8.out)) | ((with_reducible refine gate_callee (f := 10) rfl ?_); refine goesL_ (some 74) rfl rfl Try.func10 (by kernel_rfl) rfl #[.string (strOfNums x8_2)] rfl (by (try simp only [List.map_toArray, List.map_cons, List.map_nil]); first | done | rfl | (simp only [List.length_drop, List.length_take]; rfl)) ?_; (with_reducible refine (entry_Name.calls (strOfNums x8_2) t138 _ A94.out).mono ?_); rintro e w' ⟨rfl, ⟨nd, rfl⟩⟩; refine ⟨_, rfl, ?_⟩))
                          go_ret
                          exact ⟨by first | rfl | (simp [errW_none, errW_some] <;> rfl) | (simp [*, errW_none, errW_some] <;> rfl), by repeat (first | (with_reducible first | exact HB.out | apply below_alloc | apply pw_below_drewN | apply below_drew1) | exact HB.out)⟩
          · rw [if_neg c13] at H
            exact absurd H (by simp)
        · rw [if_neg c12] at H
          exact absurd H (by simp)

/-- THE ONE PURE STATEMENT of lockgatelaw6_EntryNames: yours. -/
def lockgatelaw6_EntryNames.Pure : Prop := ∀ (a0 : Int) (a1 : Int) (a2 : Int), (Lit.int .i64 a0).wf = true → (Lit.int .i64 a1).wf = true → (Lit.int .u8 a2).wf = true → ∃ k, lockgatelaw6_EntryNames.f k a0 a1 a2 = some true
theorem lockgatelaw6_EntryNames.walk (P : lockgatelaw6_EntryNames.Pure) (a0 : Int) (a1 : Int) (a2 : Int) (w : World) (w0 : (Lit.int .i64 a0).wf = true) (w1 : (Lit.int .i64 a1).wf = true) (w2 : (Lit.int .u8 a2).wf = true) :
    Calls Try.prog 3 #[.int .i64 a0, .int .i64 a1, .int .u8 a2] w fun e w' => e = .returned (.bool true) ∧ Below w.heap.size w w' := by
  obtain ⟨k, h⟩ := P a0 a1 a2 w0 w1 w2
  refine (lockgatelaw6_EntryNames.calls k a0 a1 a2 true w h).mono ?_
  rintro e w' ⟨rfl, hd⟩
  exact ⟨rfl, hd⟩

end Go.Proofs.Ythhhklihggpldaa.PEntryNames
