/- lockgatelaw12.alive. -/
import Derived.Test.YthcafgjcgikgpaaC7
namespace Go.Proofs.Ythcafgjcgikgpaa.Given
open Go.RowKit Go.Shelf Go.Proofs.YthcafgjcgikgpaaW.PrintWords Go.Proofs.YthcafgjcgikgpaaW.PrintLast Go.Proofs.YthcafgjcgikgpaaW.PrintMore Go.Proofs.YthcafgjcgikgpaaBase
set_option linter.unusedVariables false
set_option linter.unusedSimpArgs false

/-- a new disk -/
def dsk (n : Nat) : DS := ⟨List.replicate (n * 1024) 0, [], -1, false⟩
def zB : List Int := List.replicate 1024 0
theorem zB_len : zB.length = 1024 := by unfold zB; rw [List.length_replicate]
theorem dsk_len (n : Nat) : (dsk n).b.length = n * 1024 := List.length_replicate
theorem readP_dsk (n k : Nat) (h : k < n) : readP (dsk n).b (dsk n).dead (k : Int) = some zB := by
  unfold readP dsk zB
  have h1 : ((List.replicate (n * 1024) (0 : Int)).length / 1024 : Nat) = n := by rw [List.length_replicate]; omega
  simp only
  rw [if_pos (by rw [h1]; simp only [Bool.not_false, Bool.true_and, decide_eq_true_eq]; omega)]
  congr 1
  rw [List.take_replicate, List.drop_replicate]
  congr 1
  rw [Int.toNat_natCast, Nat.add_mul]
  have : (k + 1) * 1024 ≤ n * 1024 := Nat.mul_le_mul_right _ h
  omega
section
variable {base top N : Nat} {w : World} {cg dg : Nat}
theorem al_get1 (h : CS base top w cg dg (most 1) 0 [] (dsk 5)) : Calls Try.prog 11 #[.pointer (some ⟨cg, 0, none⟩), .int .i64 1] w fun e w' => ∃ v top', e = .returned (.tuple #[v, .bool true]) ∧ CS base top' w' cg dg 1 1 [⟨1, zB, 1, false⟩] (dsk 5) ∧ Off (fun k => base ≤ k ∧ k < top) w w' := by
  have hr : readP (dsk 5).b (dsk 5).dead 1 = some zB := readP_dsk 5 1 (by decide)
  have e1 : gotX [] (dsk 5) 1 = some zB := by rw [← hr]; rfl
  have e2 : gotL 1 [] (dsk 5) 1 = [⟨1, zB, 1, false⟩] := by
    unfold gotL
    simp only [findB, List.find?_nil, hr, List.nil_append]
    exact trimL_small (by decide)
  refine (cs_get (N := 10) h ⟨by simp, by decide, by decide, by simp, by simp, by decide, by rw [dsk_len]; decide⟩ (n := 1) (by unfold I64; decide)).mono ?_
  rintro e w' ⟨v, top', rfl, hC, _, _, ho⟩
  rw [e1]
  have hm : most 1 = 1 := by decide
  rw [hm, e2] at hC
  exact ⟨v, top', rfl, hC, ho⟩
theorem al_rel (h : CS base top w cg dg 1 1 [⟨1, zB, 1, false⟩] (dsk 5)) : Calls Try.prog 12 #[.pointer (some ⟨cg, 0, none⟩), .int .i64 1] w fun e w' => e = .returned (.bool true) ∧ CS base top w' cg dg 1 1 [⟨1, zB, 0, false⟩] (dsk 5) ∧ Off (fun k => base ≤ k ∧ k < top) w w' := by
  have e1 : relOk 1 [⟨1, zB, 1, false⟩] = true := by simp [relOk, findB]
  have e2 : relL 1 1 [⟨1, zB, 1, false⟩] = [⟨1, zB, 0, false⟩] := by
    unfold relL
    simp [findB, onB]
    exact trimL_small (by decide)
  refine (cs_release (N := 10) h ⟨by simp, by decide, by decide, by simp, by simp [zB_len], by decide, by rw [dsk_len]; decide⟩ (n := 1) (by unfold I64; decide)).mono ?_
  rintro e w' ⟨rfl, hC, ho⟩
  rw [e1]
  rw [e2] at hC
  exact ⟨rfl, hC, ho⟩
theorem al_get2 (h : CS base top w cg dg 1 1 [⟨1, zB, 0, false⟩] (dsk 5)) : Calls Try.prog 11 #[.pointer (some ⟨cg, 0, none⟩), .int .i64 2] w fun e w' => ∃ v top', e = .returned (.tuple #[v, .bool true]) ∧ CS base top' w' cg dg 1 2 [⟨2, zB, 1, false⟩] (dsk 5) ∧ Off (fun k => base ≤ k ∧ k < top) w w' := by
  have hr : readP (dsk 5).b (dsk 5).dead 2 = some zB := readP_dsk 5 2 (by decide)
  have hf : findB [⟨1, zB, 0, false⟩] 2 = none := by simp [findB]
  have e1 : gotX [⟨1, zB, 0, false⟩] (dsk 5) 2 = some zB := by unfold gotX; rw [hf]; exact hr
  have e2 : gotL 1 [⟨1, zB, 0, false⟩] (dsk 5) 2 = [⟨2, zB, 1, false⟩] := by
    unfold gotL
    rw [hf]
    simp only [hr]
    rw [trimL_pop (L' := [⟨2, zB, 1, false⟩]) (by simp) (by simp [popL, free])]
    exact trimL_small (by decide)
  have e3 : gotR 1 [⟨1, zB, 0, false⟩] 2 = 2 := by unfold gotR; rw [hf]; rfl
  refine (cs_get (N := 10) h ⟨by simp, by decide, by decide, by simp, by simp [zB_len], by decide, by rw [dsk_len]; decide⟩ (n := 2) (by unfold I64; decide)).mono ?_
  rintro e w' ⟨v, top', rfl, hC, _, _, ho⟩
  rw [e1]
  rw [e2, e3] at hC
  exact ⟨v, top', rfl, hC, ho⟩
theorem al_held (h : CS base top w cg dg 1 2 [⟨2, zB, 1, false⟩] (dsk 5)) : Calls Try.prog 14 #[.pointer (some ⟨cg, 0, none⟩)] w fun e w' => ∃ A c, e = .returned (.slice A 1 c) ∧ Kd.R (Kd.int .i64) 3 w' w.heap.size (fun _ => True) (.slice A 1 c) [2] ∧ Below w.heap.size w w' := by
  refine (cs_held (N := 10) h ⟨by simp, by decide, by decide, by simp, by simp [zB_len], by decide, by rw [dsk_len]; decide⟩).mono ?_
  rintro e w' ⟨v, rfl, hR, hb⟩
  obtain ⟨A, c, rfl⟩ := Kd.R_slice hR
  exact ⟨A, c, rfl, hR, hb⟩
end
/-- a row with one number -/
theorem same_lit {w : World} {b : Nat} {x y : Int} {A0 : Option Addr} {c0 : Nat} {fz : Nat × Nat} (hb : w.heap[b]? = some (.cells #[.int .i64 x] 3 fz)) (hr0 : Kd.C (Kd.int .i64) w A0 [y].length [y]) (hc0 : 1 ≤ c0) :
    Calls Try.prog 13 #[.slice A0 1 c0, .slice (some ⟨b, 0, none⟩) 1 1] w fun e w' => e = .returned (.bool (decide (y = x))) ∧ Below w.heap.size w w' := by
  have hC : Kd.C (Kd.int .i64) w (some ⟨b, 0, none⟩) [x].length [x] := by
    refine ⟨rfl, by simp, fun _ => ⟨_, rfl, fun j p hj => ?_⟩⟩
    cases j with
    | zero =>
      simp only [List.getElem?_cons_zero, Option.some.injEq] at hj
      subst hj
      refine ⟨[Value.int .i64 x], rfl, rfl, fun i u hu => ?_⟩
      rw [Nat.zero_mul, Nat.zero_add, add_plain]
      have := cell_of_row w b i #[.int .i64 x] 3 fz hb
      rw [this]
      simpa using hu
    | succ j => simp at hj
  refine (same_calls A0 c0 [y] (some ⟨b, 0, none⟩) 1 [x] w hr0 hc0 hC (by simp) (by simp)).mono ?_
  rintro e w' ⟨rfl, hb⟩
  refine ⟨?_, hb⟩
  simp
set_option maxRecDepth 100000 in
set_option maxHeartbeats 1000000 in
theorem alive_calls (w : World) : Calls Try.prog 8 #[] w fun e w' => e = .returned (.bool true) ∧ Below w.heap.size w w' := by
  have HW0 : Hid (w = w) := Lib.hid rfl
  go_enter Try.func8, Try.ntmps8
  go_wp2_with (first
    | (go_at_call 10; (with_reducible refine (new_calls 5 _).mono ?_); rintro e w1 ⟨dg, rfl, hD, hb⟩; have HD := Lib.hid (show IsD w.heap.size (fun k => w.heap.size ≤ k) w1 dg (dsk 5).b (dsk 5).l (dsk 5).cut (dsk 5).dead from hD); have HB1 := Lib.hid hb; clear hD hb)
    | (go_at_call 9; (with_reducible refine (cs_new (s := dsk 5) (dn := 0) HD.out HB1.out.size 1).mono ?_); rintro e w2 ⟨cg, rfl, hC, hb⟩; have HC := Lib.hid hC; have HB2 := Lib.hid (HB1.out.trans (hb.mono HB1.out.size)); clear hC hb)
    | (go_at_call 11; (with_reducible refine (al_get1 HC.out).mono ?_); rintro e w3 ⟨v3, t3, rfl, hC, ho⟩; have HC3 := Lib.hid hC; have HB3 := Lib.hid (HB2.out.trans (ho.to_below HB2.out.size (fun k hk => hk.1))); clear hC ho)
    | (go_at_call 12; (with_reducible refine (al_rel HC3.out).mono ?_); rintro e w4 ⟨rfl, hC, ho⟩; have HC4 := Lib.hid hC; have HB4 := Lib.hid (HB3.out.trans (ho.to_below HB3.out.size (fun k hk => hk.1))); clear hC ho)
    | (go_at_call 11; (with_reducible refine (al_get2 HC4.out).mono ?_); rintro e w5 ⟨v5, t5, rfl, hC, ho⟩; have HC5 := Lib.hid hC; have HB5 := Lib.hid (HB4.out.trans (ho.to_below HB4.out.size (fun k hk => hk.1))); clear hC ho)
    | (go_at_call 14; (with_reducible refine (al_held HC5.out).mono ?_); rintro e w6 ⟨A6, c6, rfl, hR, hb⟩; have HR6 := Lib.hid (Kd.C_alloc (Kd.R_reads' hR).2.2 (.cells #[.int .i64 2] 3)); have hc6 := (Kd.R_reads' hR).2.1; have HC6 := Lib.hid (HC5.out.below hb); have HB6 := Lib.hid (HB5.out.trans (hb.mono HB5.out.size)); clear hR hb)
    | (go_at_call 13; (with_reducible refine (same_lit (y := 2) (blk_new w6 _) HR6.out hc6).mono ?_); rintro e w7 ⟨rfl, hb⟩; have hb6 := below_alloc (Below.refl w6.heap.size w6) (.cells #[.int .i64 2] 3); have HC7 := Lib.hid ((HC6.out.below hb6).below hb); have HB7 := Lib.hid ((HB6.out.trans (hb6.mono HB6.out.size)).trans (hb.mono (HB6.out.trans (hb6.mono HB6.out.size)).size)); clear hb hb6)
    | (go_at_call 15; (with_reducible refine (cs_reads HC7.out).mono ?_); rintro e w8 ⟨rfl, rfl⟩))
  go_ret
  exact ⟨rfl, HB7.out⟩
end Go.Proofs.Ythcafgjcgikgpaa.Given
