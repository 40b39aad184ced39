/- lockgatelaw25.alive; rows of nodes that a law makes. -/
import Derived.Test.YtnnnakgdmhmpmaaI8
namespace Go.Proofs.Ytnnnakgdmhmpmaa.Given
open Go.RowKit Go.Proofs.YtnnnakgdmhmpmaaW.PrintWords Go.Proofs.YtnnnakgdmhmpmaaW.PrintLast Go.Proofs.YtnnnakgdmhmpmaaW.PrintMore Go.Proofs.YtnnnakgdmhmpmaaBase
set_option linter.unusedVariables false
set_option linter.unusedSimpArgs false

abbrev sA : ByteArray := ⟨#[97]⟩
theorem C33_one {w : World} {b : Nat} {fz : Nat × Nat} {x : S33} (hb : w.heap[b]? = some (.cells #[.int .i64 x.f0, .string x.f1] 33 fz)) : Kd.C k33 w (some ⟨b, 0, none⟩) [x].length [x] := by
  refine ⟨rfl, by simp, fun _ => ⟨_, rfl, fun j p hj => ?_⟩⟩
  cases j with
  | zero =>
    simp only [List.getElem?_cons_zero, Option.some.injEq] at hj
    subst hj
    refine ⟨_, rfl, k33_mk w x, fun i u hu => ?_⟩
    rw [Nat.zero_mul, Nat.zero_add, add_plain]
    have := cell_of_row w b i #[.int .i64 x.f0, .string x.f1] 33 fz hb
    rw [this]
    simpa using hu
  | succ j => simp at hj
theorem C29_one {w : World} {b : Nat} {fz : Nat × Nat} {x : S29} {A4 A5 : Option Addr} {c4 c5 : Nat} (hb : w.heap[b]? = some (.cells #[.int .i64 x.f0, .int .i64 x.f1, .int .i64 x.f2, .int .i64 x.f3, .slice A4 x.f4.length c4, .slice A5 x.f5.length c5] 29 fz)) (hN : Node w x A4 c4 A5 c5) : Kd.C k29 w (some ⟨b, 0, none⟩) [x].length [x] := by
  refine ⟨rfl, by simp, fun _ => ⟨_, rfl, fun j p hj => ?_⟩⟩
  cases j with
  | zero =>
    simp only [List.getElem?_cons_zero, Option.some.injEq] at hj
    subst hj
    refine ⟨_, rfl, k29_mk hN, fun i u hu => ?_⟩
    rw [Nat.zero_mul, Nat.zero_add, add_plain]
    have := cell_of_row w b i _ 29 fz hb
    rw [this]
    simpa using hu
  | succ j => simp at hj
/-- a directory without names -/
def nD : S29 := ⟨1, 2, 0, 0, [], []⟩
theorem node_nD (w : World) (x : S29) (h4 : x.f4 = []) (h5 : x.f5 = []) : Node w x none 0 none 0 := by
  refine ⟨by rw [h4]; simp, by rw [h5]; simp, by rw [h4]; exact Kd.C_nil _ _, by rw [h5]; exact Kd.C_nil _ _⟩
theorem fit_nD : ∀ n ∈ [nD], NodeFit n := by
  intro n hn
  simp only [List.mem_singleton] at hn
  subst hn
  exact ⟨by unfold I64 nD; decide, fun e he => by simp [nD] at he, fun e he => by simp [nD] at he⟩
theorem C29_nD {w : World} {b : Nat} {fz : Nat × Nat} (hb : w.heap[b]? = some (.cells #[.int .i64 1, .int .i64 2, .int .i64 0, .int .i64 0, .slice none 0 0, .slice none 0 0] 29 fz)) : Kd.C k29 w (some ⟨b, 0, none⟩) [nD].length [nD] :=
  C29_one (x := nD) hb (node_nD w nD rfl rfl)
theorem C29_at {w w' : World} {b : Nat} (h : w.heap[b]? = some (.cells #[.int .i64 1, .int .i64 2, .int .i64 0, .int .i64 0, .slice none 0 0, .slice none 0 0] 29 (0, 0))) (hb : w'.heap[b]? = w.heap[b]?) : Kd.C k29 w' (some ⟨b, 0, none⟩) [nD].length [nD] := C29_nD (hb.trans h)
theorem new_nD : syncS ([nD].foldl nodeN []) = [] ∧ [nD].foldl nodeQ [] = [] := by
  constructor
  · simp [nD, nodeN, syncS]
  · simp [nD, nodeQ]
theorem blk_nD (w : World) : (w.alloc (.cells #[.int .i64 1, .int .i64 2, .int .i64 0, .int .i64 0, .slice none 0 0, .slice none 0 0] 29)).heap[w.heap.size]? = some (.cells #[.int .i64 1, .int .i64 2, .int .i64 0, .int .i64 0, .slice none 0 0, .slice none 0 0] 29 (0, 0)) := blk_new w _
theorem new_nD_calls (b : Nat) {fz : Nat × Nat} {w : World} (hb : w.heap[b]? = some (.cells #[.int .i64 1, .int .i64 2, .int .i64 0, .int .i64 0, .slice none 0 0, .slice none 0 0] 29 fz)) :
    Calls Try.prog 7 #[.slice (some ⟨b, 0, none⟩) 1 1] w fun e w' => ∃ g, e = .returned (.pointer (some ⟨g, 0, none⟩)) ∧ WS w.heap.size w' g [] [] ∧ Below w.heap.size w w' := by
  refine (new_calls (c := 1) (C29_nD hb) fit_nD).mono ?_
  rintro e w' ⟨g, rfl, hW, hb⟩
  rw [new_nD.1, new_nD.2] at hW
  exact ⟨g, rfl, hW, hb⟩

theorem ok_one {base : Nat} {w : World} {g b c : Nat} {N : List NS} {Q : List PS} (h : WS base w g N Q) {x : S29} (hC : Kd.C k29 w (some ⟨b, 0, none⟩) [x].length [x]) (hf : NodeFit x) (hN : ∀ x ∈ N, x.ever.length ≤ 9223372036854775807 ∧ I64 x.dir ∧ x.nm.size ≤ maxLen) :
    Calls Try.prog 10 #[.pointer (some ⟨g, 0, none⟩), .slice (some ⟨b, 0, none⟩) 1 c] w (MayP N Q [x] w) := ok_calls h hC (fun n hn => by rw [List.mem_singleton] at hn; rw [hn]; exact hf) hN
theorem nodeOk_nil (N : List NS) (Q : List PS) (n : S29) (h4 : n.f4 = []) (h5 : n.f5 = []) : NodeOk N Q n := ⟨by rw [h5]; simp, by rw [h4]; simp⟩
theorem alive_1 : MayBe (entS [] 1 sA 5) [] [nD] := by
  refine ⟨fun n hn => ?_, fun x hx hc _ => ?_⟩
  · simp only [List.mem_singleton] at hn
    subst hn
    exact nodeOk_nil _ _ _ rfl rfl
  · simp only [entS, List.mem_singleton] at hx
    subst hx
    have := hc.1
    simp [addI] at this
theorem alive_2 : ¬ MayBe (syncS (entS [] 1 sA 5)) [] [nD] := by
  intro h
  obtain ⟨n, hn, h1, e, he, _⟩ := h.2 ⟨1, sA, 5, [5]⟩ (by simp [syncS, entS]) ⟨rfl, by decide⟩ ⟨nD, by simp, rfl, rfl⟩
  simp only [List.mem_singleton] at hn
  subst hn
  simp [nD] at he
theorem sA_max : sA.size ≤ maxLen := by decide
theorem short_1 : ∀ x ∈ entS [] 1 sA 5, x.ever.length ≤ 9223372036854775807 ∧ I64 x.dir ∧ x.nm.size ≤ maxLen := by
  intro x hx
  simp only [entS, List.mem_singleton] at hx
  subst hx
  exact ⟨by simp [addI], by unfold I64; decide, sA_max⟩
theorem short_2 : ∀ x ∈ syncS (entS [] 1 sA 5), x.ever.length ≤ 9223372036854775807 ∧ I64 x.dir ∧ x.nm.size ≤ maxLen := by
  intro x hx
  simp only [syncS, entS, List.map_cons, List.map_nil, List.mem_singleton] at hx
  subst hx
  exact ⟨by simp, by unfold I64; decide, sA_max⟩

set_option maxRecDepth 100000 in
set_option maxHeartbeats 1000000 in
theorem alive_calls (w : World) : Calls Try.prog 6 #[] w fun e w' => e = .returned (.bool true) ∧ Below w.heap.size w w' := by
  have HBK := Lib.hid (blk_nD w)
  have HB0 := Lib.hid ((Below.refl w.heap.size w).alloc (Nat.le_refl _) (.cells #[.int .i64 1, .int .i64 2, .int .i64 0, .int .i64 0, .slice none 0 0, .slice none 0 0] 29))
  go_enter Try.func6, Try.ntmps6
  go_wp2_with (go_at_call 7; (with_reducible refine (new_nD_calls _ HBK.out).mono ?_); rintro e w1 ⟨g, rfl, hW, hb⟩; have HW := Lib.hid hW; have HB1 := Lib.hid hb; clear hW hb)
  have hw1 : w.heap.size < w1.heap.size := Nat.lt_of_lt_of_le (blk_lt HBK.out) HB1.out.size
  have HC1 : Hid (w1.heap[w.heap.size]? = some (.cells #[.int .i64 1, .int .i64 2, .int .i64 0, .int .i64 0, .slice none 0 0, .slice none 0 0] 29 (0, 0))) := Lib.hid ((HB1.out.block _ (blk_lt HBK.out)).trans HBK.out)
  have hi1 : I64 1 := by unfold I64; decide
  have hi5 : I64 5 := by unfold I64; decide
  have HB2 := Lib.hid (HB0.out.trans (HB1.out.mono (by simp)))
  clear HB1 HB0
  go_wp2_with (first
    | (go_at_call 9; (with_reducible refine (entry_calls HW.out hi1 sA_max hi5).mono ?_); rintro e w2 ⟨rfl, hW2, hb2, _⟩; have HW2 := Lib.hid hW2; have HB3 := Lib.hid (HB2.out.trans (hb2.mono (by simp))); have HC2 := Lib.hid ((hb2.block _ (by simp)).trans HC1.out); clear hW2 hb2)
    | (go_at_call 10; (with_reducible refine (ok_one HW2.out (C29_nD HC2.out) (fit_nD _ (by simp)) short_1).mono ?_); rintro e w3 ⟨b, rfl, hb, hb3⟩; obtain rfl : b = true := hb.2 alive_1; have HW3 := Lib.hid (HW2.out.below hb3); have HB4 := Lib.hid (HB3.out.trans (hb3.mono HB3.out.size)); have HC3 := Lib.hid ((hb3.block _ (blk_lt HC2.out)).trans HC2.out); clear hb hb3)
    | (go_at_call 8; (with_reducible refine (synced_calls HW3.out).mono ?_); rintro e w4 ⟨rfl, hW4, hb4⟩; have HW4 := Lib.hid hW4; have HB5 := Lib.hid (HB4.out.trans (hb4.mono (by simp))); have HC4 := Lib.hid ((hb4.block _ (by simp)).trans HC3.out); clear hW4 hb4)
    | (go_at_call 10; (with_reducible refine (ok_one HW4.out (C29_nD HC4.out) (fit_nD _ (by simp)) short_2).mono ?_); rintro e w5 ⟨b, rfl, hb, hb5⟩; obtain rfl : b = false := (by cases b; rfl; exact absurd (hb.1 rfl) alive_2); have HB6 := Lib.hid (HB5.out.trans (hb5.mono HB5.out.size)); clear hb hb5))
  go_ret
  exact ⟨rfl, HB6.out⟩
end Go.Proofs.Ytnnnakgdmhmpmaa.Given
