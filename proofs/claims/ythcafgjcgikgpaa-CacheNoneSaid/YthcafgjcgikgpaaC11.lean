/- CacheNone: of no disk nothing is there. -/
import Derived.Test.YthcafgjcgikgpaaC8
namespace Go.Proofs.Ythcafgjcgikgpaa.Given
open Go.RowKit Go.Shelf Go.Proofs.YthcafgjcgikgpaaW.PrintWords Go.Proofs.YthcafgjcgikgpaaW.PrintLast Go.Proofs.YthcafgjcgikgpaaW.PrintMore Go.Proofs.YthcafgjcgikgpaaBase
set_option linter.unusedVariables false
set_option linter.unusedSimpArgs false

/-- a law's block -/
def vB (v : Int) : List Int := ((List.replicate 1024 (0 : Int)).set 0 ((Go.bits .and .i64 v 255) % 256)).set 1000 ((Go.bits .and .i64 (v / 256) 255) % 256)
theorem vB_len (v : Int) : (vB v).length = 1024 := by unfold vB; rw [List.length_set, List.length_set, List.length_replicate]
theorem block_calls (v : Int) (w : World) : Calls Try.prog 17 #[.int .i64 v] w fun e w' => ∃ A c, e = .returned (.slice A 1024 c) ∧ Kd.R (Kd.int .u8) 5 w' w.heap.size (fun _ => True) (.slice A 1024 c) (vB v) ∧ Below w.heap.size w w' := by
  refine (PFns.lockgatelaw12_block.calls v (vB v) w ?_).mono ?_
  · unfold PFns.lockgatelaw12_block.f
    rw [if_pos (by decide), Option.bind_some, List.length_replicate, if_pos (by decide), if_pos (by decide)]
    rfl
  · rintro e w' ⟨u, rfl, hR, hb⟩
    obtain ⟨A, c, rfl⟩ := Kd.R_slice hR
    rw [vB_len] at hR ⊢
    exact ⟨A, c, rfl, hR, hb⟩
set_option maxRecDepth 100000 in
set_option maxHeartbeats 1000000 in
theorem put_none {base : Nat} {ok : Nat → Prop} {w : World} {cg mb : Nat} {dv : Value} {size reads : Int} {L : List Bf} (h : WC base ok w cg mb dv size reads L) {n : Int} (hn : I64 n) (hf : findB L n = none) (v : Value) :
    Calls Try.prog 16 #[.pointer (some ⟨cg, 0, none⟩), .int .i64 n, v] w fun e w' => e = .returned (.bool false) ∧ w = w' := by
  obtain ⟨vo, E, hI, hp⟩ := h
  have hno := WC.none (base := base) (ok := ok) (w := w) (cg := cg) (mb := mb) (dv := dv) (vo := vo) (size := size) (reads := reads) hp hf
  have hl1 := hI.map.look_miss law3 Try.underlying54 (zero61 _) (key3 hn) hno true
  have c2 := blk_cell hI.hg 2
  simp only [List.getElem?_toArray, List.getElem?_cons_zero, List.getElem?_cons_succ] at c2
  clear hI hp hf hn hno
  go_enter Try.func16, Try.ntmps16
  go_wp2
  go_ret
  exact ⟨rfl, rfl⟩
set_option maxRecDepth 100000 in
set_option maxHeartbeats 2000000 in
theorem none_row (n : Int) (w : World) (hn : (Lit.int .i64 n).wf = true) : Calls Try.prog 5 #[.int .i64 n] w fun e w' => e = .returned (.bool true) ∧ Below w.heap.size w w' := by
  have HN := Lib.hid (wf_I64 hn)
  have HR : Hid (relOk n [] = false) := Lib.hid rfl
  clear hn
  go_enter Try.func5, Try.ntmps5
  go_wp2_with (first
    | (go_at_call 8; (with_reducible refine (alive_calls _).mono ?_); rintro e w1 ⟨rfl, hb⟩; have HB1 := Lib.hid hb; clear hb)
    | (go_at_call 9; (with_reducible refine (cnew_calls none n w1).mono ?_); rintro e w2 ⟨cg, mb, rfl, hW, hb⟩; have HW := Lib.hid (show WC w1.heap.size (fun k => w1.heap.size ≤ k ∧ k < w2.heap.size) w2 cg mb (.pointer none) (most n) 0 [] from hW); have HB2 := Lib.hid (HB1.out.trans (hb.mono HB1.out.size)); have HS2 := Lib.hid hb.size; clear hW hb)
    | (go_at_call 11; (with_reducible refine (get_nil HW.out HN.out rfl).mono ?_); rintro e w3 ⟨rfl, rfl⟩)
    | (go_at_call 17; (with_reducible refine (block_calls 1 _).mono ?_); rintro e w4 ⟨A4, c4, rfl, _, hb⟩; have HW4 := Lib.hid (HW.out.below (fun k hk => hk.2) hb); have HB4 := Lib.hid (HB2.out.trans (hb.mono HB2.out.size)); have HS4 := Lib.hid hb.size; clear hb)
    | (go_at_call 16; (with_reducible refine (put_none HW4.out HN.out rfl _).mono ?_); rintro e w5 ⟨rfl, rfl⟩)
    | (go_at_call 12; (with_reducible refine (release_calls HW4.out (fun k hk => Nat.lt_of_lt_of_le hk.2 HS4.out) HN.out (by simp)).mono ?_); rintro e w6 ⟨rfl, hW6, ho⟩; rw [HR.out]; have HW6 := Lib.hid (show WC w1.heap.size (fun k => w1.heap.size ≤ k ∧ k < w2.heap.size) w6 cg mb (.pointer none) (most n) 0 [] from hW6); have HB6 := Lib.hid (HB4.out.trans (ho.to_below HB4.out.size (fun k hk => Nat.le_trans HB1.out.size hk.1))); clear hW6 ho)
    | (go_at_call 14; (with_reducible refine (held_calls HW6.out (by decide)).mono ?_); rintro e w7 ⟨v7, rfl, hR7, hb⟩; obtain ⟨A7, c7, rfl⟩ := Kd.R_slice hR7; have HB7 := Lib.hid (HB6.out.trans (hb.mono HB6.out.size)); rw [List.map_nil, List.length_nil]; clear hR7 hb))
  go_ret
  exact ⟨rfl, HB7.out⟩
end Go.Proofs.Ythcafgjcgikgpaa.Given
