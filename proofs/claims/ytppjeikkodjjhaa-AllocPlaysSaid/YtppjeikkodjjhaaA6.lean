/- (*Alloc).Block: the first free data block from a group on, round. -/
import Derived.Test.YtppjeikkodjjhaaSteps
import Derived.Test.YtppjeikkodjjhaaA5
namespace Go.Proofs.Ytppjeikkodjjhaa.Given
open Go.RowKit Go.Shelf Go.Proofs.YtppjeikkodjjhaaW.PrintWords Go.Proofs.YtppjeikkodjjhaaW.PrintLast Go.Proofs.YtppjeikkodjjhaaW.PrintMore Go.Proofs.YtppjeikkodjjhaaBase Go.Proofs.Ytppjeikkodjjhaa.PGeo Go.Proofs.Ytppjeikkodjjhaa.PGet Go.Proofs.Ytppjeikkodjjhaa.PWith
set_option linter.unusedVariables false
set_option linter.unusedSimpArgs false
attribute [local go_sem] Oper.semAt_some

/-- where a data block lies -/
def dataAt (i : Int) (q k : Nat) : Int := 1 + ((k / q : Nat) : Int) * (1 + i + (q : Int)) + 1 + i + ((k % q : Nat) : Int)
theorem span_nonneg {a b : Int} (ha : 0 ≤ a) (hb : 0 ≤ b) : 0 ≤ a * b := Int.mul_nonneg ha hb
theorem data_is {gr i d : Int} {n q : Nat} (h : Fine gr i d) (hn : gr = (n : Int)) (hq : d = (q : Int)) {k : Nat} (hk : k < n * q) : geom_Data.f 11 gr i d (k : Int) = some (dataAt i q k, true) := by
  obtain ⟨h1, h2, h3, h4, h5, h6⟩ := h
  have hf : Fine gr i d := ⟨h1, h2, h3, h4, h5, h6⟩
  subst hn hq
  have hq0 : 0 < q := by omega
  have hkq : k / q < n := (Nat.div_lt_iff_lt_mul hq0).2 hk
  have hmod := Nat.mod_lt k hq0
  have m1 : (n : Int) * (q : Int) ≤ 8 * 1000 := Int.mul_le_mul (by omega) (by omega) (by omega) (by omega)
  have hkk : (k : Int) < (n : Int) * (q : Int) := by rw [← Int.natCast_mul]; omega
  have hd0 : Int.tdiv (k : Int) (q : Int) = ((k / q : Nat) : Int) := by rw [Int.tdiv_eq_ediv_of_nonneg (by omega), Int.natCast_ediv]
  have hm : Int.tmod (k : Int) (q : Int) = ((k % q : Nat) : Int) := by rw [Int.tmod_eq_emod_of_nonneg (by omega), Int.natCast_emod]
  unfold dataAt
  obtain ⟨a, ha⟩ : ∃ a, k / q = a := ⟨_, rfl⟩
  obtain ⟨b, hb⟩ : ∃ b, k % q = b := ⟨_, rfl⟩
  rw [ha] at hkq hd0 ⊢
  rw [hb] at hmod hm ⊢
  clear ha hb
  have hB : geom_Blocks.f (n : Int) i (q : Int) = some ((n : Int) * (q : Int)) := by
    unfold geom_Blocks.f
    rw [check_fine hf, Option.bind_some, if_pos rfl]
    congr 1
    have m0 : 0 ≤ (n : Int) * (q : Int) := Int.mul_nonneg (by omega) (by omega)
    unfold wrap64
    omega
  have hd : wrap64 (Int.tdiv (k : Int) (q : Int)) = (a : Int) := by
    rw [hd0]
    unfold wrap64
    omega
  have hs : wrap64 (wrap64 (1 + i) + (q : Int)) = 1 + i + (q : Int) := by unfold wrap64; omega
  obtain ⟨t, ht⟩ : ∃ t : Int, (a : Int) * (1 + i + (q : Int)) = t := ⟨_, rfl⟩
  have t1 : (a : Int) * (1 + i + (q : Int)) ≤ 7 * 1005 := Int.mul_le_mul (by omega) (by omega) (by omega) (by omega)
  have t0 : 0 ≤ (a : Int) * (1 + i + (q : Int)) := Int.mul_nonneg (by omega) (by omega)
  have hH : geom_Head.f 11 (n : Int) i (q : Int) (a : Int) = some (1 + t, true) := by
    unfold geom_Head.f
    rw [check_fine hf, Option.bind_some, if_pos rfl]
    have e := head_loop (a : Int) hf n 11 0 (by omega) (by omega)
    rw [show ((0 : Nat) : Int) = 0 from rfl] at e
    rw [e, if_pos (by omega), hs, ht]
    rw [ht] at t0 t1
    congr 2
    unfold wrap64
    omega
  rw [ht] at t0 t1 ⊢
  unfold geom_Data.f
  rw [if_neg (by omega), hB, Option.bind_some, if_neg (by omega), if_neg (by omega), hd, hH, Option.bind_some, hm]
  simp only
  congr 2
  clear hd hs hB hH hd0 hm ht
  unfold wrap64
  omega
theorem w64_small {a : Int} (h0 : 0 ≤ a) (h1 : a ≤ 1000000) : wrap64 a = a := by unfold wrap64; omega
def optD (i : Int) (q : Nat) (r : Option Nat) : Int := match r with
  | none => 0
  | some k => dataAt i q k

section
variable {base : Nat} {ok : Nat → Prop} {w : World} {g : Nat} {gr i d : Int} {n p q : Nat} {gs : List S54} {li ld : List Bool}
/-- a round has found a free one -/
def BlkS (base : Nat) (ok : Nat → Prop) (w : World) (g : Nat) (gr i d : Int) (gs : List S54) (ld : List Bool) (q : Nat) {n : Nat} (c : Code) (pre : List (Fin n)) (W : World) : Prop :=
  (∃ (pr : List (Fin n)) (x : Fin n) (j : Nat) (y : S54), (pre = pr ++ [x] ∧ c = .ret ∧ gs[x.val]? = some y ∧ j < q) ∧ (placeF ld q x.val j = false ∧ (∀ i, i < j → placeF ld q x.val i = true) ∧ ∀ y ∈ pr, FullG ld q y.val) ∧
    (Boxed W (w.heap.size + 1) 3 (.int .i64 (dataAt i q (x.val * q + j))) ∧ Boxed W (w.heap.size + 2) 4 (.bool true)) ∧ IsA base (fun k => ok k ∨ w.heap.size + 5 ≤ k) W g gr i d (gs.set x.val ⟨y.f0, withB y.f1 j true⟩)) ∧ Off ok w W
theorem BlkS.own {B : Nat} (hB : w.heap.size ≤ B) (c : Code) : OwnFrom B (fun (pre : List (Fin n)) W => BlkS base ok w g gr i d gs ld q c pre W) := by
  unfold BlkS
  refine OwnFrom.and (Own.from (fun s A B row hs hg hr => ?_) _) (ownFrom_off hB)
  obtain ⟨pr, x, j, y, h1, h2, h3, h4⟩ := hs
  exact ⟨pr, x, j, y, h1, h2, ⟨boxed_own _ _ (fun (_ : Unit) => .int .i64 (dataAt i q (x.val * q + j))) () A B row h3.1 hg hr, boxed_own _ _ (fun (_ : Unit) => .bool true) () A B row h3.2 hg hr⟩, h4.noncells hg hr⟩
end

theorem res2b_ {F : Fence} {m : Nat} {R : Ending → World → Prop} {a : Act} {w : World} {B1 B2 D : Nat} {u1 : Int} {u2 : Bool} (hd : a.defers = [{ target := .collected D, args := #[] }])
    (hs1 : a.tmps.getD 4 undef = .pointer (some ⟨B1, 0, none⟩)) (hs2 : a.tmps.getD 5 undef = .pointer (some ⟨B2, 0, none⟩)) (h1 : Boxed w B1 3 (.int .i64 u1)) (h2 : Boxed w B2 4 (.bool u2))
    (hK : w.heap[D]? = some (.deferred (some []))) (h : R (.returned (.tuple #[.int .i64 u1, .bool u2])) (w.putObj D (.deferred none))) : bodyPostM F m Try.prog Try.f10 R .ret a w := by
  show LeavesInM _ _ _ _ _ _ a.defers _ _
  rw [hd]
  refine ⟨by simp, .inl ⟨_, _, rfl, run_takeDeferred hK, ?_⟩⟩
  refine ⟨.tuple #[.int .i64 u1, .bool u2], ?_, h⟩
  have q1 : Boxed (w.putObj D (.deferred none)) B1 3 (.int .i64 u1) := h1.kept (grownBy_putObj' w D _) (fun e => by
    cases e
    rw [show w.heap[B1]? = _ from h1] at hK
    cases hK)
  have q2 : Boxed (w.putObj D (.deferred none)) B2 4 (.bool u2) := h2.kept (grownBy_putObj' w D _) (fun e => by
    cases e
    rw [show w.heap[B2]? = _ from h2] at hK
    cases hK)
  have c1 := q1.cell
  have c2 := q2.cell
  simp only [Array.getD_eq_getD_getElem?] at hs1 hs2
  simp [results, Try.f10, go_sem, hs1, hs2, c1, c2]

set_option maxRecDepth 100000 in
set_option maxHeartbeats 8000000 in
theorem block_calls (g base : Nat) (ok : Nat → Prop) (gr i d : Int) (n p q : Nat) (gs : List S54) (li ld : List Bool) (from0 : Int) (w : World)
    (h : IsA base ok w g gr i d gs) (hok : ∀ k, ok k → k < w.heap.size) (hbs : base ≤ w.heap.size) (hA : AOk gr i d n p q gs li ld) :
    Calls Try.prog 10 #[.pointer (some ⟨g, 0, none⟩), .int .i64 from0] w fun e w' => ∃ gs', e = .returned (.tuple #[.int .i64 (optD i q (nextA ld q n from0)), .bool (nextA ld q n from0).isSome]) ∧
      IsA base (fun k => ok k ∨ w.heap.size ≤ k) w' g gr i d gs' ∧ AOk gr i d n p q gs' li (setO ld (nextA ld q n from0)) ∧ Off ok w w' := by
  have hgl : g < w.heap.size := hok g (by obtain ⟨_, _, h2, _⟩ := h; exact h2.2)
  have HA := Lib.hid hA
  have hn8 := hA.le
  have HOK := Lib.hid hok
  have HLEN := Lib.hid hA.gok.len
  obtain ⟨v0, hI0, hbok0, hR0⟩ := h
  obtain ⟨A0', c0', rfl⟩ := Kd.R_slice hR0
  have hH : Hid (IsA base ok w g gr i d gs) := Lib.hid ⟨_, hI0, hbok0, hR0⟩
  have hIA := Lib.hid hI0
  have HBOK := Lib.hid hbok0
  clear hA hok hI0 hR0 hbok0
  refine (callsIn_wide (n := 9)).1 ?_
  refine callsIn_of_wp_marks Try.func10 rfl trivial ?_ rfl
  simp only [Try.ntmps10, List.size_toArray, List.length_cons, List.length_nil, Nat.reduceAdd, Nat.reduceSub, Array.replicate_succ, Array.replicate_zero, List.push_toArray, List.append_toArray, List.nil_append, List.cons_append]
  gi_wp2_with (refine ⟨trivial, ?_⟩; first | (gi_at_call 27; refine (callsIn_wide.2 (round_in g from0 _)).mono ?_; rintro e w' ⟨rfl, rfl⟩))
  obtain ⟨w5, hw5⟩ : ∃ w5, ((((w.alloc (.cells #[.pointer (some ⟨g, 0, none⟩)] 25)).alloc (.cells #[.int .i64 0] 3)).alloc (.cells #[.bool false] 4)).alloc (.cells #[.pointer (some ⟨g, 0, none⟩)] 25)).alloc (.cells #[.int .i64 from0] 3) = w5 := ⟨_, rfl⟩
  have hsz : w5.heap.size = w.heap.size + 5 := by rw [← hw5]; simp
  have hB5 : Below w.heap.size w w5 := by
    rw [← hw5]
    exact (((((Below.refl _ w).alloc (Nat.le_refl _) _).alloc (by simp) _).alloc (by simp; omega) _).alloc (by simp; omega) _).alloc (by simp; omega) _
  have q2 : Boxed w5 w.heap.size 25 (.pointer (some ⟨g, 0, none⟩)) := by rw [← hw5]; exact ((((Boxed.new w 25 _).alloc _).alloc _).alloc _).alloc _
  have q4 : Boxed w5 (w.heap.size + 1) 3 (.int .i64 0) := by
    rw [← hw5]
    have := Boxed.new (w.alloc (.cells #[.pointer (some ⟨g, 0, none⟩)] 25)) 3 (.int .i64 0)
    rw [World.size_alloc] at this
    exact ((this.alloc _).alloc _).alloc _
  have q5 : Boxed w5 (w.heap.size + 2) 4 (.bool false) := by
    rw [← hw5]
    have := Boxed.new ((w.alloc (.cells #[.pointer (some ⟨g, 0, none⟩)] 25)).alloc (.cells #[.int .i64 0] 3)) 4 (.bool false)
    rw [World.size_alloc, World.size_alloc] at this
    exact (this.alloc _).alloc _
  have q6 : Boxed w5 (w.heap.size + 3) 25 (.pointer (some ⟨g, 0, none⟩)) := by
    rw [← hw5]
    have := Boxed.new (((w.alloc (.cells #[.pointer (some ⟨g, 0, none⟩)] 25)).alloc (.cells #[.int .i64 0] 3)).alloc (.cells #[.bool false] 4)) 25 (.pointer (some ⟨g, 0, none⟩))
    rw [World.size_alloc, World.size_alloc, World.size_alloc] at this
    exact this.alloc _
  have q7 : Boxed w5 (w.heap.size + 4) 3 (.int .i64 from0) := by
    rw [← hw5]
    have := Boxed.new ((((w.alloc (.cells #[.pointer (some ⟨g, 0, none⟩)] 25)).alloc (.cells #[.int .i64 0] 3)).alloc (.cells #[.bool false] 4)).alloc (.cells #[.pointer (some ⟨g, 0, none⟩)] 25)) 3 (.int .i64 from0)
    rw [World.size_alloc, World.size_alloc, World.size_alloc, World.size_alloc] at this
    exact this
  have hI5 : IsAB w5 g gr i d (.slice A0' gs.length c0') := hIA.out.below (hB5.mono (Nat.le_refl _))
  have hA5 : IsA base ok w5 g gr i d gs := hH.out.below hB5
  rw [hw5]
  clear hw5
  have HI5 := Lib.hid hI5
  rw [HLEN.out] at hI5
  have hG : RoundG (w.heap.size + 4) (w.heap.size + 3) g n c0' A0'
      (fun W => Boxed W (w.heap.size + 3) 25 (.pointer (some ⟨g, 0, none⟩)) ∧ IsAB W g gr i d (.slice A0' n c0'))
      (fun A B => (∀ b, w.heap.size + 3 ≤ b → b < w.heap.size + 5 → B.heap[b]? = A.heap[b]?) ∧ B.heap[g]? = A.heap[g]?) :=
    ⟨fun W h => h.1.cell, fun W h => h.2.c3, fun W v h => ⟨h.1.other (by omega) _, (Below.heap_setCell _ _ _ _ (by simp only; omega)).trans h.2⟩, fun W k h => h,
      fun A B h k => ⟨(k.1 _ (by omega) (by omega)).trans h.1, k.2.trans h.2⟩, fun A B k => k.1 _ (by omega) (by omega)⟩
  refine wpIn_rangeFunc_W (F := Fence.wide) rfl (by omega) (gf := 40) (lb := #[.pointer (some ⟨w.heap.size + 4, 0, none⟩), .pointer (some ⟨w.heap.size + 3, 0, none⟩)]) rfl trivial (enters_of Try.func40 (by kernel_rfl) rfl)
    (encs := encG) (Wr := WrF (w.heap.size + 4)) (S := fun ys W => ys.map Fin.val = roundL n from0 n) (Sp := fun pre W => ∃ q, q < n ∧ pre.map Fin.val = roundL n from0 (q + 1)) (N := n) (w0 := w5)
    (fun l J Jx W hW hJ _ hJw hY h0 => round1_in 8 (by omega) l _ _ g n c0' A0' from0 (by omega) _ _ hG J Jx hJw hY W
      ⟨(hW.block _ (by omega)).trans q6, (hW.block _ (by omega)).trans hI5⟩ ((hW.block _ (by omega)).trans q7) hJ h0)
    (fun h k => ⟨fun b h1 h2 => (k.1 b h1 h2).trans (h.1 b h1 h2), k.2.trans h.2⟩)
    (fun W l o o' hl h1 h2 h3 => ⟨fun b hb1 hb2 => World.putObj_heap_other (by omega), World.putObj_heap_other (by omega)⟩)
    (fun A B h => by obtain ⟨s, rfl⟩ := h; exact KeepsOthers.setCell _ _ _) (Below.refl _ _) (fun _ => rfl)
    (InoI base ok w g gr i d gs ld q) (BlkS base ok w g gr i d gs ld q) (InoI.own (by omega)) (fun s A B h hw => InoI.frm HOK.out h hw) (fun c => BlkS.own (by omega) c)
    (ownFrom_pure _ _) (ownFrom_pure _ _)
    ⟨⟨q2, q4, q5⟩, ⟨hA5, by simp⟩, Off.of_below hB5 ok, by omega⟩
    (fun x => { tmps := #[.pointer (some ⟨g, 0, none⟩), .int .i64 from0, .pointer (some ⟨w.heap.size, 0, none⟩), undef, .pointer (some ⟨w.heap.size + 1, 0, none⟩), .pointer (some ⟨w.heap.size + 2, 0, none⟩), .int .i64 (x.val : Int), undef, undef, .pointer (some ⟨g, 0, none⟩), .int .i64 from0, .func (.func 40) #[] #[.pointer (some ⟨w.heap.size + 4, 0, none⟩), .pointer (some ⟨w.heap.size + 3, 0, none⟩)], .int .i64 (x.val : Int), undef, undef, undef, undef, undef, undef, undef, undef, undef, undef, undef, undef, undef, undef, undef, undef, undef, undef, undef, undef, undef, undef, undef, undef, undef, undef, undef, undef, undef, undef, undef, undef, undef, undef, undef, undef, undef, undef, undef, undef, undef, undef, undef, undef, undef, undef, undef, undef, undef, undef, undef], defers := [] }) ?assign ?body ?done ?stop
  case assign =>
    intro l x W K hK
    gi_wp2
    exact hK
  case body =>
    rintro l pre x W ⟨⟨hb2, hb4, hb5⟩, ⟨hA, hful⟩, hoff, hszW⟩ hlen
    have hn : 0 < n := by have := x.isLt; omega
    obtain ⟨e1, e2, e3, hfine⟩ := HA.out.fine hn
    have hfine' := hfine
    obtain ⟨g1, g2, g3, g4, g5, g6⟩ := hfine'
    have hp64 : q ≤ 1000 := by omega
    have hp0 : 0 < q := by omega
    obtain ⟨y, hy⟩ : ∃ y, gs[x.val]? = some y := ⟨gs[x.val]'(by rw [HLEN.out]; exact x.isLt), List.getElem?_eq_getElem _⟩
    have hrow := (HA.out.gok.rows _ _ hy).2
    obtain ⟨v, hI, hbok, hR⟩ := hA
    obtain ⟨G, c, rfl, hG0, hG1, _⟩ := Kd.R_form hR (by rw [HLEN.out]; exact hn)
    rw [HLEN.out] at hI hR
    obtain ⟨B0, d0, B1, d1, hgrp⟩ := grp_at hR hy
    obtain ⟨r1, r2, hfirst, hcase⟩ := first_row hrow (by omega) (m := q) (by omega)
    have hxn : (x.val : Int) < (n : Int) := by have := x.isLt; omega
    have hx0 : (0 : Int) ≤ (x.val : Int) := by omega
    have hx8 : (x.val : Int) ≤ 7 := by omega
    have hgW : g < W.heap.size := hI.lt
    have HI := Lib.hid hI
    have HR := Lib.hid hR
    have HGRP := Lib.hid hgrp
    have HB2 := Lib.hid hb2
    have HB4 := Lib.hid hb4
    have HB5 := Lib.hid hb5
    have HOFF := Lib.hid hoff
    have HFUL := Lib.hid hful
    have HY := Lib.hid hy
    have HFI := Lib.hid hfirst
    have HE2 := Lib.hid e2
    have HE1 := Lib.hid e1
    have HE3 := Lib.hid e3
    have HFN := Lib.hid hfine
    have HBK := Lib.hid hbok
    have HSZ := Lib.hid hszW
    have HROW := Lib.hid hrow
    have hS0 : W.drew.cell? ⟨w.heap.size, 0, none⟩ = some (.pointer (some ⟨g, 0, none⟩)) ∧ W.drew.cell? ⟨g, 3, none⟩ = some (.slice (some ⟨G, 0, none⟩) n c) ∧ W.drew.cell? ⟨G, x.val * 2 + 1, none⟩ = some (.slice B1 y.f1.length d1) ∧ W.drew.cell? ⟨g, 2, none⟩ = some (.int .i64 (q : Int)) := ⟨hb2.cell, hI.c3, hgrp.k1, by rw [← e3]; exact hI.c2⟩
    have HBW : Hid (Below W.heap.size W W.drew) := Lib.hid (below_drew (Below.refl _ _))
    clear hb2 hb4 hb5 hoff hful hI hbok hR hgrp hy hfirst e1 e2 e3 hfine hszW hrow
    dsimp only
    gi_wp2
    refine region_in_round (by kernel_rfl) (by kernel_rfl) (by rintro ⟨_, _, hx⟩; exact hx) (wpAny_of_last (S := fun w' => w'.cell? ⟨w.heap.size, 0, none⟩ = some (.pointer (some ⟨g, 0, none⟩)) ∧ w'.cell? ⟨g, 3, none⟩ = some (.slice (some ⟨G, 0, none⟩) n c) ∧ w'.cell? ⟨G, x.val * 2 + 1, none⟩ = some (.slice B1 y.f1.length d1) ∧ w'.cell? ⟨g, 2, none⟩ = some (.int .i64 (q : Int))) (ds := []) 19 #[false, false, false, false, false, false, false, false, false, false, false, false, false, false, false, false, false, false, false] _ _ ?_)
    generalize W.drew = V at hS0 HBW ⊢
    have hHeld := hS0
    refine tk4_ 0 (some 14) (bm 19 1) hHeld ?_
    refine pu_ 1 (some 15) (bm 19 3) ?_
    refine pu_ 2 (some 16) (bm 19 7) ?_
    refine tk4_ 3 (some 17) (bm 19 15) hHeld ?_
    refine pu_ 4 (some 18) (bm 19 31) ?_
    refine pu_ 5 (some 19) (bm 19 63) ?_
    refine pu_ 6 (some 20) (bm 19 127) ?_
    refine tk4_ 7 (some 21) (bm 19 255) hHeld ?_
    refine tk4_ 8 (some 22) (bm 19 511) hHeld ?_
    refine pu_ 9 (some 23) (bm 19 1023) ?_
    refine pu_ 10 (some 24) (bm 19 2047) ?_
    refine pu_ 11 (some 25) (bm 19 4095) ?_
    refine tk4_ 12 (some 26) (bm 19 8191) hHeld ?_
    refine one_ (i := 13) (N := some 27) (bm 19 16383) rfl rfl (by kernel_rfl) (by decide) (fun K hK => ?_)
    refine goes_ Try.func28 (by kernel_rfl) rfl #[.slice B1 y.f1.length d1, .int .i64 (q : Int), .int .i64 0] (by rfl) rfl rfl (by (try simp only [List.map_toArray, List.map_cons, List.map_nil]); first | done | rfl) ?_
    refine (bits_First.calls B1 d1 y.f1 (q : Int) 0 r1 r2 _ (HGRP.out.below (blk_lt_G HR.out) HBW.out).r1 HGRP.out.l1 HFI.out).mono ?_
    rintro e V1 ⟨rfl, hb1⟩
    have hS1 := And.intro (pw_cell_below hb1 hS0.1) (And.intro (pw_cell_below hb1 hS0.2.1) (And.intro (pw_cell_below hb1 hS0.2.2.1) (pw_cell_below hb1 hS0.2.2.2)))
    have HBW1 := Lib.hid (HBW.out.trans (hb1.mono HBW.out.size))
    clear hb1
    refine ⟨_, rfl, hK.out _ _ hS1 (fun hHeld => ?_)⟩
    clear hK K
    refine norm_ (a' := ?_) ?_ ?_
    rotate_left
    · show Act.put _ (some 27) _ = _
      simp only [Act.put, List.setIfInBounds_toArray, List.set_cons_zero, List.set_cons_succ, i64_w, i32_w]
      rfl
    refine pu_ 14 (some 13) (bm 19 32767) ?_
    refine pu_ 15 (some 28) (bm 19 65535) ?_
    refine pu_ 16 (some 29) (bm 19 131071) ?_
    refine pu_ 17 (some 7) (bm 19 262143) ?_
    refine pu_ 18 (some 8) (bm 19 524287) ?_
    refine done_ (by kernel_rfl) ?_
    have hHeld0 := Lib.hid hS1
    have HI1 := Lib.hid (HI.out.below HBW1.out)
    have HR1 := Lib.hid (Kd.R_below HR.out HBW1.out)
    have HGRP1 := Lib.hid (HGRP.out.below (blk_lt_G HR.out) HBW1.out)
    have HOFF1 := Lib.hid (HOFF.out.below HBW1.out)
    have HNK : Hid (∀ b, w.heap.size ≤ b → ¬ ok b) := Lib.hid (fun b hb hk => by have := HOK.out b hk; omega)
    have HB2' := Lib.hid (HB2.out.kept (grown_of_below HBW1.out none) (by simp))
    have HB4' := Lib.hid (HB4.out.kept (grown_of_below HBW1.out none) (by simp))
    have HB5' := Lib.hid (HB5.out.kept (grown_of_below HBW1.out none) (by simp))
    have HSZ1 := Lib.hid (HBW1.out.size)
    clear hHeld hS0 hS1 HBW
    rcases hcase with ⟨rfl, j, rfl, hjp, hjf, hjb⟩ | ⟨rfl, rfl, hfull⟩
    · have hj0 : (0 : Int) ≤ (j : Int) := by omega
      have hj64 : (j : Int) ≤ 999 := by omega
      have HJB := Lib.hid hjb
      have HJF := Lib.hid hjf
      have HJP := Lib.hid hjp
      have hwf := with_nat (l := y.f1) (by rw [HROW.out.1]; omega) j (by omega) true 0
      have HWF := Lib.hid hwf
      clear hjb hjf hjp hwf
      gi_wp2
      have hS0 : V1.drew.cell? ⟨w.heap.size, 0, none⟩ = some (.pointer (some ⟨g, 0, none⟩)) ∧ V1.drew.cell? ⟨g, 3, none⟩ = some (.slice (some ⟨G, 0, none⟩) n c) ∧ V1.drew.cell? ⟨G, x.val * 2 + 1, none⟩ = some (.slice B1 y.f1.length d1) ∧ V1.drew.cell? ⟨g, 2, none⟩ = some (.int .i64 (q : Int)) := hHeld0.out
      have HPUT : Hid (∀ (V2 : World) (v : Value) (b : List Int), Below V1.drew.heap.size V1.drew V2 → Kd.R (Kd.int .u8) 5 V2 V1.drew.heap.size (fun _ => True) v b → IsA base (fun k => ok k ∨ V1.drew.heap.size ≤ k) (V2.setCell ⟨G, x.val * 2 + 1, none⟩ v) g gr i d (gs.set x.val ⟨y.f0, b⟩) ∧
          Off ok V1.drew (V2.setCell ⟨G, x.val * 2 + 1, none⟩ v) ∧ (V2.setCell ⟨G, x.val * 2 + 1, none⟩ v).heap[g]? = V1.drew.heap[g]? ∧ KeepsOthers V1.drew (V2.setCell ⟨G, x.val * 2 + 1, none⟩ v)) :=
        Lib.hid (fun V2 v b hb hv => IsA.put_ (W := V1.drew) false (HI1.out.below (below_drew (Below.refl _ _))) HBK.out (Kd.R_drew HR1.out) HY.out (Nat.le_trans hbs (Nat.le_trans HOFF.out.size HSZ1.out)) (fun k hk => Nat.lt_of_lt_of_le (HOK.out k hk) (Nat.le_trans HOFF.out.size HSZ1.out)) hb hv)
      have HGD := Lib.hid (HGRP1.out.below (blk_lt_G HR1.out) (below_drew (Below.refl _ V1)))
      have HOFFD := Lib.hid (HOFF1.out.drew)
      have HB2d : Hid (Boxed V1.drew w.heap.size 25 (.pointer (some ⟨g, 0, none⟩))) := Lib.hid HB2'.out
      have HB4d : Hid (Boxed V1.drew (w.heap.size + 1) 3 (.int .i64 0)) := Lib.hid HB4'.out
      have HB5d : Hid (Boxed V1.drew (w.heap.size + 2) 4 (.bool false)) := Lib.hid HB5'.out
      have HID : Hid (IsAB V1.drew g gr i d (.slice (some ⟨G, 0, none⟩) n c)) := Lib.hid HI1.out
      have HKO : Hid (KeepsOthers W V1.drew) := Lib.hid ((keeps_below HBW1.out).trans (KeepsOthers.drew V1))
      have HZD : Hid (w.heap.size + 5 ≤ V1.drew.heap.size) := Lib.hid (Nat.le_trans HSZ.out HSZ1.out)
      have HGK : Hid (V1.drew.heap[g]? = W.heap[g]?) := Lib.hid (HBW1.out.block g hgW)
      have HKb : Hid (∀ b, w.heap.size ≤ b → b < w.heap.size + 5 → V1.drew.heap[b]? = W.heap[b]?) := Lib.hid (fun b h1 h2 => HBW1.out.block b (by have := HSZ.out; omega))
      refine region_in_round (by kernel_rfl) (by kernel_rfl) (by rintro ⟨_, _, hx⟩; exact hx) (wpAny_of_last (S := fun w' => w'.cell? ⟨w.heap.size, 0, none⟩ = some (.pointer (some ⟨g, 0, none⟩)) ∧ w'.cell? ⟨g, 3, none⟩ = some (.slice (some ⟨G, 0, none⟩) n c) ∧ w'.cell? ⟨G, x.val * 2 + 1, none⟩ = some (.slice B1 y.f1.length d1) ∧ w'.cell? ⟨g, 2, none⟩ = some (.int .i64 (q : Int))) (ds := [17]) 18 #[false, false, false, false, false, false, false, false, false, false, false, false, false, false, false, false, false, false] _ _ ?_)
      generalize V1.drew = V at hS0 HPUT HGD HOFFD HB2d HB4d HB5d HID HKO HZD HGK HKb ⊢
      have hHeld := hS0
      refine tk4_ 0 (some 31) (bm 18 1) hHeld ?_
      refine pu_ 1 (some 32) (bm 18 3) ?_
      refine pu_ 2 (some 33) (bm 18 7) ?_
      refine tk4_ 3 (some 34) (bm 18 15) hHeld ?_
      refine pu_ 4 (some 35) (bm 18 31) ?_
      refine tk4_ 5 (some 36) (bm 18 63) hHeld ?_
      refine pu_ 6 (some 37) (bm 18 127) ?_
      refine pu_ 7 (some 38) (bm 18 255) ?_
      refine tk4_ 8 (some 39) (bm 18 511) hHeld ?_
      refine pu_ 9 (some 40) (bm 18 1023) ?_
      refine pu_ 10 (some 41) (bm 18 2047) ?_
      refine pu_ 11 (some 42) (bm 18 4095) ?_
      refine tk4_ 12 (some 43) (bm 18 8191) hHeld ?_
      refine pu_ 13 (some 44) (bm 18 16383) ?_
      refine one_ (i := 14) (N := some 45) (bm 18 32767) rfl rfl (by kernel_rfl) (by decide) (fun K hK => ?_)
      refine goes_ Try.func30 (by kernel_rfl) rfl #[.slice B1 y.f1.length d1, .int .i64 (j : Int), .bool true] (by rfl) rfl rfl (by (try simp only [List.map_toArray, List.map_cons, List.map_nil]); first | done | rfl) ?_
      refine (bits_With.calls 1 B1 d1 y.f1 (j : Int) true _ _ HGD.out.r1 HGD.out.l1 HWF.out).mono ?_
      rintro e V2 ⟨v2, rfl, hv2, hb2⟩
      obtain ⟨A2, c2, rfl⟩ := Kd.R_slice hv2
      have HPU := Lib.hid (HPUT.out V2 _ _ hb2 hv2)
      have hS1 := And.intro (pw_cell_below hb2 hS0.1) (And.intro (pw_cell_below hb2 hS0.2.1) (And.intro (pw_cell_below hb2 hS0.2.2.1) (pw_cell_below hb2 hS0.2.2.2)))
      have hfz := (hb2.frozen (p := ⟨G, x.val * 2 + 1, none⟩) (World.block_lt_of_cell? _ _ hS0.2.2.1)).trans HGD.out.z1
      clear hb2 hv2
      refine ⟨_, rfl, hK.out _ _ hS1 (fun hHeld => ?_)⟩
      clear hK K
      refine norm_ (a' := ?_) ?_ ?_
      rotate_left
      · show Act.put _ (some 45) _ = _
        simp only [Act.put, List.setIfInBounds_toArray, List.set_cons_zero, List.set_cons_succ, i64_w, i32_w]
        rfl
      refine pu_ 15 (some 46) (bm 18 65535) ?_
      refine pu_ 16 (some 47) (bm 18 131071) ?_
      refine last_ (i := 17) (N := none) (bm 18 262143) rfl rfl (by kernel_rfl) (by decide) (fun K hK => ?_)
      refine skip_ (w1 := ?_) (by rfl) rfl ?_ ?_
      rotate_left
      · go_simp
        rfl
      refine hK.out _ _ ?_
      clear hK K
      refine done_ (by kernel_rfl) ?_
      have hPU := HPU.out
      generalize V2.setCell ⟨G, x.val * 2 + 1, none⟩ (.slice A2 (withB y.f1 j true).length c2) = V3 at hPU ⊢
      obtain ⟨hA3, ho3, hg3, hk3⟩ := hPU
      have b2 := (ho3.blk HB2d.out (HNK.out _ (Nat.le_refl _)))
      have b4 : Boxed V3 _ _ _ := (ho3.blk HB4d.out (HNK.out _ (by omega)))
      have b5 : Boxed V3 _ _ _ := (ho3.blk HB5d.out (HNK.out _ (by omega)))
      have k2 := (show Boxed V3 _ _ _ from b2).cell
      have k4 := b4.cell
      have k5 := b5.cell
      have z4 := b4.frozen
      have z5 := b5.frozen
      have HI3 : Hid (IsAB V3 g gr i d (.slice (some ⟨G, 0, none⟩) n c)) := Lib.hid (hg3.trans HID.out)
      have HA3 := Lib.hid hA3
      have HO3 := Lib.hid ho3
      have HG3 := Lib.hid hg3
      have HK3 := Lib.hid hk3
      have HB43 := Lib.hid b4
      have HB53 := Lib.hid b5
      clear hA3 ho3 hg3 hk3 b2 b4 b5 HPU hHeld hfz hS1 hS0
      have m0 : (0 : Int) ≤ (x.val : Int) * (q : Int) := Int.mul_nonneg (by omega) (by omega)
      have m1 : (x.val : Int) * (q : Int) ≤ 7 * 1000 := Int.mul_le_mul (by omega) (by omega) (by omega) (by omega)
      have u1 : wrap64 ((x.val : Int) * (q : Int)) = (x.val : Int) * (q : Int) := w64_small m0 (by omega)
      have u2 : wrap64 ((x.val : Int) * (q : Int) + (j : Int)) = (x.val : Int) * (q : Int) + (j : Int) := w64_small (Int.add_nonneg m0 hj0) (by clear u1; omega)
      have U1 := Lib.hid u1
      have U2 := Lib.hid u2
      clear u1 u2
      have hlq : x.val * q + j < n * q := by
        have h2 : (x.val + 1) * q ≤ n * q := Nat.mul_le_mul_right q x.isLt
        rw [Nat.add_mul] at h2
        have := HJP.out
        omega
      have hcast : ((x.val * q + j : Nat) : Int) = (x.val : Int) * (q : Int) + (j : Int) := by rw [Int.natCast_add, Int.natCast_mul]
      have hdat := data_is HFN.out HE1.out HE3.out hlq
      rw [hcast, HE3.out] at hdat
      have HDAT := Lib.hid hdat
      clear hdat hcast hlq
      gi_wp2
      have hS0 : V3.drew.cell? ⟨w.heap.size, 0, none⟩ = some (.pointer (some ⟨g, 0, none⟩)) ∧ V3.drew.cell? ⟨g, 0, none⟩ = some (.int .i64 gr) ∧ V3.drew.cell? ⟨g, 1, none⟩ = some (.int .i64 i) ∧ V3.drew.cell? ⟨g, 2, none⟩ = some (.int .i64 (q : Int)) := ⟨k2, HI3.out.c0, HI3.out.c1, by rw [← HE3.out]; exact HI3.out.c2⟩
      have HB4e : Hid (Boxed V3.drew (w.heap.size + 1) 3 (.int .i64 0)) := Lib.hid HB43.out
      have HB5e : Hid (Boxed V3.drew (w.heap.size + 2) 4 (.bool false)) := Lib.hid HB53.out
      have HOe := Lib.hid (HO3.out.drew)
      have HGe : Hid (V3.drew.heap[g]? = V.heap[g]?) := Lib.hid HG3.out
      have HKe := Lib.hid (HK3.out.trans (KeepsOthers.drew V3))
      have HAe : Hid (IsA base (fun k => ok k ∨ V.heap.size ≤ k) V3.drew g gr i d _) := Lib.hid (HA3.out.below (below_drew (Below.refl _ _)))
      refine region_in_round (by kernel_rfl) (by kernel_rfl) (by rintro ⟨_, _, hx⟩; exact hx) (wpAny_of_last (S := fun w' => w'.cell? ⟨w.heap.size, 0, none⟩ = some (.pointer (some ⟨g, 0, none⟩)) ∧ w'.cell? ⟨g, 0, none⟩ = some (.int .i64 gr) ∧ w'.cell? ⟨g, 1, none⟩ = some (.int .i64 i) ∧ w'.cell? ⟨g, 2, none⟩ = some (.int .i64 (q : Int))) (ds := [16, 17]) 18 #[false, false, false, false, false, false, false, false, false, false, false, false, false, false, false, false, false, false] _ _ ?_)
      generalize V3.drew = V4 at hS0 HB4e HB5e HOe HGe HKe HAe ⊢
      have hHeld := hS0
      refine tk4_ 0 (some 48) (bm 18 1) hHeld ?_ (ha := by simp only [Act.put, List.setIfInBounds_toArray, List.set_cons_zero, List.set_cons_succ, i64_w, i32_w, U1.out, U2.out]; rfl)
      refine pu_ 1 (some 49) (bm 18 3) ?_ (ha := by simp only [Act.put, List.setIfInBounds_toArray, List.set_cons_zero, List.set_cons_succ, i64_w, i32_w, U1.out, U2.out]; rfl)
      refine pu_ 2 (some 50) (bm 18 7) ?_ (ha := by simp only [Act.put, List.setIfInBounds_toArray, List.set_cons_zero, List.set_cons_succ, i64_w, i32_w, U1.out, U2.out]; rfl)
      refine tk4_ 3 (some 51) (bm 18 15) hHeld ?_ (ha := by simp only [Act.put, List.setIfInBounds_toArray, List.set_cons_zero, List.set_cons_succ, i64_w, i32_w, U1.out, U2.out]; rfl)
      refine pu_ 4 (some 52) (bm 18 31) ?_ (ha := by simp only [Act.put, List.setIfInBounds_toArray, List.set_cons_zero, List.set_cons_succ, i64_w, i32_w, U1.out, U2.out]; rfl)
      refine tk4_ 5 (some 53) (bm 18 63) hHeld ?_ (ha := by simp only [Act.put, List.setIfInBounds_toArray, List.set_cons_zero, List.set_cons_succ, i64_w, i32_w, U1.out, U2.out]; rfl)
      refine pu_ 6 (some 54) (bm 18 127) ?_ (ha := by simp only [Act.put, List.setIfInBounds_toArray, List.set_cons_zero, List.set_cons_succ, i64_w, i32_w, U1.out, U2.out]; rfl)
      refine pu_ 7 (some 55) (bm 18 255) ?_ (ha := by simp only [Act.put, List.setIfInBounds_toArray, List.set_cons_zero, List.set_cons_succ, i64_w, i32_w, U1.out, U2.out]; rfl)
      refine pu_ 8 (some 56) (bm 18 511) ?_ (ha := by simp only [Act.put, List.setIfInBounds_toArray, List.set_cons_zero, List.set_cons_succ, i64_w, i32_w, U1.out, U2.out]; rfl)
      refine tk4_ 9 (some 57) (bm 18 1023) hHeld ?_ (ha := by simp only [Act.put, List.setIfInBounds_toArray, List.set_cons_zero, List.set_cons_succ, i64_w, i32_w, U1.out, U2.out]; rfl)
      refine pu_ 10 (some 58) (bm 18 2047) ?_ (ha := by simp only [Act.put, List.setIfInBounds_toArray, List.set_cons_zero, List.set_cons_succ, i64_w, i32_w, U1.out, U2.out]; rfl)
      refine pu_ 11 (some 59) (bm 18 4095) ?_ (ha := by simp only [Act.put, List.setIfInBounds_toArray, List.set_cons_zero, List.set_cons_succ, i64_w, i32_w, U1.out, U2.out]; rfl)
      refine pu_ 12 (some 60) (bm 18 8191) ?_ (ha := by simp only [Act.put, List.setIfInBounds_toArray, List.set_cons_zero, List.set_cons_succ, i64_w, i32_w, U1.out, U2.out]; rfl)
      refine one_ (i := 13) (N := some 61) (bm 18 16383) rfl rfl (by kernel_rfl) (by decide) (fun K hK => ?_)
      refine goes_ Try.func31 (by kernel_rfl) rfl #[.agg #[.int .i64 gr, .int .i64 i, .int .i64 (q : Int)], .int .i64 ((x.val : Int) * (q : Int) + (j : Int))] (by rfl) rfl rfl (by (try simp only [List.map_toArray, List.map_cons, List.map_nil]); first | done | rfl) ?_
      refine (geom_Data.calls 11 gr i (q : Int) _ _ _ _ HDAT.out).mono ?_
      rintro e V5 ⟨rfl, hb5⟩
      have hS1 := And.intro (pw_cell_below hb5 hS0.1) (And.intro (pw_cell_below hb5 hS0.2.1) (And.intro (pw_cell_below hb5 hS0.2.2.1) (pw_cell_below hb5 hS0.2.2.2)))
      have k4 := pw_cell_below hb5 HB4e.out.cell
      have k5 := pw_cell_below hb5 HB5e.out.cell
      have z4 := (hb5.frozen (p := ⟨w.heap.size + 1, 0, none⟩) HB4e.out.lt).trans HB4e.out.frozen
      have z5 := (hb5.frozen (p := ⟨w.heap.size + 2, 0, none⟩) HB5e.out.lt).trans HB5e.out.frozen
      have HB5b := Lib.hid hb5
      clear hb5
      refine ⟨_, rfl, hK.out _ _ hS1 (fun hHeld => ?_)⟩
      clear hK K
      refine norm_ (a' := ?_) ?_ ?_
      rotate_left
      · show Act.put _ (some 61) _ = _
        simp only [Act.put, List.setIfInBounds_toArray, List.set_cons_zero, List.set_cons_succ, i64_w, i32_w, U1.out, U2.out]
        rfl
      refine pu_ 14 (some 62) (bm 18 32767) ?_ (ha := by simp only [Act.put, List.setIfInBounds_toArray, List.set_cons_zero, List.set_cons_succ, i64_w, i32_w, U1.out, U2.out]; rfl)
      refine pu_ 15 (some 63) (bm 18 65535) ?_ (ha := by simp only [Act.put, List.setIfInBounds_toArray, List.set_cons_zero, List.set_cons_succ, i64_w, i32_w, U1.out, U2.out]; rfl)
      refine last_ (i := 16) (N := none) (bm 18 131071) rfl rfl (by kernel_rfl) (by decide) (fun K hK => ?_)
      refine skip_ (w1 := ?_) (by rfl) rfl ?_ ?_
      rotate_left
      · go_simp
        rfl
      refine hK.out _ _ ?_
      clear hK K
      refine last_ (i := 17) (N := none) (bm 18 262143) rfl rfl (by kernel_rfl) (by decide) (fun K hK => ?_)
      refine skip_ (w1 := ?_) (by rfl) rfl ?_ ?_
      rotate_left
      · go_simp
        rfl
      refine hK.out _ _ ?_
      clear hK K
      refine done_ (by kernel_rfl) ?_
      gi_wp2
      have HBW := HB5b.out
      refine ⟨((HKO.out.trans HKe.out).trans ((keeps_below HBW).trans ((KeepsOthers.setCell _ _ _).trans (KeepsOthers.setCell _ _ _)))).from _, ⟨fun b h1 h2 => ?_, ?_⟩, ⟨pre, x, j, y, ⟨rfl, rfl, HY.out, HJP.out⟩, ⟨HJF.out, HJB.out, HFUL.out⟩, ⟨?_, ?_⟩, ?_⟩, ?_⟩
      · exact (Below.heap_setCell _ _ _ _ (by simp only; omega)).trans ((Below.heap_setCell _ _ _ _ (by simp only; omega)).trans ((HBW.block b (by have := HOe.out.size; have := HZD.out; omega)).trans ((HOe.out.block b (by have := HZD.out; omega) (HNK.out b (by omega))).trans (HKb.out b (by omega) h2))))
      · exact (Below.heap_setCell _ _ _ _ (by simp only; omega)).trans ((Below.heap_setCell _ _ _ _ (by simp only; omega)).trans ((HBW.block g (by have := HOe.out.size; have := HZD.out; omega)).trans (HGe.out.trans HGK.out)))
      · exact ((HB4e.out.kept (grown_of_below HBW none) (by simp)).set _).other (by omega) _
      · exact ((HB5e.out.kept (grown_of_below HBW none) (by simp)).other (by omega) _).set _
      · refine IsA.mono (ok := fun k => ok k ∨ V.heap.size ≤ k) ?_ (fun k hk => hk.imp id (fun h => by have := HZD.out; omega))
        have hne : ∀ k, (ok k ∨ V.heap.size ≤ k) → k ≠ w.heap.size + 1 ∧ k ≠ w.heap.size + 2 := fun k hk => by
          rcases hk with hk | hk
          · have := HOK.out k hk; omega
          · have := HZD.out; omega
        exact (HAe.out.below HBW).move (fun k hk => (Below.heap_setCell _ _ _ _ (hne k hk).2).trans (Below.heap_setCell _ _ _ _ (hne k hk).1))
      · exact (((HOFFD.out.trans HOe.out).below HBW).setCell (.inr (by simp only; omega)) _).setCell (.inr (by simp only; omega)) _
    · clear HB2' HB4' HB5' HI1 HR1 HGRP1
      gi_wp2
      refine ⟨(keeps_below HBW1.out).from _, ⟨fun b h1 h2 => HBW1.out.block b (by have := HSZ.out; omega), HBW1.out.block g hgW⟩, ⟨HB2.out.kept (grown_of_below HBW1.out none) (by simp), HB4.out.kept (grown_of_below HBW1.out none) (by simp), HB5.out.kept (grown_of_below HBW1.out none) (by simp)⟩, ⟨IsA.below ⟨_, HI.out, HBK.out, HR.out⟩ HBW1.out, fun y' hy' => ?_⟩, HOFF1.out, by have := HSZ.out; have := HSZ1.out; omega⟩
      rcases List.mem_append.1 hy' with h5 | h5
      · exact HFUL.out y' h5
      · rw [List.mem_singleton.1 h5]
        exact hfull
  case done =>
    rintro D ys W hD hys ⟨⟨hb2, hb4, hb5⟩, ⟨hA, hful⟩, hoff, hszW⟩ hK
    have HNX := Lib.hid (next_no_groups (l := ld) (p := q) (n := n) (from0 := from0) (full_round hys hful))
    have HB4 := Lib.hid hb4
    have HB5 := Lib.hid hb5
    have HAW := Lib.hid hA
    have HOFF := Lib.hid hoff
    have hc4 := hb4.cell
    have hc5 := hb5.cell
    have hf4 := hb4.frozen
    have hf5 := hb5.frozen
    have HK := Lib.hid hK
    clear hb2 hb4 hb5 hA hful hoff hK hys
    gi_wp2
    have hKO : KeepsOthers W ((W.setCell ⟨w.heap.size + 1, 0, none⟩ (.int .i64 0)).setCell ⟨w.heap.size + 2, 0, none⟩ (.bool false)) := (KeepsOthers.setCell _ _ _).trans (KeepsOthers.setCell _ _ _)
    have hK' := hKO.same D _ HK.out rfl
    refine res2b_ (B1 := w.heap.size + 1) (B2 := w.heap.size + 2) (D := D) (u1 := 0) (u2 := false) rfl rfl rfl ((HB4.out.set _).other (by omega) _) ((HB5.out.other (by omega) _).set _) hK' ?_
    rw [HNX.out]
    refine ⟨gs, rfl, ?_, ?_, ?_⟩
    · refine IsA.mono (IsA.noncells ?_ (grownBy_putObj' _ D (.deferred none)) (fun r e => by cases e; exact ⟨_, hK', rfl⟩)) (fun k hk => .inl hk)
      exact HAW.out.move (fun k hk => (Below.heap_setCell _ _ _ _ (by have := HOK.out k hk; simp only; omega)).trans (Below.heap_setCell _ _ _ _ (by have := HOK.out k hk; simp only; omega)))
    · exact HA.out
    · exact ((HOFF.out.setCell (.inr (by simp only; omega)) _).setCell (.inr (by simp only; omega)) _).grown (grownBy_putObj' _ D _) (fun k e => by cases e; exact .inr (by omega))
  case stop =>
    rintro D c pre W hD ⟨q', hq', hpre⟩ ⟨⟨pr, x, j, y, ⟨rfl, rfl, hy, hjp⟩, ⟨hjf, hjb, hful⟩, ⟨hb4, hb5⟩, hA⟩, hoff⟩ hK
    have hnx := stop_round hq' hpre hful hjp hjf hjb
    gi_wp2
    refine res2b_ (B1 := w.heap.size + 1) (B2 := w.heap.size + 2) (D := D) (by rfl) (by rfl) (by rfl) hb4 hb5 hK ?_
    rw [hnx]
    refine ⟨_, rfl, ?_, HA.out.setD hy hjp true, ?_⟩
    · exact (hA.noncells (grownBy_putObj' W D _) (fun r e => by cases e; exact ⟨_, hK, rfl⟩)).mono (fun k hk => hk.imp id (fun h => by omega))
    · exact hoff.grown (grownBy_putObj' W D _) (fun k e => by cases e; exact .inr (by omega))
end Go.Proofs.Ytppjeikkodjjhaa.Given
