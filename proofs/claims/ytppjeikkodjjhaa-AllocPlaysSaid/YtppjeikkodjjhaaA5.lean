/- (*Alloc).Inode: the first free inode from a group on, round. -/
import Derived.Test.YtppjeikkodjjhaaSteps
import Derived.Test.YtppjeikkodjjhaaA3
import Derived.Test.YtppjeikkodjjhaaA4
namespace Go.Proofs.Ytppjeikkodjjhaa.Given
open Go.RowKit Go.Shelf Go.Proofs.YtppjeikkodjjhaaW.PrintWords Go.Proofs.YtppjeikkodjjhaaW.PrintLast Go.Proofs.YtppjeikkodjjhaaW.PrintMore Go.Proofs.YtppjeikkodjjhaaBase Go.Proofs.Ytppjeikkodjjhaa.PGeo Go.Proofs.Ytppjeikkodjjhaa.PGet Go.Proofs.Ytppjeikkodjjhaa.PWith
set_option linter.unusedVariables false
set_option linter.unusedSimpArgs false
attribute [local go_sem] Oper.semAt_some

/-- the groups' rows and what they tell of the places; a geometry that can't be has no groups -/
structure AOk (gr i d : Int) (n p q : Nat) (gs : List S54) (li ld : List Bool) : Prop where
  gok : GOK n p q gs li ld
  fine : 0 < n → gr = (n : Int) ∧ i * 16 = (p : Int) ∧ d = (q : Int) ∧ Fine gr i d
  none_ : n = 0 → ¬ Fine gr i d
theorem AOk.le {gr i d : Int} {n p q : Nat} {gs : List S54} {li ld : List Bool} (h : AOk gr i d n p q gs li ld) : n ≤ 8 := by
  rcases Nat.eq_zero_or_pos n with h0 | h0
  · omega
  · obtain ⟨h1, _, _, h2, h3, _⟩ := h.fine h0
    omega
theorem AOk.setI {gr i d : Int} {n p q : Nat} {gs : List S54} {li ld : List Bool} (h : AOk gr i d n p q gs li ld) {k j : Nat} {x : S54} (hx : gs[k]? = some x) (hj : j < p) (on : Bool) :
    AOk gr i d n p q (gs.set k ⟨withB x.f0 j on, x.f1⟩) (li.set (k * p + j) on) ld := by
  have hn : 0 < n := by have := (List.getElem?_eq_some_iff.1 hx).1; rw [h.gok.len] at this; omega
  obtain ⟨_, h2, _, _, _, _, h5, _⟩ := h.fine hn
  exact ⟨h.gok.setI (by omega) hx hj on, h.fine, h.none_⟩
theorem AOk.setD {gr i d : Int} {n p q : Nat} {gs : List S54} {li ld : List Bool} (h : AOk gr i d n p q gs li ld) {k j : Nat} {x : S54} (hx : gs[k]? = some x) (hj : j < q) (on : Bool) :
    AOk gr i d n p q (gs.set k ⟨x.f0, withB x.f1 j on⟩) li (ld.set (k * q + j) on) := by
  have hn : 0 < n := by have := (List.getElem?_eq_some_iff.1 hx).1; rw [h.gok.len] at this; omega
  obtain ⟨_, _, h3, _, _, _, _, _, h5⟩ := h.fine hn
  exact ⟨h.gok.setD (by omega) hx hj on, h.fine, h.none_⟩
/-- what a search answers, and what it leaves -/
def setO (l : List Bool) (r : Option Nat) : List Bool := match r with
  | none => l
  | some k => l.set k true
def optI (r : Option Nat) : Int := match r with
  | none => 0
  | some k => (k : Int) + 1
/-- group x is full -/
def FullG (l : List Bool) (p x : Nat) : Prop := ∀ j, j < p → placeF l p x j = true
theorem full_round {l : List Bool} {p n : Nat} {from0 : Int} {pre : List (Fin n)} {m : Nat} (h : pre.map Fin.val = roundL n from0 m) (hf : ∀ y ∈ pre, FullG l p y.val) : ∀ q, q < m → ∀ j, j < p → placeF l p ((fromOf n from0 + q) % n) j = true := by
  intro q hq j hj
  have h1 : (roundL n from0 m)[q]? = some ((fromOf n from0 + q) % n) := by simp [roundL, hq]
  rw [← h, List.getElem?_map, Option.map_eq_some_iff] at h1
  obtain ⟨y, hy, he⟩ := h1
  rw [← he]
  exact hf y (List.mem_of_getElem? hy) j hj
theorem stop_round {l : List Bool} {p n : Nat} {from0 : Int} {pre : List (Fin n)} {x : Fin n} {q j : Nat} (hq : q < n) (h : (pre ++ [x]).map Fin.val = roundL n from0 (q + 1)) (hf : ∀ y ∈ pre, FullG l p y.val)
    (hj : j < p) (hfree : placeF l p x.val j = false) (hb : ∀ i, i < j → placeF l p x.val i = true) : nextA l p n from0 = some (x.val * p + j) := by
  rw [roundL_snoc, List.map_append, List.map_cons, List.map_nil] at h
  obtain ⟨h1, h2⟩ := List.append_inj' h rfl
  have h2 : x.val = (fromOf n from0 + q) % n := by simpa using h2
  rw [h2] at hfree hb ⊢
  exact next_of_groups hq hj hfree hb (full_round h1 hf)

section
variable {base : Nat} {ok : Nat → Prop} {w : World} {g : Nat} {gr i d : Int} {n p q : Nat} {gs : List S54} {li ld : List Bool}
/-- ahead of a round: the groups gone over are full -/
def InoI (base : Nat) (ok : Nat → Prop) (w : World) (g : Nat) (gr i d : Int) (gs : List S54) (li : List Bool) (p : Nat) {n : Nat} (pre : List (Fin n)) (W : World) : Prop :=
  (Boxed W w.heap.size 25 (.pointer (some ⟨g, 0, none⟩)) ∧ Boxed W (w.heap.size + 1) 3 (.int .i64 0) ∧ Boxed W (w.heap.size + 2) 4 (.bool false)) ∧ (IsA base ok W g gr i d gs ∧ ∀ y ∈ pre, FullG li p y.val) ∧ Off ok w W ∧ w.heap.size + 5 ≤ W.heap.size
/-- a round has found a free one -/
def InoS (base : Nat) (ok : Nat → Prop) (w : World) (g : Nat) (gr i d : Int) (gs : List S54) (li : List Bool) (p : Nat) {n : Nat} (c : Code) (pre : List (Fin n)) (W : World) : Prop :=
  (∃ (pr : List (Fin n)) (x : Fin n) (j : Nat) (y : S54), (pre = pr ++ [x] ∧ c = .ret ∧ gs[x.val]? = some y ∧ j < p) ∧ (placeF li p x.val j = false ∧ (∀ i, i < j → placeF li p x.val i = true) ∧ ∀ y ∈ pr, FullG li p y.val) ∧
    (Boxed W (w.heap.size + 1) 3 (.int .i64 (((x.val * p + j : Nat) : Int) + 1)) ∧ Boxed W (w.heap.size + 2) 4 (.bool true)) ∧ IsA base (fun k => ok k ∨ w.heap.size + 5 ≤ k) W g gr i d (gs.set x.val ⟨withB y.f0 j true, y.f1⟩)) ∧ Off ok w W
theorem InoI.own {B : Nat} (hB : w.heap.size ≤ B) : OwnFrom B (fun (pre : List (Fin n)) W => InoI base ok w g gr i d gs li p pre W) := by
  unfold InoI
  refine OwnFrom.and (Own.from (fun s A B row hs hg hr => ?_) _) (OwnFrom.and (Own.from (fun s A B row hs hg hr => ⟨hs.1.noncells hg hr, hs.2⟩) _) (OwnFrom.and (ownFrom_off hB) (fun s A B row hs hg hr => Nat.le_trans hs hg.size)))
  exact ⟨boxed_own _ _ (fun (_ : Unit) => .pointer (some ⟨g, 0, none⟩)) () A B row hs.1 hg hr, boxed_own _ _ (fun (_ : Unit) => .int .i64 0) () A B row hs.2.1 hg hr, boxed_own _ _ (fun (_ : Unit) => .bool false) () A B row hs.2.2 hg hr⟩
theorem InoS.own {B : Nat} (hB : w.heap.size ≤ B) (c : Code) : OwnFrom B (fun (pre : List (Fin n)) W => InoS base ok w g gr i d gs li p c pre W) := by
  unfold InoS
  refine OwnFrom.and (Own.from (fun s A B row hs hg hr => ?_) _) (ownFrom_off hB)
  obtain ⟨pr, x, j, y, h1, h2, h3, h4⟩ := hs
  exact ⟨pr, x, j, y, h1, h2, ⟨boxed_own _ _ (fun (_ : Unit) => .int .i64 (((x.val * p + j : Nat) : Int) + 1)) () A B row h3.1 hg hr, boxed_own _ _ (fun (_ : Unit) => .bool true) () A B row h3.2 hg hr⟩, h4.noncells hg hr⟩
/-- what the iterator of round writes between two rounds is none of it -/
theorem InoI.frm {pre : List (Fin n)} {A B : World} (hok : ∀ k, ok k → k < w.heap.size) (h : InoI base ok w g gr i d gs li p pre A) (hw : WrF (w.heap.size + 4) A B) : InoI base ok w g gr i d gs li p pre B := by
  obtain ⟨s, rfl⟩ := hw
  obtain ⟨⟨h1, h2, h3⟩, ⟨h4, h5⟩, h6, h7⟩ := h
  refine ⟨⟨h1.other (by omega) _, h2.other (by omega) _, h3.other (by omega) _⟩, ⟨h4.move (fun k hk => Below.heap_setCell _ _ _ _ (by have := hok k hk; simp only; omega)), h5⟩, h6.setCell (.inr (by simp)) _, by rw [World.size_setCell]; exact h7⟩
end

theorem res2_ {F : Fence} {m : Nat} {R : Ending → World → Prop} {a : Act} {w : World} {B1 B2 D : Nat} {u1 : Int} {u2 : Bool} (hd : a.defers = [{ target := .collected D, args := #[] }])
    (hs1 : a.tmps.getD 4 undef = .pointer (some ⟨B1, 0, none⟩)) (hs2 : a.tmps.getD 5 undef = .pointer (some ⟨B2, 0, none⟩)) (h1 : Boxed w B1 3 (.int .i64 u1)) (h2 : Boxed w B2 4 (.bool u2))
    (hK : w.heap[D]? = some (.deferred (some []))) (h : R (.returned (.tuple #[.int .i64 u1, .bool u2])) (w.putObj D (.deferred none))) : bodyPostM F m Try.prog Try.f9 R .ret a w := by
  show LeavesInM _ _ _ _ _ _ a.defers _ _
  rw [hd]
  refine ⟨by simp, .inl ⟨_, _, rfl, run_takeDeferred hK, ?_⟩⟩
  refine ⟨.tuple #[.int .i64 u1, .bool u2], ?_, h⟩
  have q1 : Boxed (w.putObj D (.deferred none)) B1 3 (.int .i64 u1) := h1.kept (grownBy_putObj' w D _) (fun e => by
    cases e
    rw [show w.heap[B1]? = _ from h1] at hK
    cases hK)
  have q2 : Boxed (w.putObj D (.deferred none)) B2 4 (.bool u2) := h2.kept (grownBy_putObj' w D _) (fun e => by
    cases e
    rw [show w.heap[B2]? = _ from h2] at hK
    cases hK)
  have c1 := q1.cell
  have c2 := q2.cell
  simp only [Array.getD_eq_getD_getElem?] at hs1 hs2
  simp [results, Try.f9, go_sem, hs1, hs2, c1, c2]

set_option maxRecDepth 100000 in
set_option maxHeartbeats 8000000 in
theorem inode_calls (g base : Nat) (ok : Nat → Prop) (gr i d : Int) (n p q : Nat) (gs : List S54) (li ld : List Bool) (from0 : Int) (w : World)
    (h : IsA base ok w g gr i d gs) (hok : ∀ k, ok k → k < w.heap.size) (hbs : base ≤ w.heap.size) (hA : AOk gr i d n p q gs li ld) :
    Calls Try.prog 9 #[.pointer (some ⟨g, 0, none⟩), .int .i64 from0] w fun e w' => ∃ gs', e = .returned (.tuple #[.int .i64 (optI (nextA li p n from0)), .bool (nextA li p n from0).isSome]) ∧
      IsA base (fun k => ok k ∨ w.heap.size ≤ k) w' g gr i d gs' ∧ AOk gr i d n p q gs' (setO li (nextA li p n from0)) ld ∧ Off ok w w' := by
  have hgl : g < w.heap.size := hok g (by obtain ⟨_, _, h2, _⟩ := h; exact h2.2)
  have HA := Lib.hid hA
  have hn8 := hA.le
  have HOK := Lib.hid hok
  have HLEN := Lib.hid hA.gok.len
  obtain ⟨v0, hI0, hbok0, hR0⟩ := h
  obtain ⟨A0', c0', rfl⟩ := Kd.R_slice hR0
  have hH : Hid (IsA base ok w g gr i d gs) := Lib.hid ⟨_, hI0, hbok0, hR0⟩
  have hIA := Lib.hid hI0
  have HBOK := Lib.hid hbok0
  clear hA hok hI0 hR0 hbok0
  refine (callsIn_wide (n := 9)).1 ?_
  refine callsIn_of_wp_marks Try.func9 rfl trivial ?_ rfl
  simp only [Try.ntmps9, List.size_toArray, List.length_cons, List.length_nil, Nat.reduceAdd, Nat.reduceSub, Array.replicate_succ, Array.replicate_zero, List.push_toArray, List.append_toArray, List.nil_append, List.cons_append]
  gi_wp2_with (refine ⟨trivial, ?_⟩; first | (gi_at_call 27; refine (callsIn_wide.2 (round_in g from0 _)).mono ?_; rintro e w' ⟨rfl, rfl⟩))
  obtain ⟨w5, hw5⟩ : ∃ w5, ((((w.alloc (.cells #[.pointer (some ⟨g, 0, none⟩)] 25)).alloc (.cells #[.int .i64 0] 3)).alloc (.cells #[.bool false] 4)).alloc (.cells #[.pointer (some ⟨g, 0, none⟩)] 25)).alloc (.cells #[.int .i64 from0] 3) = w5 := ⟨_, rfl⟩
  have hsz : w5.heap.size = w.heap.size + 5 := by rw [← hw5]; simp
  have hB5 : Below w.heap.size w w5 := by
    rw [← hw5]
    exact (((((Below.refl _ w).alloc (Nat.le_refl _) _).alloc (by simp) _).alloc (by simp; omega) _).alloc (by simp; omega) _).alloc (by simp; omega) _
  have q2 : Boxed w5 w.heap.size 25 (.pointer (some ⟨g, 0, none⟩)) := by rw [← hw5]; exact ((((Boxed.new w 25 _).alloc _).alloc _).alloc _).alloc _
  have q4 : Boxed w5 (w.heap.size + 1) 3 (.int .i64 0) := by
    rw [← hw5]
    have := Boxed.new (w.alloc (.cells #[.pointer (some ⟨g, 0, none⟩)] 25)) 3 (.int .i64 0)
    rw [World.size_alloc] at this
    exact ((this.alloc _).alloc _).alloc _
  have q5 : Boxed w5 (w.heap.size + 2) 4 (.bool false) := by
    rw [← hw5]
    have := Boxed.new ((w.alloc (.cells #[.pointer (some ⟨g, 0, none⟩)] 25)).alloc (.cells #[.int .i64 0] 3)) 4 (.bool false)
    rw [World.size_alloc, World.size_alloc] at this
    exact (this.alloc _).alloc _
  have q6 : Boxed w5 (w.heap.size + 3) 25 (.pointer (some ⟨g, 0, none⟩)) := by
    rw [← hw5]
    have := Boxed.new (((w.alloc (.cells #[.pointer (some ⟨g, 0, none⟩)] 25)).alloc (.cells #[.int .i64 0] 3)).alloc (.cells #[.bool false] 4)) 25 (.pointer (some ⟨g, 0, none⟩))
    rw [World.size_alloc, World.size_alloc, World.size_alloc] at this
    exact this.alloc _
  have q7 : Boxed w5 (w.heap.size + 4) 3 (.int .i64 from0) := by
    rw [← hw5]
    have := Boxed.new ((((w.alloc (.cells #[.pointer (some ⟨g, 0, none⟩)] 25)).alloc (.cells #[.int .i64 0] 3)).alloc (.cells #[.bool false] 4)).alloc (.cells #[.pointer (some ⟨g, 0, none⟩)] 25)) 3 (.int .i64 from0)
    rw [World.size_alloc, World.size_alloc, World.size_alloc, World.size_alloc] at this
    exact this
  have hI5 : IsAB w5 g gr i d (.slice A0' gs.length c0') := hIA.out.below (hB5.mono (Nat.le_refl _))
  have hA5 : IsA base ok w5 g gr i d gs := hH.out.below hB5
  rw [hw5]
  clear hw5
  have HI5 := Lib.hid hI5
  rw [HLEN.out] at hI5
  have hG : RoundG (w.heap.size + 4) (w.heap.size + 3) g n c0' A0'
      (fun W => Boxed W (w.heap.size + 3) 25 (.pointer (some ⟨g, 0, none⟩)) ∧ IsAB W g gr i d (.slice A0' n c0'))
      (fun A B => (∀ b, w.heap.size + 3 ≤ b → b < w.heap.size + 5 → B.heap[b]? = A.heap[b]?) ∧ B.heap[g]? = A.heap[g]?) :=
    ⟨fun W h => h.1.cell, fun W h => h.2.c3, fun W v h => ⟨h.1.other (by omega) _, (Below.heap_setCell _ _ _ _ (by simp only; omega)).trans h.2⟩, fun W k h => h,
      fun A B h k => ⟨(k.1 _ (by omega) (by omega)).trans h.1, k.2.trans h.2⟩, fun A B k => k.1 _ (by omega) (by omega)⟩
  refine wpIn_rangeFunc_W (F := Fence.wide) rfl (by omega) (gf := 40) (lb := #[.pointer (some ⟨w.heap.size + 4, 0, none⟩), .pointer (some ⟨w.heap.size + 3, 0, none⟩)]) rfl trivial (enters_of Try.func40 (by kernel_rfl) rfl)
    (encs := encG) (Wr := WrF (w.heap.size + 4)) (S := fun ys W => ys.map Fin.val = roundL n from0 n) (Sp := fun pre W => ∃ q, q < n ∧ pre.map Fin.val = roundL n from0 (q + 1)) (N := n) (w0 := w5)
    (fun l J Jx W hW hJ _ hJw hY h0 => round1_in 8 (by omega) l _ _ g n c0' A0' from0 (by omega) _ _ hG J Jx hJw hY W
      ⟨(hW.block _ (by omega)).trans q6, (hW.block _ (by omega)).trans hI5⟩ ((hW.block _ (by omega)).trans q7) hJ h0)
    (fun h k => ⟨fun b h1 h2 => (k.1 b h1 h2).trans (h.1 b h1 h2), k.2.trans h.2⟩)
    (fun W l o o' hl h1 h2 h3 => ⟨fun b hb1 hb2 => World.putObj_heap_other (by omega), World.putObj_heap_other (by omega)⟩)
    (fun A B h => by obtain ⟨s, rfl⟩ := h; exact KeepsOthers.setCell _ _ _) (Below.refl _ _) (fun _ => rfl)
    (InoI base ok w g gr i d gs li p) (InoS base ok w g gr i d gs li p) (InoI.own (by omega)) (fun s A B h hw => InoI.frm HOK.out h hw) (fun c => InoS.own (by omega) c)
    (ownFrom_pure _ _) (ownFrom_pure _ _)
    ⟨⟨q2, q4, q5⟩, ⟨hA5, by simp⟩, Off.of_below hB5 ok, by omega⟩
    (fun x => { tmps := #[.pointer (some ⟨g, 0, none⟩), .int .i64 from0, .pointer (some ⟨w.heap.size, 0, none⟩), undef, .pointer (some ⟨w.heap.size + 1, 0, none⟩), .pointer (some ⟨w.heap.size + 2, 0, none⟩), .int .i64 (x.val : Int), undef, undef, .pointer (some ⟨g, 0, none⟩), .int .i64 from0, .func (.func 40) #[] #[.pointer (some ⟨w.heap.size + 4, 0, none⟩), .pointer (some ⟨w.heap.size + 3, 0, none⟩)], .int .i64 (x.val : Int), undef, undef, undef, undef, undef, undef, undef, undef, undef, undef, undef, undef, undef, undef, undef, undef, undef, undef, undef, undef, undef, undef, undef, undef, undef, undef, undef, undef, undef, undef, undef, undef, undef, undef, undef, undef, undef, undef, undef], defers := [] }) ?assign ?body ?done ?stop
  case assign =>
    intro l x W K hK
    gi_wp2
    exact hK
  case body =>
    rintro l pre x W ⟨⟨hb2, hb4, hb5⟩, ⟨hA, hful⟩, hoff, hszW⟩ hlen
    have hn : 0 < n := by have := x.isLt; omega
    obtain ⟨e1, e2, e3, hfine⟩ := HA.out.fine hn
    have hfine' := hfine
    obtain ⟨g1, g2, g3, g4, g5, g6⟩ := hfine'
    have hp64 : p ≤ 64 := by omega
    have hp0 : 0 < p := by omega
    obtain ⟨y, hy⟩ : ∃ y, gs[x.val]? = some y := ⟨gs[x.val]'(by rw [HLEN.out]; exact x.isLt), List.getElem?_eq_getElem _⟩
    have hrow := (HA.out.gok.rows _ _ hy).1
    obtain ⟨v, hI, hbok, hR⟩ := hA
    obtain ⟨G, c, rfl, hG0, hG1, _⟩ := Kd.R_form hR (by rw [HLEN.out]; exact hn)
    rw [HLEN.out] at hI hR
    obtain ⟨B0, d0, B1, d1, hgrp⟩ := grp_at hR hy
    obtain ⟨r1, r2, hfirst, hcase⟩ := first_row hrow (by omega) (m := p) (by omega)
    have hxn : (x.val : Int) < (n : Int) := by have := x.isLt; omega
    have hx0 : (0 : Int) ≤ (x.val : Int) := by omega
    have hx8 : (x.val : Int) ≤ 7 := by omega
    have hgW : g < W.heap.size := hI.lt
    have HI := Lib.hid hI
    have HR := Lib.hid hR
    have HGRP := Lib.hid hgrp
    have HB2 := Lib.hid hb2
    have HB4 := Lib.hid hb4
    have HB5 := Lib.hid hb5
    have HOFF := Lib.hid hoff
    have HFUL := Lib.hid hful
    have HY := Lib.hid hy
    have HFI := Lib.hid hfirst
    have HE2 := Lib.hid e2
    have HBK := Lib.hid hbok
    have HSZ := Lib.hid hszW
    have HROW := Lib.hid hrow
    have hS0 : W.drew.cell? ⟨w.heap.size, 0, none⟩ = some (.pointer (some ⟨g, 0, none⟩)) ∧ W.drew.cell? ⟨g, 3, none⟩ = some (.slice (some ⟨G, 0, none⟩) n c) ∧ W.drew.cell? ⟨G, x.val * 2, none⟩ = some (.slice B0 y.f0.length d0) := ⟨hb2.cell, hI.c3, hgrp.k0⟩
    have HBW : Hid (Below W.heap.size W W.drew) := Lib.hid (below_drew (Below.refl _ _))
    clear hb2 hb4 hb5 hoff hful hI hbok hR hgrp hy hfirst e1 e2 e3 hfine hszW hrow
    dsimp only
    gi_wp2
    refine region_in_round (by kernel_rfl) (by kernel_rfl) (by rintro ⟨_, _, hx⟩; exact hx) (wpAny_of_last (S := fun w' => w'.cell? ⟨w.heap.size, 0, none⟩ = some (.pointer (some ⟨g, 0, none⟩)) ∧ w'.cell? ⟨g, 3, none⟩ = some (.slice (some ⟨G, 0, none⟩) n c) ∧ w'.cell? ⟨G, x.val * 2, none⟩ = some (.slice B0 y.f0.length d0)) (ds := []) 16 #[false, false, false, false, false, false, false, false, false, false, false, false, false, false, false, false] _ _ ?_)
    generalize W.drew = V at hS0 HBW ⊢
    have hHeld := hS0
    refine tk3_ 0 (some 14) (bm 16 1) hHeld ?_
    refine pu_ 1 (some 15) (bm 16 3) ?_
    refine pu_ 2 (some 16) (bm 16 7) ?_
    refine tk3_ 3 (some 17) (bm 16 15) hHeld ?_
    refine pu_ 4 (some 18) (bm 16 31) ?_
    refine pu_ 5 (some 19) (bm 16 63) ?_
    refine pu_ 6 (some 20) (bm 16 127) ?_
    refine tk3_ 7 (some 21) (bm 16 255) hHeld ?_
    refine tk3_ 8 (some 22) (bm 16 511) hHeld ?_
    refine one_ (i := 9) (N := some 23) (bm 16 1023) rfl rfl (by kernel_rfl) (by decide) (fun K hK => ?_)
    refine goes_ Try.func29 (by kernel_rfl) rfl #[.pointer (some ⟨g, 0, none⟩)] (by rfl) rfl rfl (by (try simp only [List.map_toArray, List.map_cons, List.map_nil]); first | done | rfl) ?_
    refine (perGroup_calls g gr i d _ _ p (HI.out.below HBW.out) (by omega) (by omega) HE2.out).mono ?_
    rintro e V1 ⟨rfl, rfl⟩
    refine ⟨_, rfl, hK.out _ _ hS0 (fun hHeld => ?_)⟩
    clear hK K
    refine norm_ (a' := ?_) ?_ ?_
    rotate_left
    · show Act.put _ (some 23) _ = _
      simp only [Act.put, List.setIfInBounds_toArray, List.set_cons_zero, List.set_cons_succ, i64_w, i32_w]
      rfl
    refine one_ (i := 10) (N := some 24) (bm 16 2047) rfl rfl (by kernel_rfl) (by decide) (fun K hK => ?_)
    refine goes_ Try.func28 (by kernel_rfl) rfl #[.slice B0 y.f0.length d0, .int .i64 (p : Int), .int .i64 0] (by rfl) rfl rfl (by (try simp only [List.map_toArray, List.map_cons, List.map_nil]); first | done | rfl) ?_
    refine (bits_First.calls B0 d0 y.f0 (p : Int) 0 r1 r2 _ (HGRP.out.below (blk_lt_G HR.out) HBW.out).r0 HGRP.out.l0 HFI.out).mono ?_
    rintro e V1 ⟨rfl, hb1⟩
    have hS1 := And.intro (pw_cell_below hb1 hS0.1) (And.intro (pw_cell_below hb1 hS0.2.1) (pw_cell_below hb1 hS0.2.2))
    have HBW1 := Lib.hid (HBW.out.trans (hb1.mono HBW.out.size))
    clear hb1
    refine ⟨_, rfl, hK.out _ _ hS1 (fun hHeld => ?_)⟩
    clear hK K
    refine norm_ (a' := ?_) ?_ ?_
    rotate_left
    · show Act.put _ (some 24) _ = _
      simp only [Act.put, List.setIfInBounds_toArray, List.set_cons_zero, List.set_cons_succ, i64_w, i32_w]
      rfl
    refine pu_ 11 (some 13) (bm 16 4095) ?_
    refine pu_ 12 (some 25) (bm 16 8191) ?_
    refine pu_ 13 (some 26) (bm 16 16383) ?_
    refine pu_ 14 (some 7) (bm 16 32767) ?_
    refine pu_ 15 (some 8) (bm 16 65535) ?_
    refine done_ (by kernel_rfl) ?_
    have hHeld0 := Lib.hid hS1
    have HI1 := Lib.hid (HI.out.below HBW1.out)
    have HR1 := Lib.hid (Kd.R_below HR.out HBW1.out)
    have HGRP1 := Lib.hid (HGRP.out.below (blk_lt_G HR.out) HBW1.out)
    have HOFF1 := Lib.hid (HOFF.out.below HBW1.out)
    have HNK : Hid (∀ b, w.heap.size ≤ b → ¬ ok b) := Lib.hid (fun b hb hk => by have := HOK.out b hk; omega)
    have HB2' := Lib.hid (HB2.out.kept (grown_of_below HBW1.out none) (by simp))
    have HB4' := Lib.hid (HB4.out.kept (grown_of_below HBW1.out none) (by simp))
    have HB5' := Lib.hid (HB5.out.kept (grown_of_below HBW1.out none) (by simp))
    have HSZ1 := Lib.hid (HBW1.out.size)
    clear hHeld hS0 hS1 HBW
    rcases hcase with ⟨rfl, j, rfl, hjp, hjf, hjb⟩ | ⟨rfl, rfl, hfull⟩
    · have hj0 : (0 : Int) ≤ (j : Int) := by omega
      have hj64 : (j : Int) ≤ 63 := by omega
      have HJB := Lib.hid hjb
      have HJF := Lib.hid hjf
      have HJP := Lib.hid hjp
      have hwf := with_nat (l := y.f0) (by rw [HROW.out.1]; omega) j (by omega) true 0
      have HWF := Lib.hid hwf
      clear hjb hjf hjp hwf
      gi_wp2
      have hS0 : V1.drew.cell? ⟨w.heap.size, 0, none⟩ = some (.pointer (some ⟨g, 0, none⟩)) ∧ V1.drew.cell? ⟨g, 3, none⟩ = some (.slice (some ⟨G, 0, none⟩) n c) ∧ V1.drew.cell? ⟨G, x.val * 2, none⟩ = some (.slice B0 y.f0.length d0) := hHeld0.out
      have HPUT : Hid (∀ (V2 : World) (v : Value) (b : List Int), Below V1.drew.heap.size V1.drew V2 → Kd.R (Kd.int .u8) 5 V2 V1.drew.heap.size (fun _ => True) v b → IsA base (fun k => ok k ∨ V1.drew.heap.size ≤ k) (V2.setCell ⟨G, x.val * 2 + 0, none⟩ v) g gr i d (gs.set x.val ⟨b, y.f1⟩) ∧
          Off ok V1.drew (V2.setCell ⟨G, x.val * 2 + 0, none⟩ v) ∧ (V2.setCell ⟨G, x.val * 2 + 0, none⟩ v).heap[g]? = V1.drew.heap[g]? ∧ KeepsOthers V1.drew (V2.setCell ⟨G, x.val * 2 + 0, none⟩ v)) :=
        Lib.hid (fun V2 v b hb hv => IsA.put_ (W := V1.drew) true (HI1.out.below (below_drew (Below.refl _ _))) HBK.out (Kd.R_drew HR1.out) HY.out (Nat.le_trans hbs (Nat.le_trans HOFF.out.size HSZ1.out)) (fun k hk => Nat.lt_of_lt_of_le (HOK.out k hk) (Nat.le_trans HOFF.out.size HSZ1.out)) hb hv)
      have HGD := Lib.hid (HGRP1.out.below (blk_lt_G HR1.out) (below_drew (Below.refl _ V1)))
      have HOFFD := Lib.hid (HOFF1.out.drew)
      have HB2d : Hid (Boxed V1.drew w.heap.size 25 (.pointer (some ⟨g, 0, none⟩))) := Lib.hid HB2'.out
      have HB4d : Hid (Boxed V1.drew (w.heap.size + 1) 3 (.int .i64 0)) := Lib.hid HB4'.out
      have HB5d : Hid (Boxed V1.drew (w.heap.size + 2) 4 (.bool false)) := Lib.hid HB5'.out
      have HID : Hid (IsAB V1.drew g gr i d (.slice (some ⟨G, 0, none⟩) n c)) := Lib.hid HI1.out
      have HKO : Hid (KeepsOthers W V1.drew) := Lib.hid ((keeps_below HBW1.out).trans (KeepsOthers.drew V1))
      have HZD : Hid (w.heap.size + 5 ≤ V1.drew.heap.size) := Lib.hid (Nat.le_trans HSZ.out HSZ1.out)
      have HGK : Hid (V1.drew.heap[g]? = W.heap[g]?) := Lib.hid (HBW1.out.block g hgW)
      have HKb : Hid (∀ b, w.heap.size ≤ b → b < w.heap.size + 5 → V1.drew.heap[b]? = W.heap[b]?) := Lib.hid (fun b h1 h2 => HBW1.out.block b (by have := HSZ.out; omega))
      refine region_in_round (by kernel_rfl) (by kernel_rfl) (by rintro ⟨_, _, hx⟩; exact hx) (wpAny_of_last (S := fun w' => w'.cell? ⟨w.heap.size, 0, none⟩ = some (.pointer (some ⟨g, 0, none⟩)) ∧ w'.cell? ⟨g, 3, none⟩ = some (.slice (some ⟨G, 0, none⟩) n c) ∧ w'.cell? ⟨G, x.val * 2, none⟩ = some (.slice B0 y.f0.length d0)) (ds := [17]) 18 #[false, false, false, false, false, false, false, false, false, false, false, false, false, false, false, false, false, false] _ _ ?_)
      generalize V1.drew = V at hS0 HPUT HGD HOFFD HB2d HB4d HB5d HID HKO HZD HGK HKb ⊢
      have hHeld := hS0
      refine tk3_ 0 (some 28) (bm 18 1) hHeld ?_
      refine pu_ 1 (some 29) (bm 18 3) ?_
      refine pu_ 2 (some 30) (bm 18 7) ?_
      refine tk3_ 3 (some 31) (bm 18 15) hHeld ?_
      refine pu_ 4 (some 32) (bm 18 31) ?_
      refine tk3_ 5 (some 33) (bm 18 63) hHeld ?_
      refine pu_ 6 (some 34) (bm 18 127) ?_
      refine pu_ 7 (some 35) (bm 18 255) ?_
      refine tk3_ 8 (some 36) (bm 18 511) hHeld ?_
      refine pu_ 9 (some 37) (bm 18 1023) ?_
      refine pu_ 10 (some 38) (bm 18 2047) ?_
      refine pu_ 11 (some 39) (bm 18 4095) ?_
      refine tk3_ 12 (some 40) (bm 18 8191) hHeld ?_
      refine pu_ 13 (some 41) (bm 18 16383) ?_
      refine one_ (i := 14) (N := some 42) (bm 18 32767) rfl rfl (by kernel_rfl) (by decide) (fun K hK => ?_)
      refine goes_ Try.func30 (by kernel_rfl) rfl #[.slice B0 y.f0.length d0, .int .i64 (j : Int), .bool true] (by rfl) rfl rfl (by (try simp only [List.map_toArray, List.map_cons, List.map_nil]); first | done | rfl) ?_
      refine (bits_With.calls 1 B0 d0 y.f0 (j : Int) true _ _ HGD.out.r0 HGD.out.l0 HWF.out).mono ?_
      rintro e V2 ⟨v2, rfl, hv2, hb2⟩
      obtain ⟨A2, c2, rfl⟩ := Kd.R_slice hv2
      have HPU := Lib.hid (HPUT.out V2 _ _ hb2 hv2)
      have hS1 := And.intro (pw_cell_below hb2 hS0.1) (And.intro (pw_cell_below hb2 hS0.2.1) (pw_cell_below hb2 hS0.2.2))
      have hfz := (hb2.frozen (p := ⟨G, x.val * 2, none⟩) (World.block_lt_of_cell? _ _ hS0.2.2)).trans HGD.out.z0
      clear hb2 hv2
      refine ⟨_, rfl, hK.out _ _ hS1 (fun hHeld => ?_)⟩
      clear hK K
      refine norm_ (a' := ?_) ?_ ?_
      rotate_left
      · show Act.put _ (some 42) _ = _
        simp only [Act.put, List.setIfInBounds_toArray, List.set_cons_zero, List.set_cons_succ, i64_w, i32_w]
        rfl
      refine pu_ 15 (some 43) (bm 18 65535) ?_
      refine pu_ 16 (some 44) (bm 18 131071) ?_
      refine last_ (i := 17) (N := none) (bm 18 262143) rfl rfl (by kernel_rfl) (by decide) (fun K hK => ?_)
      refine skip_ (w1 := ?_) (by rfl) rfl ?_ ?_
      rotate_left
      · go_simp
        rfl
      refine hK.out _ _ ?_
      clear hK K
      refine done_ (by kernel_rfl) ?_
      have hPU := HPU.out
      generalize V2.setCell ⟨G, x.val * 2, none⟩ (.slice A2 (withB y.f0 j true).length c2) = V3 at hPU ⊢
      obtain ⟨hA3, ho3, hg3, hk3⟩ := hPU
      have b2 := (ho3.blk HB2d.out (HNK.out _ (Nat.le_refl _)))
      have b4 : Boxed V3 _ _ _ := (ho3.blk HB4d.out (HNK.out _ (by omega)))
      have b5 : Boxed V3 _ _ _ := (ho3.blk HB5d.out (HNK.out _ (by omega)))
      have k2 := (show Boxed V3 _ _ _ from b2).cell
      have k4 := b4.cell
      have k5 := b5.cell
      have z4 := b4.frozen
      have z5 := b5.frozen
      have HI3 : Hid (IsAB V3 g gr i d (.slice (some ⟨G, 0, none⟩) n c)) := Lib.hid (hg3.trans HID.out)
      have HA3 := Lib.hid hA3
      have HO3 := Lib.hid ho3
      have HG3 := Lib.hid hg3
      have HK3 := Lib.hid hk3
      have HB43 := Lib.hid b4
      have HB53 := Lib.hid b5
      clear hA3 ho3 hg3 hk3 b2 b4 b5 HPU hHeld hfz hS1 hS0
      have m0 : (0 : Int) ≤ (x.val : Int) * (p : Int) := Int.mul_nonneg (by omega) (by omega)
      have m1 : (x.val : Int) * (p : Int) ≤ 7 * 64 := Int.mul_le_mul (by omega) (by omega) (by omega) (by omega)
      gi_wp2_with (refine ⟨trivial, ?_⟩; gi_at_call 29; refine (CallsIn.inRound l (callsIn_wide.2 (perGroup_calls g gr i d _ _ p HI3.out (by omega) (by omega) HE2.out))).mono ?_; rintro e w' ⟨rfl, rfl⟩)
      refine ⟨((HKO.out.trans HK3.out).trans ((KeepsOthers.setCell _ _ _).trans (KeepsOthers.setCell _ _ _))).from _, ⟨fun b h1 h2 => ?_, ?_⟩, ⟨pre, x, j, y, ⟨rfl, rfl, HY.out, HJP.out⟩, ⟨HJF.out, HJB.out, HFUL.out⟩, ⟨?_, ?_⟩, ?_⟩, ?_⟩
      · exact (Below.heap_setCell _ _ _ _ (by simp only; omega)).trans ((Below.heap_setCell _ _ _ _ (by simp only; omega)).trans ((HO3.out.block b (by have := HZD.out; omega) (HNK.out b (by omega))).trans (HKb.out b (by omega) h2)))
      · exact (Below.heap_setCell _ _ _ _ (by simp only; omega)).trans ((Below.heap_setCell _ _ _ _ (by simp only; omega)).trans (HG3.out.trans HGK.out))
      · have e : ((x.val * p + j : Nat) : Int) + 1 = (x.val : Int) * (p : Int) + (j : Int) + 1 := by rw [Int.natCast_add, Int.natCast_mul]
        rw [e]
        exact (HB43.out.set _).other (by omega) _
      · exact (HB53.out.other (by omega) _).set _
      · refine IsA.mono (ok := fun k => ok k ∨ V.heap.size ≤ k) ?_ (fun k hk => hk.imp id (fun h => by have := HZD.out; omega))
        have hne : ∀ k, (ok k ∨ V.heap.size ≤ k) → k ≠ w.heap.size + 1 ∧ k ≠ w.heap.size + 2 := fun k hk => by
          rcases hk with hk | hk
          · have := HOK.out k hk; omega
          · have := HZD.out; omega
        exact HA3.out.move (fun k hk => (Below.heap_setCell _ _ _ _ (hne k hk).2).trans (Below.heap_setCell _ _ _ _ (hne k hk).1))
      · exact ((HOFFD.out.trans HO3.out).setCell (.inr (by simp only; omega)) _).setCell (.inr (by simp only; omega)) _
    · clear HB2' HB4' HB5' HI1 HR1 HGRP1
      gi_wp2
      refine ⟨(keeps_below HBW1.out).from _, ⟨fun b h1 h2 => HBW1.out.block b (by have := HSZ.out; omega), HBW1.out.block g hgW⟩, ⟨HB2.out.kept (grown_of_below HBW1.out none) (by simp), HB4.out.kept (grown_of_below HBW1.out none) (by simp), HB5.out.kept (grown_of_below HBW1.out none) (by simp)⟩, ⟨IsA.below ⟨_, HI.out, HBK.out, HR.out⟩ HBW1.out, fun y' hy' => ?_⟩, HOFF1.out, by have := HSZ.out; have := HSZ1.out; omega⟩
      rcases List.mem_append.1 hy' with h5 | h5
      · exact HFUL.out y' h5
      · rw [List.mem_singleton.1 h5]
        exact hfull
  case done =>
    rintro D ys W hD hys ⟨⟨hb2, hb4, hb5⟩, ⟨hA, hful⟩, hoff, hszW⟩ hK
    have HNX := Lib.hid (next_no_groups (l := li) (p := p) (n := n) (from0 := from0) (full_round hys hful))
    have HB4 := Lib.hid hb4
    have HB5 := Lib.hid hb5
    have HAW := Lib.hid hA
    have HOFF := Lib.hid hoff
    have hc4 := hb4.cell
    have hc5 := hb5.cell
    have hf4 := hb4.frozen
    have hf5 := hb5.frozen
    have HK := Lib.hid hK
    clear hb2 hb4 hb5 hA hful hoff hK hys
    gi_wp2
    have hKO : KeepsOthers W ((W.setCell ⟨w.heap.size + 1, 0, none⟩ (.int .i64 0)).setCell ⟨w.heap.size + 2, 0, none⟩ (.bool false)) := (KeepsOthers.setCell _ _ _).trans (KeepsOthers.setCell _ _ _)
    have hK' := hKO.same D _ HK.out rfl
    refine res2_ (B1 := w.heap.size + 1) (B2 := w.heap.size + 2) (D := D) (u1 := 0) (u2 := false) rfl rfl rfl ((HB4.out.set _).other (by omega) _) ((HB5.out.other (by omega) _).set _) hK' ?_
    rw [HNX.out]
    refine ⟨gs, rfl, ?_, ?_, ?_⟩
    · refine IsA.mono (IsA.noncells ?_ (grownBy_putObj' _ D (.deferred none)) (fun r e => by cases e; exact ⟨_, hK', rfl⟩)) (fun k hk => .inl hk)
      exact HAW.out.move (fun k hk => (Below.heap_setCell _ _ _ _ (by have := HOK.out k hk; simp only; omega)).trans (Below.heap_setCell _ _ _ _ (by have := HOK.out k hk; simp only; omega)))
    · exact HA.out
    · exact ((HOFF.out.setCell (.inr (by simp only; omega)) _).setCell (.inr (by simp only; omega)) _).grown (grownBy_putObj' _ D _) (fun k e => by cases e; exact .inr (by omega))
  case stop =>
    rintro D c pre W hD ⟨q', hq', hpre⟩ ⟨⟨pr, x, j, y, ⟨rfl, rfl, hy, hjp⟩, ⟨hjf, hjb, hful⟩, ⟨hb4, hb5⟩, hA⟩, hoff⟩ hK
    have hnx := stop_round hq' hpre hful hjp hjf hjb
    gi_wp2
    refine res2_ (B1 := w.heap.size + 1) (B2 := w.heap.size + 2) (D := D) (by rfl) (by rfl) (by rfl) hb4 hb5 hK ?_
    rw [hnx]
    refine ⟨_, rfl, ?_, HA.out.setI hy hjp true, ?_⟩
    · exact (hA.noncells (grownBy_putObj' W D _) (fun r e => by cases e; exact ⟨_, hK, rfl⟩)).mono (fun k hk => hk.imp id (fun h => by omega))
    · exact hoff.grown (grownBy_putObj' W D _) (fun k e => by cases e; exact .inr (by omega))
end Go.Proofs.Ytppjeikkodjjhaa.Given
