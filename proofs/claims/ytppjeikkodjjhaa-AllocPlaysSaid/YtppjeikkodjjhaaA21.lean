/- AllocPlays: two allocators and the reference's, apart from each other. -/
import Derived.Test.YtppjeikkodjjhaaA20
namespace Go.Proofs.Ytppjeikkodjjhaa
structure S42 where
  f0 : Int
  f1 : Int
  f2 : Int
  f3 : Int
end Go.Proofs.Ytppjeikkodjjhaa
namespace Go.Proofs.Ytppjeikkodjjhaa.Given
open Go.RowKit Go.Shelf Go.Proofs.YtppjeikkodjjhaaW.PrintWords Go.Proofs.YtppjeikkodjjhaaW.PrintLast Go.Proofs.YtppjeikkodjjhaaW.PrintMore Go.Proofs.YtppjeikkodjjhaaBase Go.Proofs.Ytppjeikkodjjhaa.PGeo Go.Proofs.Ytppjeikkodjjhaa.PGet Go.Proofs.Ytppjeikkodjjhaa.PWith
set_option linter.unusedVariables false
set_option linter.unusedSimpArgs false

/-! ### a row of acts -/
def z42 : S42 := ⟨0, 0, 0, 0⟩
def k42 : Kd S42 := Kd.iso (Kd.pair (Kd.int .i64) (Kd.pair (Kd.int .i64) (Kd.pair (Kd.int .i64) (Kd.int .i64)))) (fun x : S42 => (x.f0, x.f1, x.f2, x.f3))
theorem k42_open {w : World} {x : S42} {cs : List Value} (h : k42.K w x cs) : cs = [.int .i64 x.f0, .int .i64 x.f1, .int .i64 x.f2, .int .i64 x.f3] := by
  obtain ⟨_, _, rfl, rfl, ⟨_, _, rfl, rfl, ⟨_, _, rfl, rfl, rfl⟩⟩⟩ := h
  rfl
theorem at_T42 {w : World} {A : Option Addr} {n : Nat} {xs : List S42} (h : Kd.C k42 w A n xs) (hne : 0 < n) : ∃ ad, A = some ad ∧ ∀ i, i < n → w.cell? (ad.add (i * 4)) = some (.int .i64 (xs.getD i z42).f0) ∧ w.cell? ⟨(ad.add (i * 4)).block, (ad.add (i * 4)).off + 1, none⟩ = some (.int .i64 (xs.getD i z42).f1) ∧ w.cell? ⟨(ad.add (i * 4)).block, (ad.add (i * 4)).off + 2, none⟩ = some (.int .i64 (xs.getD i z42).f2) ∧ w.cell? ⟨(ad.add (i * 4)).block, (ad.add (i * 4)).off + 3, none⟩ = some (.int .i64 (xs.getD i z42).f3) := by
  obtain ⟨ad, _, rfl, _⟩ := Kd.C_get h z42 (0 : Int) (by omega) (by omega)
  refine ⟨ad, rfl, fun i hi => ?_⟩
  obtain ⟨ad', c, e, _, hK, hc0⟩ := Kd.C_get h z42 (i : Int) (by omega) (by omega)
  obtain rfl := Option.some.inj e
  rw [Int.toNat_natCast] at hK hc0
  have hc : ∀ j u, c[j]? = some u → w.cell? (ad.add (i * 4 + j)) = some u := hc0
  obtain rfl := k42_open hK
  exact ⟨hc 0 _ rfl, by rw [← add_field _ _ 1 (by omega)]; exact hc 1 _ rfl, by rw [← add_field _ _ 2 (by omega)]; exact hc 2 _ rfl, by rw [← add_field _ _ 3 (by omega)]; exact hc 3 _ rfl⟩

/-! ### two allocators (a, o), the reference's (g, Bi, Bb), and a block X that is none of theirs -/
def Tri (wx : World) (X a o g Bi Bb n p q : Nat) (gr i d : Int) (li ld ri rd : List Bool) (W : World) : Prop :=
  ∃ (ea eo : Nat → Prop) (lo lp : List Bool), (IsAA wx.heap.size ea W a gr i d n p q li ld ∧ IsAA wx.heap.size eo W o gr i d n p q lo lp ∧ IsR W g Bi Bb gr i d ri rd) ∧ (ri.length = n * p ∧ rd.length = n * q) ∧
    ((∀ j, ea j → wx.heap.size ≤ j ∧ j < W.heap.size) ∧ (∀ j, eo j → wx.heap.size ≤ j ∧ j < W.heap.size) ∧ (wx.heap.size ≤ g ∧ wx.heap.size ≤ Bi ∧ wx.heap.size ≤ Bb)) ∧
    ((∀ j, ea j → ¬ eo j ∧ j ≠ g ∧ j ≠ Bi ∧ j ≠ Bb ∧ j ≠ X) ∧ (∀ j, eo j → j ≠ g ∧ j ≠ Bi ∧ j ≠ Bb ∧ j ≠ X) ∧ (X ≠ g ∧ X ≠ Bi ∧ X ≠ Bb) ∧ X < W.heap.size) ∧ Below wx.heap.size wx W
section
variable {wx W W1 : World} {X a o g Bi Bb n p q : Nat} {gr i d : Int} {li ld ri rd : List Bool}
theorem Tri.bel (h : Tri wx X a o g Bi Bb n p q gr i d li ld ri rd W) : Below wx.heap.size wx W := by obtain ⟨_, _, _, _, _, _, _, _, hB⟩ := h; exact hB
theorem Tri.isA (h : Tri wx X a o g Bi Bb n p q gr i d li ld ri rd W) : ∃ ea, IsAA wx.heap.size ea W a gr i d n p q li ld := by obtain ⟨ea, _, _, _, ⟨h1, _⟩, _⟩ := h; exact ⟨ea, h1⟩
theorem Tri.isR (h : Tri wx X a o g Bi Bb n p q gr i d li ld ri rd W) : IsR W g Bi Bb gr i d ri rd ∧ ri.length = n * p ∧ rd.length = n * q := by obtain ⟨_, _, _, _, ⟨_, _, h3⟩, hl, _⟩ := h; exact ⟨h3, hl⟩
theorem Tri.fine (h : Tri wx X a o g Bi Bb n p q gr i d li ld ri rd W) : (0 < n → gr = (n : Int) ∧ i * 16 = (p : Int) ∧ d = (q : Int) ∧ Fine gr i d) ∧ (n = 0 → ¬ Fine gr i d) ∧ n ≤ 8 := by
  obtain ⟨ea, gs, _, hA⟩ := h.isA
  exact ⟨hA.fine, hA.none_, hA.le⟩
theorem Tri.small (h : Tri wx X a o g Bi Bb n p q gr i d li ld ri rd W) : n * p ≤ 8 * 64 ∧ n * q ≤ 8 * 1000 := by
  obtain ⟨h1, _, h3⟩ := h.fine
  rcases Nat.eq_zero_or_pos n with h0 | h0
  · subst h0; simp
  · obtain ⟨e1, e2, e3, _, _, _, f4, _, f6⟩ := h1 h0
    exact ⟨Nat.mul_le_mul h3 (by omega), Nat.mul_le_mul h3 (by omega)⟩
theorem Tri.below (h : Tri wx X a o g Bi Bb n p q gr i d li ld ri rd W) (hb : Below W.heap.size W W1) : Tri wx X a o g Bi Bb n p q gr i d li ld ri rd W1 := by
  obtain ⟨ea, eo, lo, lp, ⟨h1, h2, h3⟩, hl, ⟨b1, b2, b3⟩, ⟨d1, d2, d3, d4⟩, hB⟩ := h
  exact ⟨ea, eo, lo, lp, ⟨h1.below hb, h2.below hb, h3.below hb⟩, hl, ⟨fun j hj => ⟨(b1 j hj).1, Nat.lt_of_lt_of_le (b1 j hj).2 hb.size⟩, fun j hj => ⟨(b2 j hj).1, Nat.lt_of_lt_of_le (b2 j hj).2 hb.size⟩, b3⟩, ⟨d1, d2, d3, Nat.lt_of_lt_of_le d4 hb.size⟩, hB.trans (hb.mono hB.size)⟩
/-- a new block is none of theirs -/
theorem Tri.next (h : Tri wx X a o g Bi Bb n p q gr i d li ld ri rd W) (hb : Below W.heap.size W W1) (hz : W.heap.size < W1.heap.size) : Tri wx W.heap.size a o g Bi Bb n p q gr i d li ld ri rd W1 := by
  have h' := h.below hb
  obtain ⟨ea, eo, lo, lp, ⟨h1, h2, h3⟩, hl, ⟨b1, b2, b3⟩, ⟨d1, d2, d3, d4⟩, hB⟩ := h
  have l1 := blk_lt h3.1
  have l2 := h3.2.1.1.lt
  have l3 := h3.2.1.2.lt
  exact ⟨ea, eo, lo, lp, ⟨h1.below hb, h2.below hb, h3.below hb⟩, hl, ⟨fun j hj => ⟨(b1 j hj).1, Nat.lt_of_lt_of_le (b1 j hj).2 hb.size⟩, fun j hj => ⟨(b2 j hj).1, Nat.lt_of_lt_of_le (b2 j hj).2 hb.size⟩, b3⟩,
    ⟨fun j hj => ⟨(d1 j hj).1, (d1 j hj).2.1, (d1 j hj).2.2.1, (d1 j hj).2.2.2.1, by have := (b1 j hj).2; omega⟩, fun j hj => ⟨(d2 j hj).1, (d2 j hj).2.1, (d2 j hj).2.2.1, by have := (b2 j hj).2; omega⟩, ⟨by omega, by omega, by omega⟩, hz⟩, hB.trans (hb.mono hB.size)⟩
theorem Tri.a_ {fn : Nat} {args : Array Value} {res : Ending} {li' ld' : List Bool} (h : Tri wx X a o g Bi Bb n p q gr i d li ld ri rd W)
    (hc : ∀ ea : Nat → Prop, (∀ j, ea j → j < W.heap.size) → wx.heap.size ≤ W.heap.size → IsAA wx.heap.size ea W a gr i d n p q li ld → Calls Try.prog fn args W fun e w' => e = res ∧ IsAA wx.heap.size (fun k => (ea k ∨ W.heap.size ≤ k) ∧ k < w'.heap.size) w' a gr i d n p q li' ld' ∧ Off ea W w') :
    Calls Try.prog fn args W fun e w' => e = res ∧ Tri wx X a o g Bi Bb n p q gr i d li' ld' ri rd w' ∧ w'.heap[X]? = W.heap[X]? := by
  obtain ⟨ea, eo, lo, lp, ⟨h1, h2, h3⟩, hl, ⟨b1, b2, b3⟩, ⟨d1, d2, d3, d4⟩, hB⟩ := h
  have l1 := blk_lt h3.1
  have l2 := h3.2.1.1.lt
  have l3 := h3.2.1.2.lt
  refine (hc ea (fun j hj => (b1 j hj).2) hB.size h1).mono ?_
  rintro e w' ⟨he, hA, ho⟩
  exact ⟨he, ⟨fun k => (ea k ∨ W.heap.size ≤ k) ∧ k < w'.heap.size, eo, lo, lp, ⟨hA, h2.off (fun k hk => (b2 k hk).2) ho (fun k hk he => (d1 k he).1 hk), h3.off ho (fun he => (d1 _ he).2.1 rfl) (fun he => (d1 _ he).2.2.1 rfl) (fun he => (d1 _ he).2.2.2.1 rfl)⟩, hl,
    ⟨fun j hj => ⟨hj.1.elim (fun h => (b1 j h).1) (fun h => Nat.le_trans hB.size h), hj.2⟩, fun j hj => ⟨(b2 j hj).1, Nat.lt_of_lt_of_le (b2 j hj).2 ho.size⟩, b3⟩,
    ⟨fun j hj => hj.1.elim (d1 j) (fun h => ⟨fun he => by have := (b2 j he).2; omega, by omega, by omega, by omega, by omega⟩), d2, d3, Nat.lt_of_lt_of_le d4 ho.size⟩, Off.keepB hB ho (fun k hk => (b1 k hk).1) hB.size⟩, ho.block X d4 (fun he => (d1 X he).2.2.2.2 rfl)⟩
theorem Tri.o_ {fn : Nat} {args : Array Value} {res : List Bool → List Bool → Ending} {lo' lp' : List Bool → List Bool → List Bool} (h : Tri wx X a o g Bi Bb n p q gr i d li ld ri rd W)
    (hc : ∀ (eo : Nat → Prop) (lo lp : List Bool), (∀ j, eo j → j < W.heap.size) → wx.heap.size ≤ W.heap.size → IsAA wx.heap.size eo W o gr i d n p q lo lp → Calls Try.prog fn args W fun e w' => e = res lo lp ∧ IsAA wx.heap.size (fun k => (eo k ∨ W.heap.size ≤ k) ∧ k < w'.heap.size) w' o gr i d n p q (lo' lo lp) (lp' lo lp) ∧ Off eo W w') :
    Calls Try.prog fn args W fun e w' => ∃ lo lp, e = res lo lp ∧ Tri wx X a o g Bi Bb n p q gr i d li ld ri rd w' ∧ w'.heap[X]? = W.heap[X]? := by
  obtain ⟨ea, eo, lo, lp, ⟨h1, h2, h3⟩, hl, ⟨b1, b2, b3⟩, ⟨d1, d2, d3, d4⟩, hB⟩ := h
  have l1 := blk_lt h3.1
  have l2 := h3.2.1.1.lt
  have l3 := h3.2.1.2.lt
  refine (hc eo lo lp (fun j hj => (b2 j hj).2) hB.size h2).mono ?_
  rintro e w' ⟨he, hA, ho⟩
  exact ⟨lo, lp, he, ⟨ea, fun k => (eo k ∨ W.heap.size ≤ k) ∧ k < w'.heap.size, _, _, ⟨h1.off (fun k hk => (b1 k hk).2) ho (fun k hk he => (d1 k hk).1 he), hA, h3.off ho (fun he => (d2 _ he).1 rfl) (fun he => (d2 _ he).2.1 rfl) (fun he => (d2 _ he).2.2.1 rfl)⟩, hl,
    ⟨fun j hj => ⟨(b1 j hj).1, Nat.lt_of_lt_of_le (b1 j hj).2 ho.size⟩, fun j hj => ⟨hj.1.elim (fun h => (b2 j h).1) (fun h => Nat.le_trans hB.size h), hj.2⟩, b3⟩,
    ⟨fun j hj => ⟨fun he => he.1.elim (d1 j hj).1 (fun h => by have := (b1 j hj).2; omega), (d1 j hj).2⟩, fun j hj => hj.1.elim (d2 j) (fun h => ⟨by omega, by omega, by omega, by omega⟩), d3, Nat.lt_of_lt_of_le d4 ho.size⟩, Off.keepB hB ho (fun k hk => (b2 k hk).1) hB.size⟩, ho.block X d4 (fun he => (d2 X he).2.2.2 rfl)⟩
theorem Tri.r_ {fn : Nat} {args : Array Value} {res : Ending} {ri' rd' : List Bool} (h : Tri wx X a o g Bi Bb n p q gr i d li ld ri rd W) (hli : ri'.length = ri.length) (hld : rd'.length = rd.length)
    (hc : Calls Try.prog fn args W fun e w' => e = res ∧ IsR w' g Bi Bb gr i d ri' rd' ∧ Off (fun k => k = Bi ∨ k = Bb) W w') :
    Calls Try.prog fn args W fun e w' => e = res ∧ Tri wx X a o g Bi Bb n p q gr i d li ld ri' rd' w' ∧ w'.heap[X]? = W.heap[X]? := by
  obtain ⟨ea, eo, lo, lp, ⟨h1, h2, h3⟩, hl, ⟨b1, b2, b3⟩, ⟨d1, d2, d3, d4⟩, hB⟩ := h
  refine hc.mono ?_
  rintro e w' ⟨he, hR, ho⟩
  exact ⟨he, ⟨ea, eo, lo, lp, ⟨h1.off (fun k hk => (b1 k hk).2) ho (fun k hk he => he.elim (d1 k hk).2.2.1 (d1 k hk).2.2.2.1), h2.off (fun k hk => (b2 k hk).2) ho (fun k hk he => he.elim (d2 k hk).2.1 (d2 k hk).2.2.1), hR⟩, ⟨hli.trans hl.1, hld.trans hl.2⟩,
    ⟨fun j hj => ⟨(b1 j hj).1, Nat.lt_of_lt_of_le (b1 j hj).2 ho.size⟩, fun j hj => ⟨(b2 j hj).1, Nat.lt_of_lt_of_le (b2 j hj).2 ho.size⟩, b3⟩,
    ⟨d1, d2, d3, Nat.lt_of_lt_of_le d4 ho.size⟩, Off.keepB hB ho (fun k hk => hk.elim (fun e => e ▸ b3.2.1) (fun e => e ▸ b3.2.2)) hB.size⟩, ho.block X d4 (fun he => he.elim d3.2.1 d3.2.2)⟩
theorem setO_len (l : List Bool) (r : Option Nat) : (setO l r).length = l.length := by
  cases r with
  | none => rfl
  | some k => exact List.length_set
theorem newI_len (n p : Nat) (l : List Bool) (ino : Int) (on : Bool) : (newI n p l ino on).length = l.length := by
  unfold newI
  cases iOf n p ino with
  | none => rfl
  | some k => exact List.length_set
theorem newD_len (gr i d : Int) (l : List Bool) (block : Int) (on : Bool) : (newD gr i d l block on).length = l.length := by
  unfold newD
  by_cases h : block = 0
  · rw [if_pos h]
  · rw [if_neg h, List.length_set]
theorem Tri.inodeA (h : Tri wx X a o g Bi Bb n p q gr i d li ld ri rd W) (from0 : Int) : Calls Try.prog 9 #[.pointer (some ⟨a, 0, none⟩), .int .i64 from0] W fun e w' => e = .returned (.tuple #[.int .i64 (optI (nextA li p n from0)), .bool (nextA li p n from0).isSome]) ∧ Tri wx X a o g Bi Bb n p q gr i d (setO li (nextA li p n from0)) ld ri rd w' ∧ w'.heap[X]? = W.heap[X]? :=
  h.a_ (fun ea h1 h2 h3 => Given.inodeA from0 h3 h1 h2)
theorem Tri.blockA (h : Tri wx X a o g Bi Bb n p q gr i d li ld ri rd W) (from0 : Int) : Calls Try.prog 10 #[.pointer (some ⟨a, 0, none⟩), .int .i64 from0] W fun e w' => e = .returned (.tuple #[.int .i64 (optD i q (nextA ld q n from0)), .bool (nextA ld q n from0).isSome]) ∧ Tri wx X a o g Bi Bb n p q gr i d li (setO ld (nextA ld q n from0)) ri rd w' ∧ w'.heap[X]? = W.heap[X]? :=
  h.a_ (fun ea h1 h2 h3 => Given.blockA from0 h3 h1 h2)
/-- what Take and Give leave of the two rows -/
def setLi (gr i d : Int) (n p : Nat) (li ld : List Bool) (ino block : Int) (on : Bool) : List Bool := if maySet gr i d n p li ld ino block on = true then newI n p li ino on else li
def setLd (gr i d : Int) (n p : Nat) (li ld : List Bool) (ino block : Int) (on : Bool) : List Bool := if maySet gr i d n p li ld ino block on = true then newD gr i d ld block on else ld
theorem setLi_len (gr i d : Int) (n p : Nat) (li ld : List Bool) (ino block : Int) (on : Bool) : (setLi gr i d n p li ld ino block on).length = li.length := by
  unfold setLi; split
  · exact newI_len _ _ _ _ _
  · rfl
theorem setLd_len (gr i d : Int) (n p : Nat) (li ld : List Bool) (ino block : Int) (on : Bool) : (setLd gr i d n p li ld ino block on).length = ld.length := by
  unfold setLd; split
  · exact newD_len _ _ _ _ _ _
  · rfl
theorem Tri.takeA (h : Tri wx X a o g Bi Bb n p q gr i d li ld ri rd W) (ino block : Int) : Calls Try.prog 21 #[.pointer (some ⟨a, 0, none⟩), .int .i64 ino, .int .i64 block] W fun e w' => e = .returned (.bool (maySet gr i d n p li ld ino block true)) ∧ Tri wx X a o g Bi Bb n p q gr i d (setLi gr i d n p li ld ino block true) (setLd gr i d n p li ld ino block true) ri rd w' ∧ w'.heap[X]? = W.heap[X]? :=
  h.a_ (fun ea h1 h2 h3 => (Given.takeA ino block h3 h1 h2).mono (fun e w' h => h))
theorem Tri.giveA (h : Tri wx X a o g Bi Bb n p q gr i d li ld ri rd W) (ino block : Int) : Calls Try.prog 17 #[.pointer (some ⟨a, 0, none⟩), .int .i64 ino, .int .i64 block] W fun e w' => e = .returned (.bool (maySet gr i d n p li ld ino block false)) ∧ Tri wx X a o g Bi Bb n p q gr i d (setLi gr i d n p li ld ino block false) (setLd gr i d n p li ld ino block false) ri rd w' ∧ w'.heap[X]? = W.heap[X]? :=
  h.a_ (fun ea h1 h2 h3 => (Given.giveA ino block h3 h1 h2).mono (fun e w' h => h))
theorem Tri.inodeO (h : Tri wx X a o g Bi Bb n p q gr i d li ld ri rd W) : Calls Try.prog 9 #[.pointer (some ⟨o, 0, none⟩), .int .i64 0] W fun e w' => ∃ lo lp : List Bool, e = .returned (.tuple #[.int .i64 (optI (nextA lo p n 0)), .bool (nextA lo p n 0).isSome]) ∧ Tri wx X a o g Bi Bb n p q gr i d li ld ri rd w' ∧ w'.heap[X]? = W.heap[X]? :=
  h.o_ (res := fun lo lp => .returned (.tuple #[.int .i64 (optI (nextA lo p n 0)), .bool (nextA lo p n 0).isSome])) (fun eo lo lp h1 h2 h3 => Given.inodeA 0 h3 h1 h2)
theorem Tri.blockO (h : Tri wx X a o g Bi Bb n p q gr i d li ld ri rd W) : Calls Try.prog 10 #[.pointer (some ⟨o, 0, none⟩), .int .i64 0] W fun e w' => ∃ lo lp : List Bool, e = .returned (.tuple #[.int .i64 (optD i q (nextA lp q n 0)), .bool (nextA lp q n 0).isSome]) ∧ Tri wx X a o g Bi Bb n p q gr i d li ld ri rd w' ∧ w'.heap[X]? = W.heap[X]? :=
  h.o_ (res := fun lo lp => .returned (.tuple #[.int .i64 (optD i q (nextA lp q n 0)), .bool (nextA lp q n 0).isSome])) (fun eo lo lp h1 h2 h3 => Given.blockA 0 h3 h1 h2)
theorem Tri.rInode (h : Tri wx X a o g Bi Bb n p q gr i d li ld ri rd W) (from0 : Int) : Calls Try.prog 19 #[.pointer (some ⟨g, 0, none⟩), .int .i64 from0] W fun e w' => e = .returned (.tuple #[.int .i64 (optI (nextA ri p n from0)), .bool (nextA ri p n from0).isSome]) ∧ Tri wx X a o g Bi Bb n p q gr i d li ld (setO ri (nextA ri p n from0)) rd w' ∧ w'.heap[X]? = W.heap[X]? := by
  obtain ⟨f1, f2, f3⟩ := h.fine
  obtain ⟨hR, hl, hlb⟩ := h.isR
  refine h.r_ (setO_len _ _) rfl ((Given.rInode g Bi Bb n p gr i d ri rd from0 W hR hl (fun h0 => by obtain ⟨e1, e2, e3, g1, g2, g3, g4, g5, g6⟩ := f1 h0; exact ⟨e2, by omega, by omega⟩) f3).mono ?_)
  rintro e w' ⟨he, h1, ho⟩
  exact ⟨he, h1, ho.mono (fun k hk => .inl hk)⟩
theorem Tri.rTake (h : Tri wx X a o g Bi Bb n p q gr i d li ld ri rd W) (from0 : Int) : Calls Try.prog 20 #[.pointer (some ⟨g, 0, none⟩), .int .i64 from0] W fun e w' => e = .returned (.tuple #[.int .i64 (optD i q (nextA rd q n from0)), .bool (nextA rd q n from0).isSome]) ∧ Tri wx X a o g Bi Bb n p q gr i d li ld ri (setO rd (nextA rd q n from0)) w' ∧ w'.heap[X]? = W.heap[X]? := by
  obtain ⟨f1, f2, f3⟩ := h.fine
  obtain ⟨hR, hl, hlb⟩ := h.isR
  refine h.r_ rfl (setO_len _ _) ((Given.rTake g Bi Bb n q gr i d ri rd from0 W hR hlb (fun h0 => by obtain ⟨e1, e2, e3, hf⟩ := f1 h0; exact ⟨e1, e3, hf⟩) f3).mono ?_)
  rintro e w' ⟨he, h1, ho⟩
  exact ⟨he, h1, ho.mono (fun k hk => .inr hk)⟩
theorem Tri.rSet (h : Tri wx X a o g Bi Bb n p q gr i d li ld ri rd W) (ino block : Int) (on : Bool) : Calls Try.prog 22 #[.pointer (some ⟨g, 0, none⟩), .int .i64 ino, .int .i64 block, .bool on] W fun e w' => e = .returned (.bool (maySet gr i d n p ri rd ino block on)) ∧ Tri wx X a o g Bi Bb n p q gr i d li ld (setLi gr i d n p ri rd ino block on) (setLd gr i d n p ri rd ino block on) w' ∧ w'.heap[X]? = W.heap[X]? := by
  obtain ⟨f1, f2, f3⟩ := h.fine
  obtain ⟨hR, hl, hlb⟩ := h.isR
  obtain ⟨s1, s2⟩ := h.small
  exact h.r_ (setLi_len _ _ _ _ _ _ _ _ _ _) (setLd_len _ _ _ _ _ _ _ _ _ _) (Given.rSet g Bi Bb n p q gr i d ri rd ino block on W hR hl hlb (by omega) (by omega) (fun h0 => by obtain ⟨e1, e2, e3, hf⟩ := f1 h0; exact ⟨e1, e3, hf⟩) f2)
theorem Tri.freeA (h : Tri wx X a o g Bi Bb n p q gr i d li ld ri rd W) : Calls Try.prog 16 #[.pointer (some ⟨a, 0, none⟩)] W fun e w' => e = .returned (.tuple #[.int .i64 (freeN li : Int), .int .i64 (freeN ld : Int)]) ∧ Tri wx X a o g Bi Bb n p q gr i d li ld ri rd w' ∧ w'.heap[X]? = W.heap[X]? := by
  obtain ⟨ea, hA⟩ := h.isA
  refine (Given.freeA hA).mono ?_
  rintro e w' ⟨he, hb⟩
  exact ⟨he, h.below hb, hb.block X (by obtain ⟨_, _, _, _, _, _, _, ⟨_, _, _, d4⟩, _⟩ := h; exact d4)⟩
theorem Tri.rFree (h : Tri wx X a o g Bi Bb n p q gr i d li ld ri rd W) : Calls Try.prog 23 #[.pointer (some ⟨g, 0, none⟩)] W fun e w' => e = .returned (.tuple #[.int .i64 (freeN ri : Int), .int .i64 (freeN rd : Int)]) ∧ W = w' := by
  obtain ⟨hR, hl, hlb⟩ := h.isR
  obtain ⟨s1, s2⟩ := h.small
  exact Given.rFree g Bi Bb gr i d ri rd W hR (by omega) (by omega)
theorem Tri.bits (h : Tri wx X a o g Bi Bb n p q gr i d li ld ri rd W) (k : Int) : Calls Try.prog 24 #[.pointer (some ⟨a, 0, none⟩), .int .i64 k] W fun e w' => ∃ v0 v1 b0 b1, e = .returned (.tuple #[v0, v1]) ∧ (Kd.R (Kd.int .u8) 5 w' W.heap.size (fun _ => True) v0 b0 ∧ Kd.R (Kd.int .u8) 5 w' W.heap.size (fun _ => True) v1 b1) ∧ BitsOf n p q li ld k b0 b1 ∧ Below W.heap.size W w' := by
  obtain ⟨ea, hA⟩ := h.isA
  exact bitsA k hA
theorem Tri.rBits (h : Tri wx X a o g Bi Bb n p q gr i d li ld ri rd W) (k : Int) : Calls Try.prog 25 #[.pointer (some ⟨g, 0, none⟩), .int .i64 k] W fun e w' => ∃ v0 v1 b0 b1, e = .returned (.tuple #[v0, v1]) ∧ (Kd.R (Kd.int .u8) 5 w' W.heap.size (fun _ => True) v0 b0 ∧ Kd.R (Kd.int .u8) 5 w' W.heap.size (fun _ => True) v1 b1) ∧ BitsOf n p q ri rd k b0 b1 ∧ Below W.heap.size W w' := by
  obtain ⟨f1, f2, f3⟩ := h.fine
  obtain ⟨hR, hl, hlb⟩ := h.isR
  exact Given.rBits g Bi Bb n p q gr i d ri rd k W hR hl hlb f1 f2
end
end Go.Proofs.Ytppjeikkodjjhaa.Given
