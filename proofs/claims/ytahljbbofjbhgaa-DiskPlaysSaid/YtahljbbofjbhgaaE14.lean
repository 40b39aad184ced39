/- DiskPlays: two disks and a model in one memory; what a call of each kind makes of a disk. -/
import Derived.Test.YtahljbbofjbhgaaE13
namespace Go.Proofs.Ytahljbbofjbhgaa.Given
open Go.RowKit Go.Shelf Go.Proofs.YtahljbbofjbhgaaW.PrintWords Go.Proofs.YtahljbbofjbhgaaW.PrintLast Go.Proofs.YtahljbbofjbhgaaW.PrintMore Go.Proofs.YtahljbbofjbhgaaBase
set_option linter.unusedVariables false
set_option linter.unusedSimpArgs false

structure Thr (okd oko okm : Nat → Prop) (N1 gd go gm : Nat) (s so sm : DS) (W : World) : Prop where
  d : IsD N1 okd W gd s.b s.l s.cut s.dead
  o : IsD N1 oko W go so.b so.l so.cut so.dead
  m : IsM N1 okm W gm sm.b sm.l sm.cut sm.dead
  bd : ∀ k, okd k → N1 ≤ k ∧ k < W.heap.size
  bo : ∀ k, oko k → N1 ≤ k ∧ k < W.heap.size
  bm : ∀ k, okm k → N1 ≤ k ∧ k < W.heap.size
  do_ : ∀ k, okd k → ¬ oko k
  dm : ∀ k, okd k → ¬ okm k
  om : ∀ k, oko k → ¬ okm k
section
variable {okd oko okm okn : Nat → Prop} {N1 gd go gm : Nat} {s so sm s' : DS} {W W1 : World}
theorem IsD.off {base : Nat} {ok : Nat → Prop} {g : Nat} {b : List Int} {l : List S31} {cut : Int} {dead : Bool} (h : IsD base ok W g b l cut dead) (hb : ∀ k, ok k → k < W.heap.size) (ho : Off okn W W1) (hn : ∀ k, ok k → ¬ okn k) : IsD base ok W1 g b l cut dead := h.move (fun k hk => ho.block k (hb k hk) (hn k hk))
theorem IsM.off {base : Nat} {ok : Nat → Prop} {g : Nat} {b : List Int} {l : List S31} {cut : Int} {dead : Bool} (h : IsM base ok W g b l cut dead) (hb : ∀ k, ok k → k < W.heap.size) (ho : Off okn W W1) (hn : ∀ k, ok k → ¬ okn k) : IsM base ok W1 g b l cut dead := h.move (fun k hk => ho.block k (hb k hk) (hn k hk))
theorem Thr.other (h : Thr okd oko okm N1 gd go gm s so sm W) (ho : Off okn W W1) (hd : ∀ k, okd k → ¬ okn k) (hoo : ∀ k, oko k → ¬ okn k) (hm : ∀ k, okm k → ¬ okn k) : Thr okd oko okm N1 gd go gm s so sm W1 :=
  ⟨h.d.off (fun k hk => (h.bd k hk).2) ho hd, h.o.off (fun k hk => (h.bo k hk).2) ho hoo, h.m.off (fun k hk => (h.bm k hk).2) ho hm, fun k hk => ⟨(h.bd k hk).1, Nat.lt_of_lt_of_le (h.bd k hk).2 ho.size⟩, fun k hk => ⟨(h.bo k hk).1, Nat.lt_of_lt_of_le (h.bo k hk).2 ho.size⟩, fun k hk => ⟨(h.bm k hk).1, Nat.lt_of_lt_of_le (h.bm k hk).2 ho.size⟩, h.do_, h.dm, h.om⟩
theorem Thr.below (h : Thr okd oko okm N1 gd go gm s so sm W) (hb : Below W.heap.size W W1) : Thr okd oko okm N1 gd go gm s so sm W1 := h.other (Off.of_below hb (fun _ => False)) (fun _ _ h => h) (fun _ _ h => h) (fun _ _ h => h)
/-- the disk has been written -/
theorem Thr.wd (h : Thr okd oko okm N1 gd go gm s so sm W) (hN : N1 ≤ W.heap.size) (hd : IsD N1 (fun k => okd k ∨ W.heap.size ≤ k) W1 gd s'.b s'.l s'.cut s'.dead) (ho : Off okd W W1) : Thr (fun k => (okd k ∨ W.heap.size ≤ k) ∧ k < W1.heap.size) oko okm N1 gd go gm s' so sm W1 := by
  have h1 := h.o.off (fun k hk => (h.bo k hk).2) ho (fun k hk h2 => h.do_ k h2 hk)
  have h2 := h.m.off (fun k hk => (h.bm k hk).2) ho (fun k hk h2 => h.dm k h2 hk)
  refine ⟨hd.bound.mono (fun k hk => ⟨hk.1, hk.2.2⟩), h1, h2, fun k hk => ⟨hk.1.elim (fun h3 => (h.bd k h3).1) (fun h3 => by omega), hk.2⟩, fun k hk => ⟨(h.bo k hk).1, Nat.lt_of_lt_of_le (h.bo k hk).2 ho.size⟩, fun k hk => ⟨(h.bm k hk).1, Nat.lt_of_lt_of_le (h.bm k hk).2 ho.size⟩, fun k hk h3 => hk.1.elim (fun h4 => h.do_ k h4 h3) (fun h4 => by have := (h.bo k h3).2; omega), fun k hk h3 => hk.1.elim (fun h4 => h.dm k h4 h3) (fun h4 => by have := (h.bm k h3).2; omega), h.om⟩
/-- the disk's power has been switched -/
theorem Thr.cd (h : Thr okd oko okm N1 gd go gm s so sm W) (hd : IsD N1 okd W1 gd s'.b s'.l s'.cut s'.dead) (ho : Off okd W W1) : Thr okd oko okm N1 gd go gm s' so sm W1 :=
  ⟨hd, h.o.off (fun k hk => (h.bo k hk).2) ho (fun k hk h2 => h.do_ k h2 hk), h.m.off (fun k hk => (h.bm k hk).2) ho (fun k hk h2 => h.dm k h2 hk), fun k hk => ⟨(h.bd k hk).1, Nat.lt_of_lt_of_le (h.bd k hk).2 ho.size⟩, fun k hk => ⟨(h.bo k hk).1, Nat.lt_of_lt_of_le (h.bo k hk).2 ho.size⟩, fun k hk => ⟨(h.bm k hk).1, Nat.lt_of_lt_of_le (h.bm k hk).2 ho.size⟩, h.do_, h.dm, h.om⟩
theorem Thr.wo (h : Thr okd oko okm N1 gd go gm s so sm W) (hN : N1 ≤ W.heap.size) (hd : IsD N1 (fun k => oko k ∨ W.heap.size ≤ k) W1 go s'.b s'.l s'.cut s'.dead) (ho : Off oko W W1) : Thr okd (fun k => (oko k ∨ W.heap.size ≤ k) ∧ k < W1.heap.size) okm N1 gd go gm s s' sm W1 := by
  have h1 := h.d.off (fun k hk => (h.bd k hk).2) ho (fun k hk h2 => h.do_ k hk h2)
  have h2 := h.m.off (fun k hk => (h.bm k hk).2) ho (fun k hk h2 => h.om k h2 hk)
  refine ⟨h1, hd.bound.mono (fun k hk => ⟨hk.1, hk.2.2⟩), h2, fun k hk => ⟨(h.bd k hk).1, Nat.lt_of_lt_of_le (h.bd k hk).2 ho.size⟩, fun k hk => ⟨hk.1.elim (fun h3 => (h.bo k h3).1) (fun h3 => by omega), hk.2⟩, fun k hk => ⟨(h.bm k hk).1, Nat.lt_of_lt_of_le (h.bm k hk).2 ho.size⟩, fun k h3 hk => hk.1.elim (fun h4 => h.do_ k h3 h4) (fun h4 => by have := (h.bd k h3).2; omega), h.dm, fun k hk h3 => hk.1.elim (fun h4 => h.om k h4 h3) (fun h4 => by have := (h.bm k h3).2; omega)⟩
theorem Thr.wm (h : Thr okd oko okm N1 gd go gm s so sm W) (hN : N1 ≤ W.heap.size) (hd : IsM N1 (fun k => okm k ∨ W.heap.size ≤ k) W1 gm s'.b s'.l s'.cut s'.dead) (ho : Off okm W W1) : Thr okd oko (fun k => (okm k ∨ W.heap.size ≤ k) ∧ k < W1.heap.size) N1 gd go gm s so s' W1 := by
  have h1 := h.d.off (fun k hk => (h.bd k hk).2) ho (fun k hk h2 => h.dm k hk h2)
  have h2 := h.o.off (fun k hk => (h.bo k hk).2) ho (fun k hk h2 => h.om k hk h2)
  refine ⟨h1, h2, hd.bound.mono (fun k hk => ⟨hk.1, hk.2.2⟩), fun k hk => ⟨(h.bd k hk).1, Nat.lt_of_lt_of_le (h.bd k hk).2 ho.size⟩, fun k hk => ⟨(h.bo k hk).1, Nat.lt_of_lt_of_le (h.bo k hk).2 ho.size⟩, fun k hk => ⟨hk.1.elim (fun h3 => (h.bm k h3).1) (fun h3 => by omega), hk.2⟩, h.do_, fun k h3 hk => hk.1.elim (fun h4 => h.dm k h3 h4) (fun h4 => by have := (h.bd k h3).2; omega), fun k h3 hk => hk.1.elim (fun h4 => h.om k h3 h4) (fun h4 => by have := (h.bo k h3).2; omega)⟩
theorem Thr.cm (h : Thr okd oko okm N1 gd go gm s so sm W) (hd : IsM N1 okm W1 gm s'.b s'.l s'.cut s'.dead) (ho : Off okm W W1) : Thr okd oko okm N1 gd go gm s so s' W1 :=
  ⟨h.d.off (fun k hk => (h.bd k hk).2) ho (fun k hk h2 => h.dm k hk h2), h.o.off (fun k hk => (h.bo k hk).2) ho (fun k hk h2 => h.om k hk h2), hd, fun k hk => ⟨(h.bd k hk).1, Nat.lt_of_lt_of_le (h.bd k hk).2 ho.size⟩, fun k hk => ⟨(h.bo k hk).1, Nat.lt_of_lt_of_le (h.bo k hk).2 ho.size⟩, fun k hk => ⟨(h.bm k hk).1, Nat.lt_of_lt_of_le (h.bm k hk).2 ho.size⟩, h.do_, h.dm, h.om⟩
/-- the model, opened -/
theorem Thr.mb (h : Thr okd oko okm N1 gd go gm s so sm W) : ∃ A c vl, IsMB W gm (.slice A sm.b.length c) vl sm.cut sm.dead ∧ sm.b.length ≤ c ∧ Kd.C (Kd.int .u8) W A sm.b.length sm.b ∧ okm gm := by
  obtain ⟨vb, vl, hI, hbok, hR, hS⟩ := h.m
  obtain ⟨A, c, rfl⟩ := Kd.R_slice hR
  exact ⟨A, c, vl, hI, (Kd.R_reads' hR).2.1, (Kd.R_reads' hR).2.2, hbok.2⟩
end
/-- a row of one's own, newer than w4 -/
def RowJ (w4 : World) (v : Value) (n : Nat) (wr : World) : Prop := (∃ xs : List Int, xs.length = n ∧ Kd.R (Kd.int .u8) 5 wr w4.heap.size (fun _ => True) v xs) ∧ Below w4.heap.size w4 wr
theorem RowJ.store {w4 : World} {G n c : Nat} {wr : World} (h : RowJ w4 (.slice (some ⟨G, 0, none⟩) n c) n wr) (hG : w4.heap.size ≤ G) (j : Nat) (x : Int) : RowJ w4 (.slice (some ⟨G, 0, none⟩) n c) n (wr.setCell ⟨G, j, none⟩ (.int .u8 x)) := by
  obtain ⟨⟨xs, hl, hR⟩, hb⟩ := h
  exact ⟨⟨xs.set j x, by rw [List.length_set]; exact hl, R_put hR j x⟩, hb.setCell (p := ⟨G, j, none⟩) hG _⟩
/-- ahead of the j-th call: the disk and the model agree -/
def PlI (w : World) (N1 gd go gm n j : Nat) (wr : World) : Prop := ∃ okd oko okm s so, Thr okd oko okm N1 gd go gm s so s wr ∧ DSok s (n * 1024) (2 * j) ∧ DSok so (n * 1024) (2 * j) ∧ Below w.heap.size w wr ∧ w.heap.size ≤ N1 ∧ N1 ≤ wr.heap.size
end Go.Proofs.Ytahljbbofjbhgaa.Given
