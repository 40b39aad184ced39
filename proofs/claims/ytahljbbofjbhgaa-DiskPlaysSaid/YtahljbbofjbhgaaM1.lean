/- The model's block in memory: the disk's lemmas over its type (written by wip/e/mkE9.py out of E1, E2, E5). -/
import Derived.Test.YtahljbbofjbhgaaE8
namespace Go.Proofs.Ytahljbbofjbhgaa.Given
open Go.RowKit Go.Shelf Go.Proofs.YtahljbbofjbhgaaW.PrintWords Go.Proofs.YtahljbbofjbhgaaW.PrintLast Go.Proofs.YtahljbbofjbhgaaW.PrintMore Go.Proofs.YtahljbbofjbhgaaBase
set_option linter.unusedVariables false
set_option linter.unusedSimpArgs false

/-- the model's block: its image, its log, the power -/
def IsMB (W : World) (g : Nat) (vb vl : Value) (cut : Int) (dead : Bool) : Prop := W.heap[g]? = some (.cells #[vb, vl, .int .i64 cut, .bool dead] 36 (0, 0))
theorem IsMB.c0 {W g vb vl cut dead} (h : IsMB W g vb vl cut dead) : W.cell? ⟨g, 0, none⟩ = some vb := (blk_cell h 0).trans rfl
theorem IsMB.c1 {W g vb vl cut dead} (h : IsMB W g vb vl cut dead) : W.cell? ⟨g, 1, none⟩ = some vl := (blk_cell h 1).trans rfl
theorem IsMB.c2 {W g vb vl cut dead} (h : IsMB W g vb vl cut dead) : W.cell? ⟨g, 2, none⟩ = some (.int .i64 cut) := (blk_cell h 2).trans rfl
theorem IsMB.c3 {W g vb vl cut dead} (h : IsMB W g vb vl cut dead) : W.cell? ⟨g, 3, none⟩ = some (.bool dead) := (blk_cell h 3).trans rfl
theorem IsMB.set2 {W g vb vl cut dead} (h : IsMB W g vb vl cut dead) (x : Int) : IsMB (W.setCell ⟨g, 2, none⟩ (.int .i64 x)) g vb vl x dead := by
  unfold IsMB at h ⊢
  simpa using blk_set h 2 (.int .i64 x)
theorem IsMB.set3 {W g vb vl cut dead} (h : IsMB W g vb vl cut dead) (x : Bool) : IsMB (W.setCell ⟨g, 3, none⟩ (.bool x)) g vb vl cut x := by
  unfold IsMB at h ⊢
  simpa using blk_set h 3 (.bool x)
theorem IsMB.set1 {W g vb vl cut dead} (h : IsMB W g vb vl cut dead) (v : Value) : IsMB (W.setCell ⟨g, 1, none⟩ v) g vb v cut dead := by
  unfold IsMB at h ⊢
  simpa using blk_set h 1 v
theorem IsMB.lt {W g vb vl cut dead} (h : IsMB W g vb vl cut dead) : g < W.heap.size := blk_lt h
theorem IsMB.grown {W W1 : World} {row : Option Nat} {g vb vl cut dead} (h : IsMB W g vb vl cut dead) (hw : W.grownBy W1 row) (hne : some g ≠ row) : IsMB W1 g vb vl cut dead := blk_grown h hw hne
theorem IsMB.below {W W1 : World} {g vb vl cut dead} (h : IsMB W g vb vl cut dead) (hw : Below W.heap.size W W1) : IsMB W1 g vb vl cut dead := h.grown (grown_of_below hw none) (by simp)
/-- the model at block g: its image b, its log l, the sectors that are written yet, the power; all its blocks are of ok -/
def IsM (base : Nat) (ok : Nat → Prop) (W : World) (g : Nat) (b : List Int) (l : List S31) (cut : Int) (dead : Bool) : Prop :=
  ∃ vb vl, IsMB W g vb vl cut dead ∧ (base ≤ g ∧ ok g) ∧ Kd.R (Kd.int .u8) 5 W base (fun k => ok k ∧ vb.ownBlock = some k) vb b ∧ Kd.S k31 31 W base (fun k => ok k ∧ vb.ownBlock ≠ some k) vl l
section
variable {base : Nat} {ok : Nat → Prop} {W W1 : World} {g : Nat} {b : List Int} {l : List S31} {cut : Int} {dead : Bool}
theorem IsM.mono {ok' : Nat → Prop} (h : IsM base ok W g b l cut dead) (hok : ∀ k, ok k → ok' k) : IsM base ok' W g b l cut dead := by
  obtain ⟨vb, vl, h1, h2, h3, h4⟩ := h
  exact ⟨vb, vl, h1, ⟨h2.1, hok _ h2.2⟩, Kd.R_mono h3 (fun k hk => ⟨hok k hk.1, hk.2⟩), Kd.S_mono h4 (fun k hk => ⟨hok k hk.1, hk.2⟩)⟩
/-- what stands at the model's blocks has not changed -/
theorem IsM.move (h : IsM base ok W g b l cut dead) (hm : ∀ k, ok k → W1.heap[k]? = W.heap[k]?) : IsM base ok W1 g b l cut dead := by
  obtain ⟨vb, vl, h1, h2, h3, h4⟩ := h
  exact ⟨vb, vl, (hm g h2.2).trans h1, h2, Kd.R_move h3 (fun k hk => hm k hk.1), Kd.S_move h4 (fun k hk => hm k hk.1)⟩
/-- the model's blocks are there -/
theorem IsM.bound (h : IsM base ok W g b l cut dead) : IsM base (fun k => ok k ∧ base ≤ k ∧ k < W.heap.size) W g b l cut dead := by
  obtain ⟨vb, vl, h1, h2, h3, h4⟩ := h
  exact ⟨vb, vl, h1, ⟨h2.1, h2.2, h2.1, h1.lt⟩, Kd.R_mono (Kd.R_bound h3) (fun k hk => ⟨⟨hk.1.1, hk.2.1, hk.2.2.1⟩, hk.1.2⟩), Kd.S_mono (Kd.S_bound h4) (fun k hk => ⟨⟨hk.1.1, hk.2.1, hk.2.2.1⟩, hk.1.2⟩)⟩
theorem IsM.below (h : IsM base ok W g b l cut dead) (hw : Below W.heap.size W W1) : IsM base ok W1 g b l cut dead := by
  obtain ⟨vb, vl, h1, h2, h3, h4⟩ := h
  exact ⟨vb, vl, h1.below hw, h2, Kd.R_below h3 hw, Kd.S_below h4 hw⟩
theorem IsM.alloc (h : IsM base ok W g b l cut dead) (o : Obj) : IsM base ok (W.alloc o) g b l cut dead := h.below (below_alloc (Below.refl _ _) o)
theorem IsM.drewN (h : IsM base ok W g b l cut dead) (m : Nat) : IsM base ok (W.drewN m) g b l cut dead := h.below (pw_below_drewN (Below.refl _ _) m)
theorem IsM.lower {base' : Nat} (h : IsM base ok W g b l cut dead) (hb : base' ≤ base) : IsM base' ok W g b l cut dead := by
  obtain ⟨vb, vl, h1, h2, h3, h4⟩ := h
  exact ⟨vb, vl, h1, ⟨by omega, h2.2⟩, Kd.R_lower h3 hb, Kd.S_lower h4 hb⟩
theorem IsM.set2 (h : IsM base ok W g b l cut dead) (x : Int) : IsM base ok (W.setCell ⟨g, 2, none⟩ (.int .i64 x)) g b l x dead := by
  obtain ⟨vb, vl, h1, h2, h3, h4⟩ := h
  exact ⟨vb, vl, h1.set2 x, h2, Kd.R_mono (R_self (Kd.R_set h3 h1 (by decide) 2 _)) (fun k hk => ⟨hk.1.1, hk.2⟩), Kd.S_set h4 h1 (by decide) 2 _⟩
theorem IsM.set3 (h : IsM base ok W g b l cut dead) (x : Bool) : IsM base ok (W.setCell ⟨g, 3, none⟩ (.bool x)) g b l cut x := by
  obtain ⟨vb, vl, h1, h2, h3, h4⟩ := h
  exact ⟨vb, vl, h1.set3 x, h2, Kd.R_mono (R_self (Kd.R_set h3 h1 (by decide) 3 _)) (fun k hk => ⟨hk.1.1, hk.2⟩), Kd.S_set h4 h1 (by decide) 3 _⟩
end
/-- a model, its two slices told -/
def IsMv (base : Nat) (ok : Nat → Prop) (W : World) (g : Nat) (vb vl : Value) (b : List Int) (l : List S31) (cut : Int) (dead : Bool) : Prop :=
  IsMB W g vb vl cut dead ∧ (base ≤ g ∧ ok g) ∧ Kd.R (Kd.int .u8) 5 W base (fun k => ok k ∧ vb.ownBlock = some k) vb b ∧ Kd.S k31 31 W base (fun k => ok k ∧ vb.ownBlock ≠ some k) vl l
theorem IsMv.is {base : Nat} {ok : Nat → Prop} {W : World} {g : Nat} {vb vl : Value} {b : List Int} {l : List S31} {cut : Int} {dead : Bool} (h : IsMv base ok W g vb vl b l cut dead) : IsM base ok W g b l cut dead := ⟨vb, vl, h⟩
section
variable {base : Nat} {ok : Nat → Prop} {W W1 W2 : World} {g : Nat} {vb vl : Value} {b : List Int} {l : List S31} {cut : Int} {dead : Bool}
theorem IsMv.set2 (h : IsMv base ok W g vb vl b l cut dead) (x : Int) : IsMv base ok (W.setCell ⟨g, 2, none⟩ (.int .i64 x)) g vb vl b l x dead := by
  obtain ⟨h1, h2, h3, h4⟩ := h
  exact ⟨h1.set2 x, h2, Kd.R_mono (R_self (Kd.R_set h3 h1 (by decide) 2 _)) (fun k hk => ⟨hk.1.1, hk.2⟩), Kd.S_set h4 h1 (by decide) 2 _⟩
theorem IsMv.set3 (h : IsMv base ok W g vb vl b l cut dead) (x : Bool) : IsMv base ok (W.setCell ⟨g, 3, none⟩ (.bool x)) g vb vl b l cut x := by
  obtain ⟨h1, h2, h3, h4⟩ := h
  exact ⟨h1.set3 x, h2, Kd.R_mono (R_self (Kd.R_set h3 h1 (by decide) 3 _)) (fun k hk => ⟨hk.1.1, hk.2⟩), Kd.S_set h4 h1 (by decide) 3 _⟩
theorem IsMv.below (h : IsMv base ok W g vb vl b l cut dead) (hw : Below W.heap.size W W1) : IsMv base ok W1 g vb vl b l cut dead := by
  obtain ⟨h1, h2, h3, h4⟩ := h
  exact ⟨h1.below hw, h2, Kd.R_below h3 hw, Kd.S_below h4 hw⟩
/-- the image written: only its own block turns -/
theorem IsMv.image {b2 : List Int} (h : IsMv base ok W g vb vl b l cut dead) (hg : W.grownBy W1 vb.ownBlock) (hR : Kd.R (Kd.int .u8) 5 W1 base (fun k => ok k ∧ vb.ownBlock = some k) vb b2) : IsMv base ok W1 g vb vl b2 l cut dead := by
  obtain ⟨h1, h2, h3, h4⟩ := h
  exact ⟨h1.grown hg (Kd.R_ne h3 h1 (by decide)), h2, hR, Kd.S_grown h4 hg (fun k hk e => hk.2 e.symm)⟩
/-- the log's new slice, put into the disk -/
theorem IsMv.logged {l2 : List S31} {v2 : Value} {ok2 : Nat → Prop} (h : IsMv base ok W g vb vl b l cut dead) (hok : ∀ k, ok k → ok2 k) (hg : W.grownBy W1 vl.ownBlock) (hS : Kd.S k31 31 W1 base (fun k => ok2 k ∧ vb.ownBlock ≠ some k) v2 l2) :
    IsMv base ok2 (W1.setCell ⟨g, 1, none⟩ v2) g vb v2 b l2 cut dead := by
  obtain ⟨h1, h2, h3, h4⟩ := h
  have hb1 : IsMB W1 g vb vl cut dead := h1.grown hg (Kd.S_ne h4 h1 (by decide))
  have hR1 : Kd.R (Kd.int .u8) 5 W1 base (fun k => ok k ∧ vb.ownBlock = some k) vb b := Kd.R_over' h3 (Kd.S_typed h4) (by decide) hg
  exact ⟨hb1.set1 v2, ⟨h2.1, hok _ h2.2⟩, Kd.R_mono (R_self (Kd.R_set hR1 hb1 (by decide) 1 _)) (fun k hk => ⟨hok k hk.1.1, hk.2⟩), Kd.S_set hS hb1 (by decide) 1 _⟩
theorem IsMv.imgOk (h : IsMv base ok W g vb vl b l cut dead) : ∀ k, vb.ownBlock = some k → ok k := fun k hk => (h.2.2.1.1 k hk).1
theorem IsMv.logOk (h : IsMv base ok W g vb vl b l cut dead) : ∀ k, vl.ownBlock = some k → ok k := fun k hk => by
  obtain ⟨f, h0⟩ := h.2.2.2
  exact (h0.1 k hk).1
theorem IsMv.keepsB (h : IsMv base ok W g vb vl b l cut dead) (hg : W.grownBy W1 vb.ownBlock) : KeepsOthers W W1 := keeps_R h.2.2.1 hg
theorem IsMv.keepsL (h : IsMv base ok W g vb vl b l cut dead) (hg : W.grownBy W1 vl.ownBlock) : KeepsOthers W W1 := keeps_S h.2.2.2 hg
end
section
variable {base : Nat} {ok : Nat → Prop} {V V1 w1 : World} {g : Nat} {vb vl v9 v1 : Value} {b y : List Int} {l : List S31} {cut n : Int} {dead : Bool}
/-- what an append to the log asks -/
theorem IsMv.pushes (h : IsMv base ok V g vb vl b l cut dead) (hok : ∀ k, V.heap.size ≤ k → ok k) (hbs : base ≤ V.heap.size) (hb : Below V.heap.size V V1) (hR : Kd.R (Kd.int .u8) 5 V1 V.heap.size (fun _ => True) v9 y) :
    k31.M V1 base (okP V V1) ⟨n, y⟩ [.int .i64 n, v9] ∧ (∀ k, okP V V1 k → okS ok vb k ∧ some k ≠ vl.ownBlock) ∧ (∀ k, V1.heap.size ≤ k → okS ok vb k) ∧ Kd.S k31 31 V1 base (fun k => okS ok vb k ∧ ¬ okP V V1 k) vl l := by
  have hbl : ∀ k, vb.ownBlock = some k → k < V.heap.size := Kd.R_lt h.2.2.1
  have hll : ∀ k, vl.ownBlock = some k → k < V.heap.size := Kd.S_lt h.2.2.2
  have hz := hb.size
  refine ⟨k31_mkM _ _ _ ⟨n, y⟩ (Kd.R_mono (Kd.R_lower (Kd.R_bound hR) hbs) (fun k hk => ⟨hk.2.1, hk.2.2.1⟩)), fun k hk => ⟨⟨hok k hk.1, fun e => ?_⟩, fun e => ?_⟩, fun k hk => ⟨hok k (by omega), fun e => ?_⟩, ?_⟩
  · have := hbl k e
    have := hk.1
    omega
  · have := hll k e.symm
    have := hk.1
    omega
  · have := hbl k e
    omega
  · exact Kd.S_mono (Kd.S_below (Kd.S_bound h.2.2.2) hb) (fun k hk => ⟨hk.1, fun h2 => by have := h2.1; have := hk.2.2.1; omega⟩)
/-- the log has grown by one -/
theorem IsMv.pushed {l2 : List S31} (h : IsMv base ok V g vb vl b l cut dead) (hok : ∀ k, V.heap.size ≤ k → ok k) (hb : Below V.heap.size V V1) (hS : Kd.S k31 31 w1 base (okS ok vb) v1 l2) (hg : V1.grownBy w1 vl.ownBlock) :
    IsMv base ok (w1.setCell ⟨g, 1, none⟩ v1) g vb v1 b l2 cut dead ∧ Off ok V (w1.setCell ⟨g, 1, none⟩ v1) ∧ KeepsOthers V (w1.setCell ⟨g, 1, none⟩ v1) := by
  have h1 := h.below hb
  refine ⟨h1.logged (fun _ hk => hk) hg hS, ?_, ?_⟩
  · exact ((Off.of_below hb ok).grown hg (fun k hk => .inl (h.logOk k hk))).setCell (.inl h.2.1.2) _
  · exact ((keeps_below hb).trans (h1.keepsL hg)).trans (KeepsOthers.setCell _ _ _)
theorem IsM.noncells (h : IsM base ok V g b l cut dead) {row : Option Nat} (hg : V.grownBy V1 row) (hr : ∀ r, row = some r → ∃ o : Obj, V.heap[r]? = some o ∧ o.isCells = false) : IsM base ok V1 g b l cut dead := by
  obtain ⟨vb, vl, h1, h2, h3, h4⟩ := h
  refine ⟨vb, vl, h1.grown hg (fun e => ?_), h2, R_noncells h3 hg hr, S_noncells h4 hg hr⟩
  obtain ⟨o, ho, hc⟩ := hr g e.symm
  rw [show V.heap[g]? = _ from h1] at ho
  cases ho
  cases hc
theorem IsMv.toks {ok' : Nat → Prop} (h : IsMv base ok V g vb vl b l cut dead) (hok : ∀ k, ok k → ok' k) : IsMv base ok' V g vb vl b l cut dead := by
  obtain ⟨h1, h2, h3, h4⟩ := h
  exact ⟨h1, ⟨h2.1, hok _ h2.2⟩, Kd.R_mono h3 (fun k hk => ⟨hok k hk.1, hk.2⟩), Kd.S_mono h4 (fun k hk => ⟨hok k hk.1, hk.2⟩)⟩
end
end Go.Proofs.Ytahljbbofjbhgaa.Given
