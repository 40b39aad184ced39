/- What a disk's write of one sector leaves: the image's bytes, the log, the power. -/
import Derived.Test.YthcafgjcgikgpaaE4
import Derived.Test.YthcafgjcgikgpaaOff
namespace Go.Proofs.Ythcafgjcgikgpaa.Given
open Go.RowKit Go.Shelf Go.Proofs.YthcafgjcgikgpaaW.PrintWords Go.Proofs.YthcafgjcgikgpaaW.PrintLast Go.Proofs.YthcafgjcgikgpaaW.PrintMore Go.Proofs.YthcafgjcgikgpaaBase
set_option linter.unusedVariables false
set_option linter.unusedSimpArgs false

/-- a disk, its two slices told -/
def IsDv (base : Nat) (ok : Nat → Prop) (W : World) (g : Nat) (vb vl : Value) (b : List Int) (l : List S31) (cut : Int) (dead : Bool) : Prop :=
  IsB W g vb vl cut dead ∧ (base ≤ g ∧ ok g) ∧ Kd.R (Kd.int .u8) 5 W base (fun k => ok k ∧ vb.ownBlock = some k) vb b ∧ Kd.S k31 73 W base (fun k => ok k ∧ vb.ownBlock ≠ some k) vl l
theorem IsDv.is {base : Nat} {ok : Nat → Prop} {W : World} {g : Nat} {vb vl : Value} {b : List Int} {l : List S31} {cut : Int} {dead : Bool} (h : IsDv base ok W g vb vl b l cut dead) : IsD base ok W g b l cut dead := ⟨vb, vl, h⟩
section
variable {base : Nat} {ok : Nat → Prop} {W W1 W2 : World} {g : Nat} {vb vl : Value} {b : List Int} {l : List S31} {cut : Int} {dead : Bool}
theorem IsDv.set2 (h : IsDv base ok W g vb vl b l cut dead) (x : Int) : IsDv base ok (W.setCell ⟨g, 2, none⟩ (.int .i64 x)) g vb vl b l x dead := by
  obtain ⟨h1, h2, h3, h4⟩ := h
  exact ⟨h1.set2 x, h2, Kd.R_mono (R_self (Kd.R_set h3 h1 (by decide) 2 _)) (fun k hk => ⟨hk.1.1, hk.2⟩), Kd.S_set h4 h1 (by decide) 2 _⟩
theorem IsDv.set3 (h : IsDv base ok W g vb vl b l cut dead) (x : Bool) : IsDv base ok (W.setCell ⟨g, 3, none⟩ (.bool x)) g vb vl b l cut x := by
  obtain ⟨h1, h2, h3, h4⟩ := h
  exact ⟨h1.set3 x, h2, Kd.R_mono (R_self (Kd.R_set h3 h1 (by decide) 3 _)) (fun k hk => ⟨hk.1.1, hk.2⟩), Kd.S_set h4 h1 (by decide) 3 _⟩
theorem IsDv.below (h : IsDv base ok W g vb vl b l cut dead) (hw : Below W.heap.size W W1) : IsDv base ok W1 g vb vl b l cut dead := by
  obtain ⟨h1, h2, h3, h4⟩ := h
  exact ⟨h1.below hw, h2, Kd.R_below h3 hw, Kd.S_below h4 hw⟩
/-- the image written: only its own block turns -/
theorem IsDv.image {b2 : List Int} (h : IsDv base ok W g vb vl b l cut dead) (hg : W.grownBy W1 vb.ownBlock) (hR : Kd.R (Kd.int .u8) 5 W1 base (fun k => ok k ∧ vb.ownBlock = some k) vb b2) : IsDv base ok W1 g vb vl b2 l cut dead := by
  obtain ⟨h1, h2, h3, h4⟩ := h
  exact ⟨h1.grown hg (Kd.R_ne h3 h1 (by decide)), h2, hR, Kd.S_grown h4 hg (fun k hk e => hk.2 e.symm)⟩
/-- the log's new slice, put into the disk -/
theorem IsDv.logged {l2 : List S31} {v2 : Value} {ok2 : Nat → Prop} (h : IsDv base ok W g vb vl b l cut dead) (hok : ∀ k, ok k → ok2 k) (hg : W.grownBy W1 vl.ownBlock) (hS : Kd.S k31 73 W1 base (fun k => ok2 k ∧ vb.ownBlock ≠ some k) v2 l2) :
    IsDv base ok2 (W1.setCell ⟨g, 1, none⟩ v2) g vb v2 b l2 cut dead := by
  obtain ⟨h1, h2, h3, h4⟩ := h
  have hb1 : IsB W1 g vb vl cut dead := h1.grown hg (Kd.S_ne h4 h1 (by decide))
  have hR1 : Kd.R (Kd.int .u8) 5 W1 base (fun k => ok k ∧ vb.ownBlock = some k) vb b := Kd.R_over' h3 (Kd.S_typed h4) (by decide) hg
  exact ⟨hb1.set1 v2, ⟨h2.1, hok _ h2.2⟩, Kd.R_mono (R_self (Kd.R_set hR1 hb1 (by decide) 1 _)) (fun k hk => ⟨hok k hk.1.1, hk.2⟩), Kd.S_set hS hb1 (by decide) 1 _⟩
theorem IsDv.imgOk (h : IsDv base ok W g vb vl b l cut dead) : ∀ k, vb.ownBlock = some k → ok k := fun k hk => (h.2.2.1.1 k hk).1
theorem IsDv.logOk (h : IsDv base ok W g vb vl b l cut dead) : ∀ k, vl.ownBlock = some k → ok k := fun k hk => by
  obtain ⟨f, h0⟩ := h.2.2.2
  exact (h0.1 k hk).1
theorem IsDv.keepsB (h : IsDv base ok W g vb vl b l cut dead) (hg : W.grownBy W1 vb.ownBlock) : KeepsOthers W W1 := keeps_R h.2.2.1 hg
theorem IsDv.keepsL (h : IsDv base ok W g vb vl b l cut dead) (hg : W.grownBy W1 vl.ownBlock) : KeepsOthers W W1 := keeps_S h.2.2.2 hg
end

/-- a disk's state, in plain data -/
structure DS where
  b : List Int
  l : List S31
  cut : Int
  dead : Bool
def secOf (x : List Int) (j : Nat) : List Int := (x.take ((j + 1) * 512)).drop (j * 512)
theorem secOf_length (x : List Int) (j : Nat) (hx : x.length = 1024) (hj : j < 2) : (secOf x j).length = 512 := by
  unfold secOf
  rw [List.length_drop, List.length_take]
  omega
/-- a sector is written -/
def stepW (k : Nat) (x : List Int) (s : DS) (j : Nat) : DS := ⟨Go.splice s.b ((k * 2 + j) * 512) (secOf x j), s.l ++ [⟨((k * 2 + j : Nat) : Int), secOf x j⟩], if 0 < s.cut then s.cut - 1 else s.cut, s.dead⟩
/-- sectors are written, until the power fails -/
def runW (k : Nat) (x : List Int) : List Nat → DS → DS × Bool
  | [], s => (s, true)
  | j :: js, s => if s.cut = 0 then ({ s with dead := true }, false) else runW k x js (stepW k x s j)
/-- all sectors of js are written -/
def foldW (k : Nat) (x : List Int) (js : List Nat) (s : DS) : DS := js.foldl (stepW k x) s
theorem foldW_snoc (k : Nat) (x : List Int) (js : List Nat) (s : DS) (j : Nat) : foldW k x (js ++ [j]) s = stepW k x (foldW k x js s) j := by unfold foldW; rw [List.foldl_append]; rfl
/-- none of them found the power cut -/
def GoesW (k : Nat) (x : List Int) : List Nat → DS → Prop
  | [], _ => True
  | j :: js, s => s.cut ≠ 0 ∧ GoesW k x js (stepW k x s j)
theorem GoesW_snoc (k : Nat) (x : List Int) : ∀ (js : List Nat) (s : DS) (j : Nat), GoesW k x js s → (foldW k x js s).cut ≠ 0 → GoesW k x (js ++ [j]) s
  | [], s, j, _, h => ⟨h, trivial⟩
  | i :: js, s, j, h1, h => ⟨h1.1, GoesW_snoc k x js _ j h1.2 h⟩
theorem runW_done (k : Nat) (x : List Int) : ∀ (js : List Nat) (s : DS), GoesW k x js s → runW k x js s = (foldW k x js s, true)
  | [], s, _ => rfl
  | j :: js, s, h => by
    rw [runW, if_neg h.1, runW_done k x js _ h.2]
    rfl
theorem runW_stop (k : Nat) (x : List Int) : ∀ (js : List Nat) (s : DS) (j : Nat) (r : List Nat), GoesW k x js s → (foldW k x js s).cut = 0 → runW k x (js ++ j :: r) s = ({ foldW k x js s with dead := true }, false)
  | [], s, j, r, _, h => by
    have h : s.cut = 0 := h
    rw [List.nil_append, runW, if_pos h]
    rfl
  | i :: js, s, j, r, h1, h => by
    rw [List.cons_append, runW, if_neg h1.1, runW_stop k x js _ j r h1.2 h]
    rfl
theorem stepW_length (k : Nat) (x : List Int) (s : DS) (j : Nat) (hx : x.length = 1024) (hj : j < 2) (hk : k < s.b.length / 1024) : (stepW k x s j).b.length = s.b.length := by
  have := secOf_length x j hx hj
  simp only [stepW, Go.splice, List.length_append, List.length_take, List.length_drop]
  omega
theorem foldW_length (k : Nat) (x : List Int) (hx : x.length = 1024) : ∀ (js : List Nat) (s : DS), (∀ j ∈ js, j < 2) → k < s.b.length / 1024 → (foldW k x js s).b.length = s.b.length ∧ (foldW k x js s).l.length = s.l.length + js.length ∧ (foldW k x js s).dead = s.dead
  | [], s, _, _ => ⟨rfl, rfl, rfl⟩
  | j :: js, s, hj, hk => by
    have h1 := stepW_length k x s j hx (hj j (by simp)) hk
    have h2 := foldW_length k x hx js (stepW k x s j) (fun i hi => hj i (by simp [hi])) (by rw [h1]; exact hk)
    refine ⟨h2.1.trans h1, ?_, h2.2.2⟩
    have := h2.2.1
    simp only [stepW, List.length_append, List.length_cons, List.length_nil] at this ⊢
    rw [show foldW k x (j :: js) s = foldW k x js (stepW k x s j) from rfl]
    simp only [stepW]
    omega
section
variable {base : Nat} {ok : Nat → Prop} {V V1 w1 : World} {g : Nat} {vb vl v9 v1 : Value} {b y : List Int} {l : List S31} {cut n : Int} {dead : Bool}
def okS (ok : Nat → Prop) (vb : Value) (k : Nat) : Prop := ok k ∧ vb.ownBlock ≠ some k
def okP (V V1 : World) (k : Nat) : Prop := V.heap.size ≤ k ∧ k < V1.heap.size
/-- what an append to the log asks -/
theorem IsDv.pushes (h : IsDv base ok V g vb vl b l cut dead) (hok : ∀ k, V.heap.size ≤ k → ok k) (hbs : base ≤ V.heap.size) (hb : Below V.heap.size V V1) (hR : Kd.R (Kd.int .u8) 5 V1 V.heap.size (fun _ => True) v9 y) :
    k31.M V1 base (okP V V1) ⟨n, y⟩ [.int .i64 n, v9] ∧ (∀ k, okP V V1 k → okS ok vb k ∧ some k ≠ vl.ownBlock) ∧ (∀ k, V1.heap.size ≤ k → okS ok vb k) ∧ Kd.S k31 73 V1 base (fun k => okS ok vb k ∧ ¬ okP V V1 k) vl l := by
  have hbl : ∀ k, vb.ownBlock = some k → k < V.heap.size := Kd.R_lt h.2.2.1
  have hll : ∀ k, vl.ownBlock = some k → k < V.heap.size := Kd.S_lt h.2.2.2
  have hz := hb.size
  refine ⟨k31_mkM _ _ _ ⟨n, y⟩ (Kd.R_mono (Kd.R_lower (Kd.R_bound hR) hbs) (fun k hk => ⟨hk.2.1, hk.2.2.1⟩)), fun k hk => ⟨⟨hok k hk.1, fun e => ?_⟩, fun e => ?_⟩, fun k hk => ⟨hok k (by omega), fun e => ?_⟩, ?_⟩
  · have := hbl k e
    have := hk.1
    omega
  · have := hll k e.symm
    have := hk.1
    omega
  · have := hbl k e
    omega
  · exact Kd.S_mono (Kd.S_below (Kd.S_bound h.2.2.2) hb) (fun k hk => ⟨hk.1, fun h2 => by have := h2.1; have := hk.2.2.1; omega⟩)
/-- the log has grown by one -/
theorem IsDv.pushed {l2 : List S31} (h : IsDv base ok V g vb vl b l cut dead) (hok : ∀ k, V.heap.size ≤ k → ok k) (hb : Below V.heap.size V V1) (hS : Kd.S k31 73 w1 base (okS ok vb) v1 l2) (hg : V1.grownBy w1 vl.ownBlock) :
    IsDv base ok (w1.setCell ⟨g, 1, none⟩ v1) g vb v1 b l2 cut dead ∧ Off ok V (w1.setCell ⟨g, 1, none⟩ v1) ∧ KeepsOthers V (w1.setCell ⟨g, 1, none⟩ v1) := by
  have h1 := h.below hb
  refine ⟨h1.logged (fun _ hk => hk) hg hS, ?_, ?_⟩
  · exact ((Off.of_below hb ok).grown hg (fun k hk => .inl (h.logOk k hk))).setCell (.inl h.2.1.2) _
  · exact ((keeps_below hb).trans (h1.keepsL hg)).trans (KeepsOthers.setCell _ _ _)
theorem IsD.noncells (h : IsD base ok V g b l cut dead) {row : Option Nat} (hg : V.grownBy V1 row) (hr : ∀ r, row = some r → ∃ o : Obj, V.heap[r]? = some o ∧ o.isCells = false) : IsD base ok V1 g b l cut dead := by
  obtain ⟨vb, vl, h1, h2, h3, h4⟩ := h
  refine ⟨vb, vl, h1.grown hg (fun e => ?_), h2, R_noncells h3 hg hr, S_noncells h4 hg hr⟩
  obtain ⟨o, ho, hc⟩ := hr g e.symm
  rw [show V.heap[g]? = _ from h1] at ho
  cases ho
  cases hc
theorem IsDv.toks {ok' : Nat → Prop} (h : IsDv base ok V g vb vl b l cut dead) (hok : ∀ k, ok k → ok' k) : IsDv base ok' V g vb vl b l cut dead := by
  obtain ⟨h1, h2, h3, h4⟩ := h
  exact ⟨h1, ⟨h2.1, hok _ h2.2⟩, Kd.R_mono h3 (fun k hk => ⟨hok k hk.1, hk.2⟩), Kd.S_mono h4 (fun k hk => ⟨hok k hk.1, hk.2⟩)⟩
end
theorem foldW_cut (k : Nat) (x : List Int) : ∀ (js : List Nat) (s : DS), (foldW k x js s).cut ≤ s.cut
  | [], s => Int.le_refl _
  | j :: js, s => by
    have := foldW_cut k x js (stepW k x s j)
    have h2 : (stepW k x s j).cut ≤ s.cut := by simp only [stepW]; split <;> omega
    exact Int.le_trans this h2
/-- what a write makes of a disk -/
def writeD (k : Int) (x : List Int) (s : DS) : DS × Bool :=
  if (!s.dead && decide (0 ≤ k ∧ k < ((s.b.length / 1024 : Nat) : Int))) = true ∧ x.length = 1024 then runW k.toNat x [0, 1] s else (s, false)

theorem info31 : (Try.prog.info? 73).map (fun i => (i.zero, i.size, i.bytes)) = some (some (.agg #[.int .i64 0, .slice none 0 0]), 2, 32) := by kernel_rfl
theorem slice_from (A : Option Addr) (n c f : Nat) (hf : f < n) (hc : n ≤ c) :
    ∀ W : World, (Instr.slice 28 (.slice A n c) (some (.int .i64 (f : Int))) none none).run Try.prog W = .ok (.slice (A.map (fun x => x.add f)) (n - f) (c - f)) W := by
  intro W
  obtain ⟨i, hi, hz⟩ := one5
  have := cut_from (P := Try.prog) 28 5 .i64 Try.underlying28 hi 1 hz A n c (f : Int) (by omega) (by omega) W
  rw [Int.toNat_natCast, if_neg (by omega), Nat.mul_one] at this
  exact this
end Go.Proofs.Ythcafgjcgikgpaa.Given
