/- A disk as a whole: its image and its log are rows of its own; disk.New. -/
import Derived.Test.YthcafgjcgikgpaaE1
namespace Go.Proofs.Ythcafgjcgikgpaa.Given
open Go.RowKit Go.Proofs.YthcafgjcgikgpaaW.PrintWords Go.Proofs.YthcafgjcgikgpaaW.PrintLast Go.Proofs.YthcafgjcgikgpaaW.PrintMore Go.Proofs.YthcafgjcgikgpaaBase
attribute [local go_sem] max2_int min2_int max_two min_two
set_option linter.unusedVariables false
set_option linter.unusedSimpArgs false

/-- the disk at block g: its image b, its log l, the sectors that are written yet, the power; all its blocks are of ok -/
def IsD (base : Nat) (ok : Nat → Prop) (W : World) (g : Nat) (b : List Int) (l : List S31) (cut : Int) (dead : Bool) : Prop :=
  ∃ vb vl, IsB W g vb vl cut dead ∧ (base ≤ g ∧ ok g) ∧ Kd.R (Kd.int .u8) 5 W base (fun k => ok k ∧ vb.ownBlock = some k) vb b ∧ Kd.S k31 73 W base (fun k => ok k ∧ vb.ownBlock ≠ some k) vl l
theorem R_self {k : IntKind} {e base : Nat} {W : World} {ok : Nat → Prop} {v : Value} {xs : List Int} (h : Kd.R (Kd.int k) e W base ok v xs) : Kd.R (Kd.int k) e W base (fun i => ok i ∧ v.ownBlock = some i) v xs :=
  Kd.R_of_own (Kd.own_of_R h) (fun i hi => ⟨h.1 i hi, hi⟩)
section
variable {base : Nat} {ok : Nat → Prop} {W W1 : World} {g : Nat} {b : List Int} {l : List S31} {cut : Int} {dead : Bool}
theorem IsD.mono {ok' : Nat → Prop} (h : IsD base ok W g b l cut dead) (hok : ∀ k, ok k → ok' k) : IsD base ok' W g b l cut dead := by
  obtain ⟨vb, vl, h1, h2, h3, h4⟩ := h
  exact ⟨vb, vl, h1, ⟨h2.1, hok _ h2.2⟩, Kd.R_mono h3 (fun k hk => ⟨hok k hk.1, hk.2⟩), Kd.S_mono h4 (fun k hk => ⟨hok k hk.1, hk.2⟩)⟩
/-- what stands at the disk's blocks has not changed -/
theorem IsD.move (h : IsD base ok W g b l cut dead) (hm : ∀ k, ok k → W1.heap[k]? = W.heap[k]?) : IsD base ok W1 g b l cut dead := by
  obtain ⟨vb, vl, h1, h2, h3, h4⟩ := h
  exact ⟨vb, vl, (hm g h2.2).trans h1, h2, Kd.R_move h3 (fun k hk => hm k hk.1), Kd.S_move h4 (fun k hk => hm k hk.1)⟩
/-- the disk's blocks are there -/
theorem IsD.bound (h : IsD base ok W g b l cut dead) : IsD base (fun k => ok k ∧ base ≤ k ∧ k < W.heap.size) W g b l cut dead := by
  obtain ⟨vb, vl, h1, h2, h3, h4⟩ := h
  exact ⟨vb, vl, h1, ⟨h2.1, h2.2, h2.1, h1.lt⟩, Kd.R_mono (Kd.R_bound h3) (fun k hk => ⟨⟨hk.1.1, hk.2.1, hk.2.2.1⟩, hk.1.2⟩), Kd.S_mono (Kd.S_bound h4) (fun k hk => ⟨⟨hk.1.1, hk.2.1, hk.2.2.1⟩, hk.1.2⟩)⟩
theorem IsD.below (h : IsD base ok W g b l cut dead) (hw : Below W.heap.size W W1) : IsD base ok W1 g b l cut dead := by
  obtain ⟨vb, vl, h1, h2, h3, h4⟩ := h
  exact ⟨vb, vl, h1.below hw, h2, Kd.R_below h3 hw, Kd.S_below h4 hw⟩
theorem IsD.alloc (h : IsD base ok W g b l cut dead) (o : Obj) : IsD base ok (W.alloc o) g b l cut dead := h.below (below_alloc (Below.refl _ _) o)
theorem IsD.drewN (h : IsD base ok W g b l cut dead) (m : Nat) : IsD base ok (W.drewN m) g b l cut dead := h.below (pw_below_drewN (Below.refl _ _) m)
theorem IsD.lower {base' : Nat} (h : IsD base ok W g b l cut dead) (hb : base' ≤ base) : IsD base' ok W g b l cut dead := by
  obtain ⟨vb, vl, h1, h2, h3, h4⟩ := h
  exact ⟨vb, vl, h1, ⟨by omega, h2.2⟩, Kd.R_lower h3 hb, Kd.S_lower h4 hb⟩
theorem IsD.set2 (h : IsD base ok W g b l cut dead) (x : Int) : IsD base ok (W.setCell ⟨g, 2, none⟩ (.int .i64 x)) g b l x dead := by
  obtain ⟨vb, vl, h1, h2, h3, h4⟩ := h
  exact ⟨vb, vl, h1.set2 x, h2, Kd.R_mono (R_self (Kd.R_set h3 h1 (by decide) 2 _)) (fun k hk => ⟨hk.1.1, hk.2⟩), Kd.S_set h4 h1 (by decide) 2 _⟩
theorem IsD.set3 (h : IsD base ok W g b l cut dead) (x : Bool) : IsD base ok (W.setCell ⟨g, 3, none⟩ (.bool x)) g b l cut x := by
  obtain ⟨vb, vl, h1, h2, h3, h4⟩ := h
  exact ⟨vb, vl, h1.set3 x, h2, Kd.R_mono (R_self (Kd.R_set h3 h1 (by decide) 3 _)) (fun k hk => ⟨hk.1.1, hk.2⟩), Kd.S_set h4 h1 (by decide) 3 _⟩
end

def blocksOf (n : Int) : Nat := if 0 < n then (if 20000 < n then 20000 else n.toNat) else 0
set_option maxRecDepth 100000 in
set_option maxHeartbeats 1000000 in
theorem new_calls (n : Int) (w : World) :
    Calls Try.prog 10 #[.int .i64 n] w fun e w' => ∃ g, e = .returned (.pointer (some ⟨g, 0, none⟩)) ∧ IsD w.heap.size (fun k => w.heap.size ≤ k) w' g (List.replicate (blocksOf n * 1024) 0) [] (-1) false ∧ Below w.heap.size w w' := by
  have hfin : ∀ m : Nat, m ≤ 20000 → IsD w.heap.size (fun k => w.heap.size ≤ k) ((w.alloc (.cells (madeCells #[.int .u8 0] (m * 1024)) 5)).alloc (.cells #[.slice (some ⟨w.heap.size, 0, none⟩) (m * 1024) (m * 1024), .slice none 0 0, .int .i64 (-1), .bool false] 60)) (w.heap.size + 1) (List.replicate (m * 1024) 0) [] (-1) false ∧
      Below w.heap.size w ((w.alloc (.cells (madeCells #[.int .u8 0] (m * 1024)) 5)).alloc (.cells #[.slice (some ⟨w.heap.size, 0, none⟩) (m * 1024) (m * 1024), .slice none 0 0, .int .i64 (-1), .bool false] 60)) := by
    intro m hm
    have ho := own_made' w w.heap.size 5 .u8 (m * 1024) (Nat.le_refl _) (by omega)
    have hr : Kd.R (Kd.int .u8) 5 (w.alloc (.cells (madeCells #[.int .u8 0] (m * 1024)) 5)) w.heap.size (fun i => w.heap.size ≤ i ∧ (Value.slice (some ⟨w.heap.size, 0, none⟩) (m * 1024) (m * 1024)).ownBlock = some i) (.slice (some ⟨w.heap.size, 0, none⟩) (m * 1024) (m * 1024)) (List.replicate (m * 1024) 0) := Kd.R_of_own ho (fun i hi => ⟨(by simp only [Value.ownBlock, Option.some.injEq] at hi; omega), hi⟩)
    have hb := heap_alloc_new (w.alloc (.cells (madeCells #[.int .u8 0] (m * 1024)) 5)) (.cells #[.slice (some ⟨w.heap.size, 0, none⟩) (m * 1024) (m * 1024), .slice none 0 0, .int .i64 (-1), .bool false] 60)
    rw [World.size_alloc] at hb
    exact ⟨⟨_, _, hb, ⟨by omega, by omega⟩, Kd.R_alloc hr _, Kd.S_nil _ _ _ _ _⟩, below_alloc (below_alloc (Below.refl _ _) _) _⟩
  have HF := Lib.hid hfin
  clear hfin
  have hmk : ∀ (m : Nat), m ≤ 20000 → ∀ z : Int, z = ((m * 1024 : Nat) : Int) → ∀ W : World, (Instr.makeSlice 28 (.int .i64 z) (.int .i64 z)).run Try.prog W = .ok (.slice (some ⟨W.heap.size, 0, none⟩) (m * 1024) (m * 1024)) (W.alloc (.cells (madeCells #[.int .u8 0] (m * 1024)) 5)) :=
    fun m hm z hz W => by
      have := print_make_int (P := Try.prog) 28 5 (.int .u8 0) 1 Try.underlying28 info5 rfl (by decide) z (by omega) (by omega) W
      rwa [show z.toNat = m * 1024 by omega] at this
  by_cases c1 : 0 < n
  · by_cases c2 : ¬ 20000 < n
    · obtain ⟨m, rfl⟩ : ∃ m : Nat, n = m := ⟨n.toNat, by omega⟩
      have hq : wrap64 ((m : Int) * 1024) = (m : Int) * 1024 := by unfold wrap64; omega
      have hm := hmk m (by omega) ((m : Int) * 1024) (by omega)
      have hf : blocksOf (m : Int) = m := by unfold blocksOf; rw [if_pos c1, if_neg c2]; omega
      rw [hf]
      have hc : m ≤ 20000 := by omega
      clear hmk hf
      go_enter Try.func10, Try.ntmps10
      go_wp2
      go_ret
      exact ⟨_, rfl, HF.out m hc⟩
    · have c2 : 20000 < n := by omega
      obtain ⟨M, hM⟩ : ∃ M : Nat, 20000 = M := ⟨_, rfl⟩
      have hm := hmk M (by omega) 20480000 (by omega)
      have hf : blocksOf n = M := by unfold blocksOf; rw [if_pos c1, if_pos c2, hM]
      rw [hf]
      clear hmk hf
      go_enter Try.func10, Try.ntmps10
      go_wp2
      go_ret
      exact ⟨_, rfl, HF.out M (by omega)⟩
  · have hm := hmk 0 (by omega) 0 (by omega)
    have hf : blocksOf n = 0 := by unfold blocksOf; rw [if_neg c1]
    rw [hf]
    clear hmk hf
    go_enter Try.func10, Try.ntmps10
    go_wp2
    go_ret
    exact ⟨_, rfl, HF.out 0 (by omega)⟩
end Go.Proofs.Ythcafgjcgikgpaa.Given
