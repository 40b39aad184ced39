/- A disk's block in memory, and its small functions: Cut, Start, Dead, Blocks, there; slices.Clone of bytes; Image. -/
import Derived.Test.YthcafgjcgikgpaaBase
import Derived.Test.YthcafgjcgikgpaaBaseIn
import Derived.Test.YthcafgjcgikgpaaKinds
import Derived.Test.YthcafgjcgikgpaaWMore
import Derived.Lib.Hide
namespace Go.Proofs.Ythcafgjcgikgpaa.Given
open Go.RowKit Go.Proofs.YthcafgjcgikgpaaW.PrintWords Go.Proofs.YthcafgjcgikgpaaW.PrintLast Go.Proofs.YthcafgjcgikgpaaW.PrintMore Go.Proofs.YthcafgjcgikgpaaBase
attribute [local go_sem] max2_int min2_int max_two min_two
set_option linter.unusedVariables false
set_option linter.unusedSimpArgs false

/-- the disk's block: its image, its log, the power -/
def IsB (W : World) (g : Nat) (vb vl : Value) (cut : Int) (dead : Bool) : Prop := W.heap[g]? = some (.cells #[vb, vl, .int .i64 cut, .bool dead] 60 (0, 0))
theorem IsB.c0 {W g vb vl cut dead} (h : IsB W g vb vl cut dead) : W.cell? ⟨g, 0, none⟩ = some vb := (blk_cell h 0).trans rfl
theorem IsB.c1 {W g vb vl cut dead} (h : IsB W g vb vl cut dead) : W.cell? ⟨g, 1, none⟩ = some vl := (blk_cell h 1).trans rfl
theorem IsB.c2 {W g vb vl cut dead} (h : IsB W g vb vl cut dead) : W.cell? ⟨g, 2, none⟩ = some (.int .i64 cut) := (blk_cell h 2).trans rfl
theorem IsB.c3 {W g vb vl cut dead} (h : IsB W g vb vl cut dead) : W.cell? ⟨g, 3, none⟩ = some (.bool dead) := (blk_cell h 3).trans rfl

set_option maxRecDepth 100000 in
theorem blocks_calls (g : Nat) (A : Option Addr) (n c : Nat) (vl : Value) (cut : Int) (dead : Bool) (w : World) (h : IsB w g (.slice A n c) vl cut dead) (hn : n ≤ 140737488355328) :
    Calls Try.prog 39 #[.pointer (some ⟨g, 0, none⟩)] w fun e w' => e = .returned (.int .i64 ((n / 1024 : Nat) : Int)) ∧ Drawn0 w w' := by
  have b0 := h.c0
  have hq : wrap64 ((n : Int) / 1024) = ((n / 1024 : Nat) : Int) := by unfold wrap64; omega
  go_enter Try.func39, Try.ntmps39
  go_wp2
  go_ret
  exact ⟨by simp [hq], Drawn0.refl _⟩
theorem IsB.set2 {W g vb vl cut dead} (h : IsB W g vb vl cut dead) (x : Int) : IsB (W.setCell ⟨g, 2, none⟩ (.int .i64 x)) g vb vl x dead := by
  unfold IsB at h ⊢
  simpa using blk_set h 2 (.int .i64 x)
theorem IsB.set3 {W g vb vl cut dead} (h : IsB W g vb vl cut dead) (x : Bool) : IsB (W.setCell ⟨g, 3, none⟩ (.bool x)) g vb vl cut x := by
  unfold IsB at h ⊢
  simpa using blk_set h 3 (.bool x)
theorem IsB.set1 {W g vb vl cut dead} (h : IsB W g vb vl cut dead) (v : Value) : IsB (W.setCell ⟨g, 1, none⟩ v) g vb v cut dead := by
  unfold IsB at h ⊢
  simpa using blk_set h 1 v
theorem IsB.lt {W g vb vl cut dead} (h : IsB W g vb vl cut dead) : g < W.heap.size := blk_lt h
theorem IsB.grown {W W1 : World} {row : Option Nat} {g vb vl cut dead} (h : IsB W g vb vl cut dead) (hw : W.grownBy W1 row) (hne : some g ≠ row) : IsB W1 g vb vl cut dead := blk_grown h hw hne
theorem IsB.below {W W1 : World} {g vb vl cut dead} (h : IsB W g vb vl cut dead) (hw : Below W.heap.size W W1) : IsB W1 g vb vl cut dead := h.grown (grown_of_below hw none) (by simp)

set_option maxRecDepth 100000 in
theorem cut_calls (g : Nat) (vb vl : Value) (cut n : Int) (dead : Bool) (w : World) (h : IsB w g vb vl cut dead) :
    Calls Try.prog 23 #[.pointer (some ⟨g, 0, none⟩), .int .i64 n] w fun e w' => e = .returned (.tuple #[]) ∧ w' = w.setCell ⟨g, 2, none⟩ (.int .i64 (if (-1 : Int) < n then n else -1)) := by
  obtain ⟨m, hm⟩ : ∃ m : Int, (if (-1 : Int) < n then n else -1) = m := ⟨_, rfl⟩
  rw [hm]
  have b2 := h.c2
  have f2 := blk_frozen h 2
  go_enter Try.func23, Try.ntmps23
  go_wp2
  go_end0
  exact ⟨rfl, rfl⟩
set_option maxRecDepth 100000 in
theorem start_calls (g : Nat) (vb vl : Value) (cut : Int) (dead : Bool) (w : World) (h : IsB w g vb vl cut dead) :
    Calls Try.prog 24 #[.pointer (some ⟨g, 0, none⟩)] w fun e w' => e = .returned (.tuple #[]) ∧ IsB w' g vb vl (-1) false ∧ w' = (w.setCell ⟨g, 3, none⟩ (.bool false)).setCell ⟨g, 2, none⟩ (.int .i64 (-1)) := by
  have b3 := h.c3
  have f3 := blk_frozen h 3
  have h1 := h.set3 false
  have b2 := h1.c2
  have f2 := blk_frozen h1 2
  have HR := Lib.hid (h1.set2 (-1))
  clear h h1
  go_enter Try.func24, Try.ntmps24
  go_wp2
  go_end0
  exact ⟨rfl, HR.out, rfl⟩
set_option maxRecDepth 100000 in
theorem there_calls (g : Nat) (A : Option Addr) (n c : Nat) (vl : Value) (cut k : Int) (dead : Bool) (w : World) (h : IsB w g (.slice A n c) vl cut dead) (hn : n ≤ 140737488355328) :
    Calls Try.prog 33 #[.pointer (some ⟨g, 0, none⟩), .int .i64 k] w fun e w' => e = .returned (.bool (!dead && decide (0 ≤ k ∧ k < ((n / 1024 : Nat) : Int)))) ∧ Drawn0 w w' := by
  have b3 := h.c3
  have H := Lib.hid h
  clear h
  cases dead with
  | true =>
    go_enter Try.func33, Try.ntmps33
    go_wp2
    go_ret
    exact ⟨rfl, Drawn0.refl _⟩
  | false =>
    by_cases hk : 0 ≤ k
    · have t1 : decide (k ≥ 0) = true := decide_eq_true hk
      have t2 : decide (0 ≤ k) = true := decide_eq_true hk
      go_enter Try.func33, Try.ntmps33
      go_wp2_with (first | (go_at_call 39; refine (blocks_calls g A n c vl cut false _ H.out hn).mono ?_; rintro e w' ⟨rfl, hd⟩; obtain ⟨nd, rfl⟩ := hd))
      go_ret
      exact ⟨by simp [hk], by repeat (first | exact Drawn0.refl _ | exact ⟨_, rfl⟩ | apply Drawn0.step)⟩
    · have t1 : decide (k ≥ 0) = false := decide_eq_false hk
      have t2 : decide (0 ≤ k) = false := decide_eq_false hk
      go_enter Try.func33, Try.ntmps33
      go_wp2
      go_ret
      exact ⟨by simp [hk], Drawn0.refl _⟩

theorem info5 : (Try.prog.info? 5).map (fun i => (i.zero, i.size, i.bytes)) = some (some (.int .u8 0), 1, 1) := by kernel_rfl
set_option maxRecDepth 100000 in
set_option maxHeartbeats 1000000 in
theorem clone_calls (A0 : Option Addr) (c0 : Nat) (l0 : List Int) (w : World) (hr0 : Kd.C (Kd.int .u8) w A0 l0.length l0) (hc0 : l0.length ≤ c0) (hlen : l0.length < 140737488351232) :
    Calls Try.prog 31 #[.slice A0 l0.length c0] w fun e w' => ∃ v0_ : Value, e = .returned (v0_) ∧ Kd.R (Kd.int .u8) 5 w' w.heap.size (fun _ => True) v0_ l0 ∧ Below w.heap.size w w' := by
  have heq := fun (w : World) (a : Option Addr) (n c : Nat) => Lib.run_eql_slice_nil (P := Try.prog) w 28 5 a n c 0 0 Try.underlying28
  cases A0 with
  | none =>
    have hl : l0 = [] := by
      have := hr0.2.2
      cases l0 with
      | nil => rfl
      | cons x l => obtain ⟨ad, e, _⟩ := this (by simp); cases e
    subst hl
    clear hr0 hc0
    go_enter Try.func31, Try.ntmps31
    go_wp2
    go_ret
    exact ⟨_, rfl, Kd.R_nil _ _ _ _ _, Below.refl _ _⟩
  | some ad =>
    have HC := Lib.hid hr0
    clear hr0
    have HO : Hid (Kd.R (Kd.int .u8) 5 (w.alloc (.cells #[] 5)) w.heap.size (fun _ => True) (.slice (some ⟨w.heap.size, 0, none⟩) 0 0) []) := Lib.hid (R_of_block (xs := []) (blk_new w (.cells #[] 5)) (Nat.le_refl _) trivial (by simp))
    go_enter Try.func31, Try.ntmps31
    go_wp2_with (at_builtin; refine Kd.R_append_rows (Kd.int .u8) (w0 := w) w.heap.size rfl (.tmp 5) (.tmp 6) 28 5 (.int .u8 0) 1 rfl Try.underlying28 info5 rfl (by decide) (by omega) (.slice (some ⟨w.heap.size, 0, none⟩) 0 0) [] l0 _ _ c0 (fun _ => True) (fun _ => False) rfl rfl HO.out (Kd.C_alloc HC.out _) (fun _ _ h => h) (fun _ h => h.elim) (fun _ _ => trivial) ((Below.refl _ w).alloc (Nat.le_refl _) _) (by simp) (by simp; omega) ?_; intro v1 w1 hown hb1 hg hat)
    obtain ⟨A1, c1, rfl⟩ := Kd.R_slice hown
    go_wp2
    go_ret
    exact ⟨_, rfl, by simpa using hown, hb1⟩

set_option maxRecDepth 100000 in
theorem image_calls (g : Nat) (A : Option Addr) (c : Nat) (b : List Int) (vl : Value) (cut : Int) (dead : Bool) (w : World) (h : IsB w g (.slice A b.length c) vl cut dead) (hC : Kd.C (Kd.int .u8) w A b.length b) (hc : b.length ≤ c) (hn : b.length < 140737488351232) :
    Calls Try.prog 25 #[.pointer (some ⟨g, 0, none⟩)] w fun e w' => ∃ v : Value, e = .returned v ∧ Kd.R (Kd.int .u8) 5 w' w.heap.size (fun _ => True) v b ∧ Below w.heap.size w w' := by
  have b0 := h.c0
  have HC := Lib.hid hC
  clear h hC
  go_enter Try.func25, Try.ntmps25
  go_wp2_with (first | (go_at_call 31; refine (clone_calls A c b _ HC.out hc hn).mono ?_; rintro e w' ⟨v, rfl, hR, hb⟩; have HR := Lib.hid hR; have HB := Lib.hid hb; clear hR hb))
  go_ret
  exact ⟨_, rfl, HR.out, HB.out⟩
end Go.Proofs.Ythcafgjcgikgpaa.Given
