/- The disk's functions over the disk as a whole. -/
import Derived.Test.YthcafgjcgikgpaaE8
namespace Go.Proofs.Ythcafgjcgikgpaa.Given
open Go.RowKit Go.Shelf Go.Proofs.YthcafgjcgikgpaaW.PrintWords Go.Proofs.YthcafgjcgikgpaaW.PrintLast Go.Proofs.YthcafgjcgikgpaaW.PrintMore Go.Proofs.YthcafgjcgikgpaaBase
set_option linter.unusedVariables false
set_option linter.unusedSimpArgs false
section
variable {base : Nat} {ok : Nat → Prop} {g : Nat} {b : List Int} {l : List S31} {cut : Int} {dead : Bool} {w : World}
theorem imageD (h : IsD base ok w g b l cut dead) (hn : b.length < 1000000000) :
    Calls Try.prog 25 #[.pointer (some ⟨g, 0, none⟩)] w fun e w' => ∃ v : Value, e = .returned v ∧ Kd.R (Kd.int .u8) 5 w' w.heap.size (fun _ => True) v b ∧ Below w.heap.size w w' := by
  obtain ⟨vb, vl, hI, hbok, hR, hS⟩ := h
  obtain ⟨A, c, rfl⟩ := Kd.R_slice hR
  exact image_calls g A c b vl cut dead w hI (Kd.R_reads' hR).2.2 (Kd.R_reads' hR).2.1 (by omega)
theorem blocksD (h : IsD base ok w g b l cut dead) (hn : b.length < 1000000000) : Calls Try.prog 39 #[.pointer (some ⟨g, 0, none⟩)] w fun e w' => e = .returned (.int .i64 ((b.length / 1024 : Nat) : Int)) ∧ Drawn0 w w' := by
  obtain ⟨vb, vl, hI, hbok, hR, hS⟩ := h
  obtain ⟨A, c, rfl⟩ := Kd.R_slice hR
  exact blocks_calls g A b.length c vl cut dead w hI (by omega)
def cutOf (n : Int) : Int := if (-1 : Int) < n then n else -1
theorem cutD (n : Int) (h : IsD base ok w g b l cut dead) : Calls Try.prog 23 #[.pointer (some ⟨g, 0, none⟩), .int .i64 n] w fun e w' => e = .returned (.tuple #[]) ∧ IsD base ok w' g b l (cutOf n) dead ∧ Off ok w w' := by
  have h2 := h.set2 (cutOf n)
  obtain ⟨vb, vl, hI, hbok, hR, hS⟩ := h
  refine (cut_calls g vb vl cut n dead w hI).mono ?_
  rintro e w' ⟨rfl, rfl⟩
  exact ⟨rfl, h2, Off.set1 _ _ hbok.2 _⟩
theorem startD (h : IsD base ok w g b l cut dead) : Calls Try.prog 24 #[.pointer (some ⟨g, 0, none⟩)] w fun e w' => e = .returned (.tuple #[]) ∧ IsD base ok w' g b l (-1) false ∧ Off ok w w' := by
  have h2 := (h.set3 false).set2 (-1)
  obtain ⟨vb, vl, hI, hbok, hR, hS⟩ := h
  refine (start_calls g vb vl cut dead w hI).mono ?_
  rintro e w' ⟨rfl, _, rfl⟩
  exact ⟨rfl, h2, (Off.set1 _ _ hbok.2 _).setCell (.inl hbok.2) _⟩
theorem logD (h : IsD base ok w g b l cut dead) (hok : ∀ k, ok k → k < w.heap.size) (hl : l.length < 1000000000) (hb : ∀ x ∈ l, x.f1.length < 1000000000) :
    Calls Try.prog 26 #[.pointer (some ⟨g, 0, none⟩)] w fun e w' => ∃ v0_ : Value, e = .returned (v0_) ∧ Kd.N k31 73 w' w.heap.size (fun k => ok k ∨ w.heap.size ≤ k) v0_ l ∧ Below w.heap.size w w' := by
  obtain ⟨vb, vl, hI, hbok, hR, hS⟩ := h
  obtain ⟨A, c, rfl⟩ := Kd.S_slice hS
  exact log_calls g vb A c l cut dead ok w hI (Kd.F_mono (Kd.S_F hS) (fun _ hk => hk.1)) (Kd.S_reads' hS).2.1 (by omega) hok (fun x hx => by have := hb x hx; omega)
/-- what a read tells -/
def readP (b : List Int) (dead : Bool) (k : Int) : Option (List Int) := if (!dead && decide (0 ≤ k ∧ k < ((b.length / 1024 : Nat) : Int))) = true then some ((b.take ((k.toNat + 1) * 1024)).drop (k.toNat * 1024)) else none
theorem readD (k : Int) (h : IsD base ok w g b l cut dead) (hn : b.length < 1000000000) :
    Calls Try.prog 27 #[.pointer (some ⟨g, 0, none⟩), .int .i64 k] w fun e w' => ∃ v : Value, e = .returned (.tuple #[v, .bool (readP b dead k).isSome]) ∧ Kd.R (Kd.int .u8) 5 w' w.heap.size (fun _ => True) v ((readP b dead k).getD []) ∧ Below w.heap.size w w' := by
  obtain ⟨vb, vl, hI, hbok, hR, hS⟩ := h
  obtain ⟨A, c, rfl⟩ := Kd.R_slice hR
  unfold readP
  by_cases ht : (!dead && decide (0 ≤ k ∧ k < ((b.length / 1024 : Nat) : Int))) = true
  · rw [if_pos ht]
    have ht0 := ht
    simp only [Bool.and_eq_true, Bool.not_eq_true', decide_eq_true_eq] at ht0
    obtain ⟨hd, h0, h1⟩ := ht0
    rw [hd] at hI
    have := read_yes g A c b vl cut k.toNat w hI (Kd.R_reads' hR).2.2 (Kd.R_reads' hR).2.1 (by omega) (by omega)
    rw [show (k.toNat : Int) = k by omega] at this
    exact this
  · rw [if_neg ht]
    refine (read_no g A c b vl cut k dead w hI (by omega) (by simpa using ht)).mono ?_
    rintro e w' ⟨rfl, hd⟩
    exact ⟨_, rfl, Kd.R_nil _ _ _ _ _, hd.below⟩
end
/-- what a write of a disk keeps: lengths -/
theorem runW_keeps (k : Nat) (x : List Int) (hx : x.length = 1024) : ∀ (js : List Nat) (s : DS), (∀ j ∈ js, j < 2) → k < s.b.length / 1024 → (runW k x js s).1.b.length = s.b.length ∧ (runW k x js s).1.l.length ≤ s.l.length + js.length ∧ (-1 ≤ s.cut → -1 ≤ (runW k x js s).1.cut) ∧ (runW k x js s).1.cut ≤ s.cut ∧ ((∀ y ∈ s.l, y.f1.length = 512) → ∀ y ∈ (runW k x js s).1.l, y.f1.length = 512)
  | [], s, _, _ => ⟨rfl, by simp [runW], fun h => h, Int.le_refl _, fun h => h⟩
  | j :: js, s, hj, hk => by
    rw [runW]
    by_cases hc : s.cut = 0
    · rw [if_pos hc]
      exact ⟨rfl, by simp, fun h => h, Int.le_refl _, fun h => h⟩
    · rw [if_neg hc]
      have h1 := stepW_length k x s j hx (hj j (by simp)) hk
      obtain ⟨h2, h3, h4, h5, h6⟩ := runW_keeps k x hx js (stepW k x s j) (fun i hi => hj i (by simp [hi])) (by rw [h1]; exact hk)
      have h7 : (stepW k x s j).l.length = s.l.length + 1 := by simp [stepW]
      refine ⟨h2.trans h1, by simp only [List.length_cons]; omega, fun h => h4 ?_, Int.le_trans h5 ?_, fun h => h6 ?_⟩
      · simp only [stepW]; split <;> omega
      · simp only [stepW]; split <;> omega
      · intro y hy
        simp only [stepW, List.mem_append, List.mem_singleton] at hy
        rcases hy with hy | hy
        · exact h y hy
        · rw [hy]; exact secOf_length x j hx (hj j (by simp))
structure DSok (s : DS) (n m : Nat) : Prop where
  len : s.b.length = n
  log : s.l.length ≤ m
  cut0 : -1 ≤ s.cut
  cut1 : s.cut ≤ 9223372036854775807
  sec : ∀ y ∈ s.l, y.f1.length = 512
theorem DSok.write {s : DS} {n m : Nat} (h : DSok s n m) (k : Int) (x : List Int) : DSok (writeD k x s).1 n (m + 2) := by
  unfold writeD
  split
  case isFalse => exact ⟨h.len, Nat.le_trans h.log (by omega), h.cut0, h.cut1, h.sec⟩
  case isTrue hc =>
    obtain ⟨hc1, hx⟩ := hc
    simp only [Bool.and_eq_true, Bool.not_eq_true', decide_eq_true_eq] at hc1
    obtain ⟨hd, h0, h1⟩ := hc1
    obtain ⟨h2, h3, h4, h5, h6⟩ := runW_keeps k.toNat x hx [0, 1] s (by simp) (by omega)
    exact ⟨h2.trans h.len, Nat.le_trans h3 (by have := h.log; simp; omega), h4 h.cut0, Int.le_trans h5 h.cut1, h6 h.sec⟩
end Go.Proofs.Ythcafgjcgikgpaa.Given
