/- The allocator with what is taken; the document's example; AllocGroups answers true. -/
import Derived.Test.YtppjeikkodjjhaaA6
import Derived.Test.YtppjeikkodjjhaaA9
import Derived.Deep.QuietTactic
import Derived.BigQuiet
namespace Go.Proofs.Ytppjeikkodjjhaa.Given
open Go.RowKit Go.Shelf Go.Proofs.YtppjeikkodjjhaaW.PrintWords Go.Proofs.YtppjeikkodjjhaaW.PrintLast Go.Proofs.YtppjeikkodjjhaaW.PrintMore Go.Proofs.YtppjeikkodjjhaaBase Go.Proofs.Ytppjeikkodjjhaa.PGeo Go.Proofs.Ytppjeikkodjjhaa.PGet Go.Proofs.Ytppjeikkodjjhaa.PWith
set_option linter.unusedVariables false
set_option linter.unusedSimpArgs false

/-- the allocator at block g: n groups of p inodes and q blocks, and which are taken -/
def IsAA (base : Nat) (ok : Nat → Prop) (W : World) (g : Nat) (gr i d : Int) (n p q : Nat) (li ld : List Bool) : Prop := ∃ gs, IsA base ok W g gr i d gs ∧ AOk gr i d n p q gs li ld
section
variable {base : Nat} {ok : Nat → Prop} {w W W1 : World} {g n p q : Nat} {gr i d : Int} {li ld : List Bool}
theorem IsAA.mono {ok' : Nat → Prop} (h : IsAA base ok W g gr i d n p q li ld) (hok : ∀ k, ok k → ok' k) : IsAA base ok' W g gr i d n p q li ld := by
  obtain ⟨gs, h1, h2⟩ := h
  exact ⟨gs, h1.mono hok, h2⟩
theorem IsAA.bound (h : IsAA base ok W g gr i d n p q li ld) : IsAA base (fun k => ok k ∧ base ≤ k ∧ k < W.heap.size) W g gr i d n p q li ld := by
  obtain ⟨gs, h1, h2⟩ := h
  exact ⟨gs, h1.bound, h2⟩
theorem IsAA.below (h : IsAA base ok W g gr i d n p q li ld) (hw : Below W.heap.size W W1) : IsAA base ok W1 g gr i d n p q li ld := by
  obtain ⟨gs, h1, h2⟩ := h
  exact ⟨gs, h1.below hw, h2⟩
theorem IsAA.lower {base' : Nat} (h : IsAA base ok W g gr i d n p q li ld) (hb : base' ≤ base) : IsAA base' ok W g gr i d n p q li ld := by
  obtain ⟨gs, h1, h2⟩ := h
  exact ⟨gs, h1.lower hb, h2⟩
theorem IsAA.off {okn : Nat → Prop} (h : IsAA base ok W g gr i d n p q li ld) (hb : ∀ k, ok k → k < W.heap.size) (ho : Off okn W W1) (hn : ∀ k, ok k → ¬ okn k) : IsAA base ok W1 g gr i d n p q li ld := by
  obtain ⟨gs, h1, h2⟩ := h
  exact ⟨gs, h1.off hb ho hn, h2⟩
theorem IsAA.li_length (h : IsAA base ok W g gr i d n p q li ld) : li.length = n * p := by obtain ⟨gs, _, h2⟩ := h; exact h2.gok.leni
theorem IsAA.ld_length (h : IsAA base ok W g gr i d n p q li ld) : ld.length = n * q := by obtain ⟨gs, _, h2⟩ := h; exact h2.gok.lend
end
/-- the numbers of a geometry; none, if it can't be -/
def gN (gr i d : Int) : Nat := if Fine gr i d then gr.toNat else 0
theorem AOk.new (gr i d : Int) (h : Fine gr i d) : AOk gr i d gr.toNat (i * 16).toNat d.toNat (List.replicate gr.toNat (newG d.toNat)) (List.replicate (gr.toNat * (i * 16).toNat) false) (List.replicate (gr.toNat * d.toNat) false) := by
  obtain ⟨h1, h2, h3, h4, h5, h6⟩ := h
  exact ⟨GOK.new _ _ _ (by omega), fun _ => ⟨by omega, by omega, by omega, h1, h2, h3, h4, h5, h6⟩, fun h0 => by omega⟩
theorem AOk.newNot (gr i d : Int) (h : ¬ Fine gr i d) : AOk gr i d 0 (i * 16).toNat d.toNat [] [] [] :=
  ⟨⟨rfl, by simp, by simp, fun k x hx => by simp at hx⟩, fun h0 => absurd h0 (Nat.lt_irrefl 0), fun _ => h⟩
theorem newA (gr i d : Int) (w : World) :
    Calls Try.prog 8 #[.agg #[.int .i64 gr, .int .i64 i, .int .i64 d]] w fun e w' => ∃ g, e = .returned (.pointer (some ⟨g, 0, none⟩)) ∧
      IsAA w.heap.size (fun k => w.heap.size ≤ k ∧ k < w'.heap.size) w' g gr i d (gN gr i d) (i * 16).toNat d.toNat (List.replicate (gN gr i d * (i * 16).toNat) false) (List.replicate (gN gr i d * d.toNat) false) ∧ Below w.heap.size w w' := by
  by_cases h : Fine gr i d
  · have hg : gN gr i d = gr.toNat := by unfold gN; rw [if_pos h]
    rw [hg]
    have ha := AOk.new gr i d h
    obtain ⟨h1, h2, h3, h4, h5, h6⟩ := h
    refine (new_fine gr i d gr.toNat d.toNat w ⟨h1, h2, h3, h4, h5, h6⟩ (by omega) (by omega)).mono ?_
    rintro e w' ⟨g, rfl, hI, hb⟩
    exact ⟨g, rfl, ⟨_, hI.bound.mono (fun k hk => ⟨hk.1, hk.2.2⟩), ha⟩, hb⟩
  · have hg : gN gr i d = 0 := by unfold gN; rw [if_neg h]
    rw [hg]
    refine (new_not gr i d w h).mono ?_
    rintro e w' ⟨g, rfl, hI, hb⟩
    exact ⟨g, rfl, ⟨[], hI.bound.mono (fun k hk => ⟨hk.1, hk.2.2⟩), by simpa using AOk.newNot gr i d h⟩, hb⟩
section
variable {base : Nat} {ok : Nat → Prop} {w : World} {g n p q : Nat} {gr i d : Int} {li ld : List Bool}
theorem inodeA (from0 : Int) (h : IsAA base ok w g gr i d n p q li ld) (hok : ∀ k, ok k → k < w.heap.size) (hbs : base ≤ w.heap.size) :
    Calls Try.prog 9 #[.pointer (some ⟨g, 0, none⟩), .int .i64 from0] w fun e w' => e = .returned (.tuple #[.int .i64 (optI (nextA li p n from0)), .bool (nextA li p n from0).isSome]) ∧
      IsAA base (fun k => (ok k ∨ w.heap.size ≤ k) ∧ k < w'.heap.size) w' g gr i d n p q (setO li (nextA li p n from0)) ld ∧ Off ok w w' := by
  obtain ⟨gs, h1, h2⟩ := h
  refine (inode_calls g base ok gr i d n p q gs li ld from0 w h1 hok hbs h2).mono ?_
  rintro e w' ⟨gs', rfl, hI, ha, ho⟩
  exact ⟨rfl, ⟨gs', hI.bound.mono (fun k hk => ⟨hk.1, hk.2.2⟩), ha⟩, ho⟩
theorem blockA (from0 : Int) (h : IsAA base ok w g gr i d n p q li ld) (hok : ∀ k, ok k → k < w.heap.size) (hbs : base ≤ w.heap.size) :
    Calls Try.prog 10 #[.pointer (some ⟨g, 0, none⟩), .int .i64 from0] w fun e w' => e = .returned (.tuple #[.int .i64 (optD i q (nextA ld q n from0)), .bool (nextA ld q n from0).isSome]) ∧
      IsAA base (fun k => (ok k ∨ w.heap.size ≤ k) ∧ k < w'.heap.size) w' g gr i d n p q li (setO ld (nextA ld q n from0)) ∧ Off ok w w' := by
  obtain ⟨gs, h1, h2⟩ := h
  refine (block_calls g base ok gr i d n p q gs li ld from0 w h1 hok hbs h2).mono ?_
  rintro e w' ⟨gs', rfl, hI, ha, ho⟩
  exact ⟨rfl, ⟨gs', hI.bound.mono (fun k hk => ⟨hk.1, hk.2.2⟩), ha⟩, ho⟩
end

set_option maxRecDepth 100000 in
set_option maxHeartbeats 400000 in
theorem alive_calls (w : World) : Calls Try.prog 7 #[] w fun e w' => e = .returned (.bool true) ∧ Below w.heap.size w w' := by
  have hnx : nextA (List.replicate (gN 2 1 8 * ((1 : Int) * 16).toNat) false) ((1 : Int) * 16).toNat (gN 2 1 8) 1 = some 16 := by decide
  have HNX := Lib.hid hnx
  clear hnx
  go_enter Try.func7, Try.ntmps7
  go_wp2_with (first | (go_at_call 8; refine (newA 2 1 8 _).mono ?_; rintro e w1 ⟨g, rfl, hA, hb⟩; have HA := Lib.hid hA; have HB := Lib.hid hb; clear hA hb) | (go_at_call 9; refine (inodeA 1 HA.out (fun k hk => hk.2) HB.out.size).mono ?_; rintro e w2 ⟨rfl, hA2, ho⟩; have HB2 := Lib.hid (Off.keepB HB.out ho (fun k hk => hk.1) HB.out.size); rw [HNX.out]; clear hA2 ho))
  go_ret
  exact ⟨by first | rfl | simp [optI], HB2.out⟩

/-! ### AllocGroups -/
theorem mod_inj {N f i k : Nat} (hf : f < N) (hi : i < N) (hk : k < N) (h : (f + i) % N = (f + k) % N) : i = k := by
  have e : ∀ j, j < N → (f + j) % N = if f + j < N then f + j else f + j - N := fun j hj => by
    split
    · exact Nat.mod_eq_of_lt (by assumption)
    · rw [Nat.mod_eq_sub_mod (by omega)]
      exact Nat.mod_eq_of_lt (by omega)
  rw [e i hi, e k hk] at h
  split at h <;> split at h <;> omega
/-- the first k from a start on are taken, round -/
def RotS (l : List Bool) (N f k : Nat) : Prop := l.length = N ∧ ∀ i, i < N → l.getD ((f + i) % N) false = decide (i < k)
theorem RotS.new (N f : Nat) : RotS (List.replicate N false) N f 0 := ⟨List.length_replicate, fun i _ => by rw [replicate_getD]; simp⟩
theorem RotS.next {l : List Bool} {p n f0 k : Nat} (h : RotS l (n * p) (f0 * p) k) (hf : f0 < n) (hp : 0 < p) (hk : k < n * p) :
    nextA l p n (f0 : Int) = some ((f0 * p + k) % (n * p)) ∧ RotS (l.set ((f0 * p + k) % (n * p)) true) (n * p) (f0 * p) (k + 1) := by
  have hff : fromOf n (f0 : Int) = f0 := by unfold fromOf; rw [if_pos (by omega)]; omega
  have hfp : f0 * p < n * p := mul_lt' hf hp
  refine ⟨?_, ?_, ?_⟩
  · have := nextA_some (l := l) (p := p) (n := n) (from0 := (f0 : Int)) (i := k) hk (by rw [hff, h.2 k hk]; simp) (fun j hj => by rw [hff, h.2 j (by omega)]; simpa using hj)
    rwa [hff] at this
  · rw [List.length_set]; exact h.1
  · intro i hi
    have hlt : (f0 * p + k) % (n * p) < l.length := by rw [h.1]; exact Nat.mod_lt _ (by omega)
    rw [List.getD_eq_getElem?_getD]
    by_cases he : (f0 * p + k) % (n * p) = (f0 * p + i) % (n * p)
    · have hik := mod_inj hfp hk hi he
      subst hik
      rw [List.getElem?_set_self hlt]
      simp
    · rw [List.getElem?_set_ne he, ← List.getD_eq_getElem?_getD, h.2 i hi]
      have : i ≠ k := fun e => he (by rw [e])
      simp only [decide_eq_decide]
      omega
end Go.Proofs.Ytppjeikkodjjhaa.Given
