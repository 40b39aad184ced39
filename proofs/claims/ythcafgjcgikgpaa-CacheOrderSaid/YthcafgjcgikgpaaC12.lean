/- A cache and its disk in the blocks P. -/
import Derived.Test.YthcafgjcgikgpaaC9
namespace Go.Proofs.Ythcafgjcgikgpaa.Given
open Go.RowKit Go.Shelf Go.Proofs.YthcafgjcgikgpaaW.PrintWords Go.Proofs.YthcafgjcgikgpaaW.PrintLast Go.Proofs.YthcafgjcgikgpaaW.PrintMore Go.Proofs.YthcafgjcgikgpaaBase
set_option linter.unusedVariables false
set_option linter.unusedSimpArgs false

/-- a cache and its disk are made of blocks of P -/
def CP (base : Nat) (P : Nat → Prop) (w : World) (cg dg : Nat) (size reads : Int) (L : List Bf) (s : DS) : Prop :=
  ∃ ok okd mb, WC base ok w cg mb (.pointer (some ⟨dg, 0, none⟩)) size reads L ∧ IsD base okd w dg s.b s.l s.cut s.dead ∧ (∀ k, ok k → P k) ∧ (∀ k, okd k → P k) ∧ (∀ k, okd k → ¬ ok k) ∧ (∀ k, P k → base ≤ k ∧ k < w.heap.size) ∧ base ≤ w.heap.size
section
variable {base N : Nat} {P : Nat → Prop} {w w' : World} {cg dg : Nat} {size reads : Int} {L : List Bf} {s : DS}
theorem CS.cp {top : Nat} (h : CS base top w cg dg size reads L s) : CP base (fun k => base ≤ k ∧ k < top) w cg dg size reads L s := by
  obtain ⟨ok, okd, mb, hW, hD, h1, h2, h3, h4, h5⟩ := h
  exact ⟨ok, okd, mb, hW, hD, h1, h2, h3, fun k hk => ⟨hk.1, by omega⟩, by omega⟩
theorem CP.move (h : CP base P w cg dg size reads L s) (hs : w.heap.size ≤ w'.heap.size) (hm : ∀ k, P k → w'.heap[k]? = w.heap[k]?) : CP base P w' cg dg size reads L s := by
  obtain ⟨ok, okd, mb, ⟨vo, E, hI, hp⟩, hD, h1, h2, h3, h4, h5⟩ := h
  exact ⟨ok, okd, mb, ⟨vo, E, hI.move (fun k hk => hm k (h1 k hk)), hp⟩, hD.move (fun k hk => hm k (h2 k hk)), h1, h2, h3, fun k hk => by have := h4 k hk; omega, by omega⟩
theorem CP.below (h : CP base P w cg dg size reads L s) (hb : Below w.heap.size w w') : CP base P w' cg dg size reads L s := h.move hb.size (fun k hk => hb.block k (by obtain ⟨_, _, _, _, _, _, _, _, h4, _⟩ := h; exact (h4 k hk).2))
theorem CP.off {okx : Nat → Prop} (h : CP base P w cg dg size reads L s) (ho : Off okx w w') (hap : ∀ k, P k → ¬ okx k) : CP base P w' cg dg size reads L s := h.move ho.size (fun k hk => ho.block k (by obtain ⟨_, _, _, _, _, _, _, _, h4, _⟩ := h; exact (h4 k hk).2) (hap k hk))
theorem CP.nodup (h : CP base P w cg dg size reads L s) : (L.map (·.blk)).Nodup := by
  obtain ⟨ok, okd, mb, hW, _⟩ := h
  exact hW.nodup
theorem CP.lt (h : CP base P w cg dg size reads L s) : ∀ k, P k → base ≤ k ∧ k < w.heap.size := by
  obtain ⟨_, _, _, _, _, _, _, _, h4, _⟩ := h
  exact h4
/-- P, and what is new, under top -/
def pN (P : Nat → Prop) (w : World) (top : Nat) : Nat → Prop := fun k => P k ∨ (w.heap.size ≤ k ∧ k < top)
theorem cp_get (h : CP base P w cg dg size reads L s) (hF : Fit N reads L s) {n : Int} (hn : I64 n) :
    Calls Try.prog 11 #[.pointer (some ⟨cg, 0, none⟩), .int .i64 n] w fun e w' => ∃ v top', e = .returned (.tuple #[v, .bool (gotX L s n).isSome]) ∧ CP base (pN P w top') w' cg dg size (gotR reads L n) (gotL size L s n) s ∧ (w.heap.size ≤ top' ∧ top' ≤ w'.heap.size) ∧
      Kd.R (Kd.int .u8) 5 w' top' (fun _ => True) v ((gotX L s n).getD []) ∧ Off P w w' := by
  obtain ⟨ok, okd, mb, hW, hD, h1, h2, h3, h4, h5⟩ := h
  have hok : ∀ k, ok k → k < w.heap.size := fun k hk => (h4 k (h1 k hk)).2
  have hokd : ∀ k, okd k → k < w.heap.size := fun k hk => (h4 k (h2 k hk)).2
  have hN := hF.N1
  have hr0 := hF.r0
  have hr1 := hF.r1
  have hl := hF.len
  have hfin : ∀ {reads' : Int} {L' : List Bf} {b : List Int} {e : Ending} {w' : World}, GetOk base ok w cg mb (.pointer (some ⟨dg, 0, none⟩)) size reads' L' b e w' → ∃ v top', e = .returned (.tuple #[v, .bool true]) ∧ CP base (pN P w top') w' cg dg size reads' L' s ∧ (w.heap.size ≤ top' ∧ top' ≤ w'.heap.size) ∧ Kd.R (Kd.int .u8) 5 w' top' (fun _ => True) v b ∧ Off P w w' := by
    rintro reads' L' b e w' ⟨w3, v, rfl, hW3, ho3, hR, hb⟩
    have hs := ho3.size
    have hs2 := hb.size
    refine ⟨v, w3.heap.size, rfl, ⟨okN ok w w3, okd, mb, hW3.below (fun k hk => okN_lt hok hs k hk) hb, ?_, ?_, fun k hk => .inl (h2 k hk), ?_, ?_, by omega⟩, ⟨hs, hs2⟩, hR, ?_⟩
    · exact (hD.move (fun k hk => ho3.block k (hokd k hk) (h3 k hk))).move (fun k hk => hb.block k (by have := hokd k hk; omega))
    · rintro k (hk | hk)
      · exact .inl (h1 k hk)
      · exact .inr hk
    · rintro k hk (hk2 | hk2)
      · exact h3 k hk hk2
      · have := hokd k hk; omega
    · rintro k (hk | hk)
      · have := h4 k hk; omega
      · omega
    · exact (ho3.mono (fun k hk => h1 k hk)).below hb
  unfold gotX gotL gotR
  cases hf : findB L n with
  | some x =>
    have hx := List.mem_of_find?_eq_some hf
    have hp := hF.pins x hx
    have hby := hF.byt x hx
    exact (get_found hW hok h5 (by omega) hn hf ⟨by omega, by omega⟩ (by omega)).mono (fun e w' hq => hfin hq)
  | none =>
    simp only
    have hdb := hF.db
    cases hr : readP s.b s.dead n with
    | some b =>
      have := readP_len hr
      exact (get_load hW hok h5 (by omega) hD hokd h3 (by omega) hn hf hr ⟨by omega, by omega⟩ (by omega)).mono (fun e w' hq => hfin hq)
    | none =>
      refine (get_no hW hok hD hokd h3 (by omega) hn hf hr ⟨by omega, by omega⟩).mono ?_
      rintro e w' ⟨rfl, hW2, ho⟩
      have hs := ho.size
      refine ⟨_, w.heap.size, rfl, ⟨ok, okd, mb, hW2, hD.move (fun k hk => ho.block k (hokd k hk) (h3 k hk)), fun k hk => .inl (h1 k hk), fun k hk => .inl (h2 k hk), h3, ?_, by omega⟩, ⟨Nat.le_refl _, hs⟩, Kd.R_nil _ _ _ _ _, ho.mono (fun k hk => h1 k hk)⟩
      rintro k (hk | hk)
      · have := h4 k hk; omega
      · omega
theorem cp_release (h : CP base P w cg dg size reads L s) (hF : Fit N reads L s) {n : Int} (hn : I64 n) :
    Calls Try.prog 12 #[.pointer (some ⟨cg, 0, none⟩), .int .i64 n] w fun e w' => e = .returned (.bool (relOk n L)) ∧ CP base P w' cg dg size reads (relL size n L) s ∧ Off P w w' := by
  obtain ⟨ok, okd, mb, hW, hD, h1, h2, h3, h4, h5⟩ := h
  have hok : ∀ k, ok k → k < w.heap.size := fun k hk => (h4 k (h1 k hk)).2
  have hokd : ∀ k, okd k → k < w.heap.size := fun k hk => (h4 k (h2 k hk)).2
  have hN := hF.N1
  refine (release_calls hW hok hn (fun x hx => by have := hF.pins x hx; omega)).mono ?_
  rintro e w' ⟨rfl, hW2, ho⟩
  have hs := ho.size
  exact ⟨rfl, ⟨ok, okd, mb, hW2, hD.move (fun k hk => ho.block k (hokd k hk) (h3 k hk)), h1, h2, h3, fun k hk => by have := h4 k hk; omega, by omega⟩, ho.mono (fun k hk => h1 k hk)⟩
theorem cp_held (h : CP base P w cg dg size reads L s) (hF : Fit N reads L s) :
    Calls Try.prog 14 #[.pointer (some ⟨cg, 0, none⟩)] w fun e w' => ∃ v, e = .returned v ∧ Kd.R (Kd.int .i64) 3 w' w.heap.size (fun _ => True) v (L.map (·.blk)) ∧ Below w.heap.size w w' := by
  obtain ⟨ok, okd, mb, hW, _⟩ := h
  exact held_calls hW (by have := hF.len; have := hF.N1; omega)
theorem cp_reads (h : CP base P w cg dg size reads L s) : Calls Try.prog 15 #[.pointer (some ⟨cg, 0, none⟩)] w fun e w' => e = .returned (.int .i64 reads) ∧ w = w' := by
  obtain ⟨ok, okd, mb, hW, _⟩ := h
  exact reads_calls hW
end
section
variable {base m : Nat} {P : Nat → Prop} {w : World} {cg dg : Nat} {size r n : Int} {l : List Int}
theorem cpstep_get (h : CP base P w cg dg size r (cleanL l) (dsk m)) (hl : (l.length : Int) ≤ size) (h1 : 1 ≤ size) (hs : size ≤ 1000) (hr0 : 0 ≤ r) (hr1 : r ≤ 10000) (hm : m ≤ 100) (hn0 : 0 ≤ n) (hn1 : n < m) :
    Calls Try.prog 11 #[.pointer (some ⟨cg, 0, none⟩), .int .i64 n] w fun e w' => ∃ v top', e = .returned (.tuple #[v, .bool true]) ∧ CP base (pN P w top') w' cg dg size (r + missL l n) (midL size l n) (dsk m) ∧ Off P w w' := by
  obtain ⟨k, rfl⟩ : ∃ k : Nat, n = (k : Int) := ⟨n.toNat, by omega⟩
  have hr := readP_dsk m k (by omega)
  refine (cp_get h (fit_clean hl hs hr0 hr1 hm) (n := (k : Int)) (by unfold I64; omega)).mono ?_
  rintro e w' ⟨v, top', rfl, hC, _, _, ho⟩
  rw [gotX_clean hr]
  rw [gotL_clean hr hl h1, gotR_clean] at hC
  exact ⟨v, top', rfl, hC, ho⟩
theorem cpstep_rel (h : CP base P w cg dg size r (midL size l n) (dsk m)) (hl : (l.length : Int) ≤ size) (h1 : 1 ≤ size) (hs : size ≤ 1000) (hr0 : 0 ≤ r) (hr1 : r ≤ 10000) (hm : m ≤ 100) (hn : I64 n) :
    Calls Try.prog 12 #[.pointer (some ⟨cg, 0, none⟩), .int .i64 n] w fun e w' => ∃ q, e = .returned (.bool q) ∧ CP base P w' cg dg size r (cleanL (stepL size l n)) (dsk m) ∧ Off P w w' := by
  refine (cp_release h (fit_mid hl h1 hs hr0 hr1 hm) hn).mono ?_
  rintro e w' ⟨rfl, hC, ho⟩
  rw [relL_mid hl h1] at hC
  exact ⟨_, rfl, hC, ho⟩
end
end Go.Proofs.Ythcafgjcgikgpaa.Given
