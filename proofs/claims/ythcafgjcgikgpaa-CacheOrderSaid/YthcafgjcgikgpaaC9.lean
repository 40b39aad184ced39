/- CacheReads: got and released, one behind another. -/
import Derived.Test.YthcafgjcgikgpaaC8
namespace Go.Proofs.Ythcafgjcgikgpaa.Given
open Go.RowKit Go.Shelf Go.Proofs.YthcafgjcgikgpaaW.PrintWords Go.Proofs.YthcafgjcgikgpaaW.PrintLast Go.Proofs.YthcafgjcgikgpaaW.PrintMore Go.Proofs.YthcafgjcgikgpaaBase
set_option linter.unusedVariables false
set_option linter.unusedSimpArgs false

/-- blocks of zeros that nobody has pinned -/
def cleanL (l : List Int) : List Bf := l.map fun n => ⟨n, zB, 0, false⟩
/-- the others that stay when n is got -/
def restL (size : Int) (l : List Int) (n : Int) : List Int := if size < ((without n l).length : Int) + 1 then (without n l).drop 1 else without n l
def stepL (size : Int) (l : List Int) (n : Int) : List Int := restL size l n ++ [n]
def missL (l : List Int) (n : Int) : Int := if n ∈ l then 0 else 1
def midL (size : Int) (l : List Int) (n : Int) : List Bf := cleanL (restL size l n) ++ [⟨n, zB, 1, false⟩]
theorem cleanL_blk (l : List Int) : (cleanL l).map (·.blk) = l := by
  unfold cleanL
  rw [List.map_map]
  exact List.map_id' l
theorem cleanL_len (l : List Int) : (cleanL l).length = l.length := List.length_map _
theorem findB_clean (l : List Int) (n : Int) : findB (cleanL l) n = if n ∈ l then some ⟨n, zB, 0, false⟩ else none := by
  induction l with
  | nil => rfl
  | cons x l ih =>
    unfold findB cleanL at ih ⊢
    rw [List.map_cons]
    by_cases h : x = n
    · subst h
      rw [List.find?_cons_of_pos (by simp), if_pos (by simp)]
    · rw [List.find?_cons_of_neg (by simpa using h), ih]
      have : (n ∈ x :: l) ↔ n ∈ l := by simp [Ne.symm h]
      simp only [this]
theorem filter_clean (l : List Int) (n : Int) : (cleanL l).filter (fun z => !(n == z.blk)) = cleanL (without n l) := by
  unfold cleanL without
  rw [List.filter_map]
  rfl
theorem rest_small {size : Int} {l : List Int} (hl : (l.length : Int) ≤ size) (h1 : 1 ≤ size) (n : Int) : ((restL size l n).length : Int) + 1 ≤ size := by
  have := without_le n l
  unfold restL
  split
  · rw [List.length_drop]; omega
  · omega
theorem rest_not (size : Int) (l : List Int) (n : Int) : n ∉ restL size l n := by
  have h : n ∉ without n l := by unfold without; simp
  unfold restL
  split
  · exact fun hm => h (List.mem_of_mem_drop hm)
  · exact h
theorem gotX_clean {l : List Int} {n : Int} {s : DS} (hr : readP s.b s.dead n = some zB) : gotX (cleanL l) s n = some zB := by
  unfold gotX
  rw [findB_clean]
  split
  · rename_i h
    split at h
    · cases h; rfl
    · cases h
  · exact hr
theorem gotR_clean (l : List Int) (n reads : Int) : gotR reads (cleanL l) n = reads + missL l n := by
  unfold gotR missL
  rw [findB_clean]
  by_cases h : n ∈ l
  · rw [if_pos h, if_pos h]; simp
  · rw [if_neg h, if_neg h]
theorem trim_mid {size : Int} {l : List Int} {n : Int} (hl : (l.length : Int) ≤ size) (h1 : 1 ≤ size) : trimL size (cleanL (without n l) ++ [⟨n, zB, 1, false⟩]) = midL size l n := by
  have hw := without_le n l
  unfold midL restL
  split
  · rename_i hs
    cases hx : without n l with
    | nil => rw [hx] at hs; simp only [List.length_nil] at hs; omega
    | cons y q =>
      have hq : q.length + 1 = (without n l).length := by rw [hx]; rfl
      have hpop : popL (cleanL (y :: q) ++ [⟨n, zB, 1, false⟩]) = some (cleanL q ++ [⟨n, zB, 1, false⟩]) := by
        unfold cleanL
        rw [List.map_cons, List.cons_append]
        unfold popL
        rw [if_pos (by simp [free])]
      rw [trimL_pop (by rw [List.length_append, cleanL_len]; simp only [List.length_cons, List.length_nil]; omega) hpop]
      exact trimL_small (by rw [List.length_append, cleanL_len]; simp only [List.length_cons, List.length_nil]; omega)
  · rename_i hs
    exact trimL_small (by rw [List.length_append, cleanL_len]; simp only [List.length_cons, List.length_nil]; omega)
theorem gotL_clean {size : Int} {l : List Int} {n : Int} {s : DS} (hr : readP s.b s.dead n = some zB) (hl : (l.length : Int) ≤ size) (h1 : 1 ≤ size) : gotL size (cleanL l) s n = midL size l n := by
  unfold gotL
  rw [findB_clean]
  by_cases h : n ∈ l
  · rw [if_pos h]
    simp only
    unfold moveL
    rw [filter_clean]
    exact trim_mid hl h1
  · rw [if_neg h]
    simp only [hr]
    rw [← trim_mid hl h1, without_none h]
theorem relL_mid {size : Int} {l : List Int} {n : Int} (hl : (l.length : Int) ≤ size) (h1 : 1 ≤ size) : relL size n (midL size l n) = cleanL (stepL size l n) := by
  have hr := rest_small hl h1 n
  have hn := rest_not size l n
  have h2 : ∀ y ∈ cleanL (restL size l n), y.blk ≠ n := fun y hy e => by
    unfold cleanL at hy
    obtain ⟨z, hz, rfl⟩ := List.mem_map.1 hy
    exact hn (e ▸ hz)
  have hf : findB (midL size l n) n = some ⟨n, zB, 1, false⟩ := by
    unfold findB midL
    rw [List.find?_append, List.find?_eq_none.2 (fun y hy => by simpa using h2 y hy)]
    simp
  have hon : onB (midL size l n) n (fun y => { y with pins := y.pins - 1 }) = cleanL (stepL size l n) := by
    unfold midL
    rw [onB_at (x := ⟨n, zB, 1, false⟩) (L2 := []) _ rfl h2 (by simp)]
    unfold stepL cleanL
    rw [List.map_append]
    rfl
  unfold relL
  rw [hf]
  simp only
  rw [if_pos (by decide), hon]
  exact trimL_small (by rw [cleanL_len]; unfold stepL; rw [List.length_append]; simpa using hr)
theorem step_len {size : Int} {l : List Int} (hl : (l.length : Int) ≤ size) (h1 : 1 ≤ size) (n : Int) : ((stepL size l n).length : Int) ≤ size := by
  have := rest_small hl h1 n
  unfold stepL
  rw [List.length_append]
  simpa using this
section
variable {base top m : Nat} {w : World} {cg dg : Nat} {size r n : Int} {l : List Int}
theorem fit_clean (hl : (l.length : Int) ≤ size) (hs : size ≤ 1000) (hr0 : 0 ≤ r) (hr1 : r ≤ 10000) (hm : m ≤ 100) : Fit 20000 r (cleanL l) (dsk m) :=
  ⟨by rw [cleanL_len]; omega, hr0, by omega, fun x hx => by unfold cleanL at hx; obtain ⟨z, _, rfl⟩ := List.mem_map.1 hx; exact ⟨Int.le_refl _, by simp only; omega⟩, fun x hx => by unfold cleanL at hx; obtain ⟨z, _, rfl⟩ := List.mem_map.1 hx; simp only [zB_len]; omega, by decide, by rw [dsk_len]; omega⟩
theorem fit_mid (hl : (l.length : Int) ≤ size) (h1 : 1 ≤ size) (hs : size ≤ 1000) (hr0 : 0 ≤ r) (hr1 : r ≤ 10000) (hm : m ≤ 100) : Fit 20000 r (midL size l n) (dsk m) := by
  have h2 := rest_small hl h1 n
  have h3 := fit_clean (l := restL size l n) (size := size) (m := m) (by omega) hs hr0 hr1 hm
  unfold midL
  refine ⟨by rw [List.length_append, cleanL_len]; simp only [List.length_cons, List.length_nil]; omega, hr0, by omega, fun x hx => ?_, fun x hx => ?_, by decide, h3.db⟩
  · rw [List.mem_append, List.mem_singleton] at hx
    rcases hx with hx | rfl
    · exact h3.pins x hx
    · exact ⟨by simp only; omega, by simp only; omega⟩
  · rw [List.mem_append, List.mem_singleton] at hx
    rcases hx with hx | rfl
    · exact h3.byt x hx
    · simp only [zB_len]; omega
theorem step_get (h : CS base top w cg dg size r (cleanL l) (dsk m)) (hl : (l.length : Int) ≤ size) (h1 : 1 ≤ size) (hs : size ≤ 1000) (hr0 : 0 ≤ r) (hr1 : r ≤ 10000) (hm : m ≤ 100) (hn0 : 0 ≤ n) (hn1 : n < m) :
    Calls Try.prog 11 #[.pointer (some ⟨cg, 0, none⟩), .int .i64 n] w fun e w' => ∃ v top', e = .returned (.tuple #[v, .bool true]) ∧ CS base top' w' cg dg size (r + missL l n) (midL size l n) (dsk m) ∧ Off (fun k => base ≤ k ∧ k < top) w w' := by
  obtain ⟨k, rfl⟩ : ∃ k : Nat, n = (k : Int) := ⟨n.toNat, by omega⟩
  have hr := readP_dsk m k (by omega)
  refine (cs_get h (fit_clean hl hs hr0 hr1 hm) (n := (k : Int)) (by unfold I64; omega)).mono ?_
  rintro e w' ⟨v, top', rfl, hC, _, _, ho⟩
  rw [gotX_clean hr]
  rw [gotL_clean hr hl h1, gotR_clean] at hC
  exact ⟨v, top', rfl, hC, ho⟩
theorem step_rel (h : CS base top w cg dg size r (midL size l n) (dsk m)) (hl : (l.length : Int) ≤ size) (h1 : 1 ≤ size) (hs : size ≤ 1000) (hr0 : 0 ≤ r) (hr1 : r ≤ 10000) (hm : m ≤ 100) (hn : I64 n) :
    Calls Try.prog 12 #[.pointer (some ⟨cg, 0, none⟩), .int .i64 n] w fun e w' => ∃ q, e = .returned (.bool q) ∧ CS base top w' cg dg size r (cleanL (stepL size l n)) (dsk m) ∧ Off (fun k => base ≤ k ∧ k < top) w w' := by
  refine (cs_release h (fit_mid hl h1 hs hr0 hr1 hm) hn).mono ?_
  rintro e w' ⟨rfl, hC, ho⟩
  rw [relL_mid hl h1] at hC
  exact ⟨_, rfl, hC, ho⟩
end
/-- kept blocks and how often was read -/
def stS (size : Int) (st : List Int × Int) (i : Nat) : List Int × Int := (stepL size st.1 i, st.2 + missL st.1 i)
def stI (size : Int) (st : List Int × Int) (i : Nat) : List Int × Int := (List.range i).foldl (stS size) st
def stK (size : Int) (n : Nat) : Nat → List Int × Int
  | 0 => ([], 0)
  | k + 1 => stI size (stK size n k) n
theorem stI_succ (size : Int) (st : List Int × Int) (i : Nat) : stI size st (i + 1) = stS size (stI size st i) i := by
  unfold stI
  rw [List.range_succ, List.foldl_append]
  rfl
theorem stI_inv {size : Int} (h1 : 1 ≤ size) (st : List Int × Int) (hl : (st.1.length : Int) ≤ size) (h0 : 0 ≤ st.2) : ∀ i : Nat, ((stI size st i).1.length : Int) ≤ size ∧ 0 ≤ (stI size st i).2 ∧ (stI size st i).2 ≤ st.2 + i
  | 0 => ⟨hl, h0, by simp [stI]⟩
  | i + 1 => by
    have ih := stI_inv h1 st hl h0 i
    rw [stI_succ]
    unfold stS
    refine ⟨step_len ih.1 h1 _, ?_, ?_⟩ <;> (simp only [missL]; split <;> omega)
theorem stK_inv {size : Int} (h1 : 1 ≤ size) (n : Nat) : ∀ k : Nat, ((stK size n k).1.length : Int) ≤ size ∧ 0 ≤ (stK size n k).2 ∧ (stK size n k).2 ≤ ((n * k : Nat) : Int)
  | 0 => ⟨by simp [stK]; omega, by simp [stK], by simp [stK]⟩
  | k + 1 => by
    have ih := stK_inv h1 n k
    have h2 := stI_inv h1 _ ih.1 ih.2.1 n
    refine ⟨h2.1, h2.2.1, Int.le_trans h2.2.2 ?_⟩
    rw [Nat.mul_succ]
    omega
set_option maxRecDepth 100000 in
theorem reads_law : ∀ s : Nat, s < 12 → ∀ n : Nat, n < 12 → ∀ r : Nat, r < 6 → (stK ((s : Int) + 1) (n + 1) (r + 1)).2 = if (s : Int) + 1 < (n : Int) + 1 then ((n : Int) + 1) * ((r : Int) + 1) else (n : Int) + 1 := by
  decide +kernel
end Go.Proofs.Ythcafgjcgikgpaa.Given
