/- A cache and its disk, as a law holds them: what Get, Release, Held, Reads make. -/
import Derived.Test.YthcafgjcgikgpaaC6
import Derived.Test.YthcafgjcgikgpaaPFns
namespace Go.Proofs.Ythcafgjcgikgpaa.Given
open Go.RowKit Go.Shelf Go.Proofs.YthcafgjcgikgpaaW.PrintWords Go.Proofs.YthcafgjcgikgpaaW.PrintLast Go.Proofs.YthcafgjcgikgpaaW.PrintMore Go.Proofs.YthcafgjcgikgpaaBase
set_option linter.unusedVariables false
set_option linter.unusedSimpArgs false

/-- a cache and its disk lie between base and top -/
def CS (base top : Nat) (w : World) (cg dg : Nat) (size reads : Int) (L : List Bf) (s : DS) : Prop :=
  ∃ ok okd mb, WC base ok w cg mb (.pointer (some ⟨dg, 0, none⟩)) size reads L ∧ IsD base okd w dg s.b s.l s.cut s.dead ∧ (∀ k, ok k → base ≤ k ∧ k < top) ∧ (∀ k, okd k → base ≤ k ∧ k < top) ∧ (∀ k, okd k → ¬ ok k) ∧ base ≤ top ∧ top ≤ w.heap.size
section
variable {base top : Nat} {w w' : World} {cg dg : Nat} {size reads : Int} {L : List Bf} {s : DS}
theorem CS.below (h : CS base top w cg dg size reads L s) (hb : Below w.heap.size w w') : CS base top w' cg dg size reads L s := by
  obtain ⟨ok, okd, mb, hW, hD, h1, h2, h3, h4, h5⟩ := h
  exact ⟨ok, okd, mb, hW.below (fun k hk => by have := h1 k hk; omega) hb, hD.move (fun k hk => hb.block k (by have := h2 k hk; omega)), h1, h2, h3, h4, Nat.le_trans h5 hb.size⟩
theorem CS.raise (h : CS base top w cg dg size reads L s) {top' : Nat} (h1 : top ≤ top') (h2 : top' ≤ w.heap.size) : CS base top' w cg dg size reads L s := by
  obtain ⟨ok, okd, mb, hW, hD, k1, k2, k3, k4, k5⟩ := h
  exact ⟨ok, okd, mb, hW, hD, fun k hk => by have := k1 k hk; omega, fun k hk => by have := k2 k hk; omega, k3, by omega, h2⟩
theorem CS.move (h : CS base top w cg dg size reads L s) (hs : w.heap.size ≤ w'.heap.size) (hm : ∀ k, base ≤ k → k < top → w'.heap[k]? = w.heap[k]?) : CS base top w' cg dg size reads L s := by
  obtain ⟨ok, okd, mb, ⟨vo, E, hI, hp⟩, hD, h1, h2, h3, h4, h5⟩ := h
  exact ⟨ok, okd, mb, ⟨vo, E, hI.move (fun k hk => hm k (h1 k hk).1 (h1 k hk).2), hp⟩, hD.move (fun k hk => hm k (h2 k hk).1 (h2 k hk).2), h1, h2, h3, h4, by omega⟩
theorem CS.top_le (h : CS base top w cg dg size reads L s) : base ≤ top ∧ top ≤ w.heap.size := by
  obtain ⟨_, _, _, _, _, _, _, _, h4, h5⟩ := h
  exact ⟨h4, h5⟩
end
theorem popL_sub {L L' : List Bf} (h : popL L = some L') : L'.Sublist L := by
  obtain ⟨L1, x, L2, rfl, _, _, rfl⟩ := popL_some h
  exact (List.Sublist.refl L1).append (List.sublist_cons_self x L2)
theorem trimF_sub (size : Int) : ∀ (n : Nat) (L : List Bf), (trimF size n L).Sublist L
  | 0, L => List.Sublist.refl L
  | n + 1, L => by
    rw [trimF_succ]
    split
    · cases h : popL L with
      | none => exact List.Sublist.refl L
      | some L' => exact (trimF_sub size n L').trans (popL_sub h)
    · exact List.Sublist.refl L
theorem trimL_sub (size : Int) (L : List Bf) : (trimL size L).Sublist L := trimF_sub size _ L
/-- small enough -/
structure Fit (N : Nat) (reads : Int) (L : List Bf) (s : DS) : Prop where
  len : L.length ≤ N
  r0 : 0 ≤ reads
  r1 : reads ≤ N
  pins : ∀ x ∈ L, 0 ≤ x.pins ∧ x.pins ≤ N
  byt : ∀ x ∈ L, x.b.length ≤ 1024
  N1 : N < 100000
  db : s.b.length < 1000000
/-- what a Get answers -/
def gotX (L : List Bf) (s : DS) (n : Int) : Option (List Int) := match findB L n with | some x => some x.b | none => readP s.b s.dead n
/-- what it keeps -/
def gotL (size : Int) (L : List Bf) (s : DS) (n : Int) : List Bf := match findB L n with
  | some x => trimL size (moveL n { x with pins := x.pins + 1 } L)
  | none => match readP s.b s.dead n with
    | some b => trimL size (L ++ [⟨n, b, 1, false⟩])
    | none => L
/-- how often it has read -/
def gotR (reads : Int) (L : List Bf) (n : Int) : Int := match findB L n with | some _ => reads | none => reads + 1
theorem readP_len {b : List Int} {dead : Bool} {k : Int} {x : List Int} (h : readP b dead k = some x) : x.length ≤ 1024 := by
  unfold readP at h
  split at h
  · cases h
    rw [List.length_drop, List.length_take]
    rw [Nat.add_mul]
    omega
  · cases h
theorem moveL_mem {n : Int} {y z : Bf} {L : List Bf} (h : z ∈ moveL n y L) : z ∈ L ∨ z = y := by
  unfold moveL at h
  rw [List.mem_append, List.mem_singleton] at h
  exact h.imp (fun h => (List.mem_filter.1 h).1) id
theorem moveL_len (n : Int) (y : Bf) (L : List Bf) : (moveL n y L).length ≤ L.length + 1 := by
  unfold moveL
  rw [List.length_append, List.length_singleton]
  have := List.length_filter_le (fun z : Bf => !(n == z.blk)) L
  omega
theorem Fit.got {N : Nat} {size reads : Int} {L : List Bf} {s : DS} (h : Fit N reads L s) (hN : N + 1 < 100000) (n : Int) : Fit (N + 1) (gotR reads L n) (gotL size L s n) s := by
  have hr0 := h.r0
  have hr1 := h.r1
  have hl := h.len
  unfold gotR gotL
  cases hf : findB L n with
  | some x =>
    have hx := List.mem_of_find?_eq_some hf
    have hsub := trimL_sub size (moveL n { x with pins := x.pins + 1 } L)
    refine ⟨Nat.le_trans hsub.length_le (by have := moveL_len n { x with pins := x.pins + 1 } L; omega), h.r0, by simp only; omega, fun z hz => ?_, fun z hz => ?_, hN, h.db⟩
    · rcases moveL_mem (hsub.subset hz) with hz | rfl
      · have := h.pins z hz; omega
      · have := h.pins x hx; simp only; omega
    · rcases moveL_mem (hsub.subset hz) with hz | rfl
      · exact h.byt z hz
      · exact h.byt x hx
  | none =>
    simp only
    cases hr : readP s.b s.dead n with
    | none => exact ⟨by simp only; omega, by omega, by omega, fun z hz => by have := h.pins z hz; omega, h.byt, hN, h.db⟩
    | some b =>
      have hsub := trimL_sub size (L ++ [⟨n, b, 1, false⟩])
      refine ⟨Nat.le_trans hsub.length_le (by rw [List.length_append, List.length_singleton]; omega), by omega, by omega, fun z hz => ?_, fun z hz => ?_, hN, h.db⟩
      · have := hsub.subset hz
        rw [List.mem_append, List.mem_singleton] at this
        rcases this with hz | rfl
        · have := h.pins z hz; omega
        · simp only; omega
      · have := hsub.subset hz
        rw [List.mem_append, List.mem_singleton] at this
        rcases this with hz | rfl
        · exact h.byt z hz
        · exact readP_len hr
theorem onB_at {L1 L2 : List Bf} {x : Bf} {n : Int} (f : Bf → Bf) (hx : x.blk = n) (h1 : ∀ y ∈ L1, y.blk ≠ n) (h2 : ∀ y ∈ L2, y.blk ≠ n) : onB (L1 ++ x :: L2) n f = L1 ++ f x :: L2 := by
  unfold onB
  rw [List.map_append, List.map_cons, if_pos hx]
  congr 1
  · exact (List.map_congr_left (fun y hy => if_neg (h1 y hy))).trans (List.map_id' L1)
  · congr 1
    exact (List.map_congr_left (fun y hy => if_neg (h2 y hy))).trans (List.map_id' L2)
theorem CS.nodup {base top : Nat} {w : World} {cg dg : Nat} {size reads : Int} {L : List Bf} {s : DS} (h : CS base top w cg dg size reads L s) : (L.map (·.blk)).Nodup := by
  obtain ⟨ok, okd, mb, hW, _⟩ := h
  exact hW.nodup
theorem findB_blk {L : List Bf} {n : Int} {x : Bf} (hf : findB L n = some x) : x.blk = n := by
  have := List.find?_some hf
  simpa using this
theorem Fit.rel {N : Nat} {size reads : Int} {L : List Bf} {s : DS} (h : Fit N reads L s) (hnd : (L.map (·.blk)).Nodup) (n : Int) : Fit N reads (relL size n L) s := by
  unfold relL
  cases hf : findB L n with
  | none =>
    have hsub := trimL_sub size L
    exact ⟨Nat.le_trans hsub.length_le h.len, h.r0, h.r1, fun z hz => h.pins z (hsub.subset hz), fun z hz => h.byt z (hsub.subset hz), h.N1, h.db⟩
  | some x =>
    simp only
    split
    · rename_i hp
      have hsub := trimL_sub size (onB L n (fun y => { y with pins := y.pins - 1 }))
      obtain ⟨L1, L2, rfl, h1, h2⟩ := findB_on hf hnd
      rw [onB_at (fun y => { y with pins := y.pins - 1 }) (findB_blk hf) h1 h2] at hsub ⊢
      have hm : ∀ z ∈ trimL size (L1 ++ { x with pins := x.pins - 1 } :: L2), z ∈ L1 ++ x :: L2 ∨ z = { x with pins := x.pins - 1 } := fun z hz => by
        have := hsub.subset hz
        rw [List.mem_append, List.mem_cons] at this ⊢
        rcases this with h | h | h
        · exact .inl (.inl h)
        · exact .inr h
        · exact .inl (.inr (.inr h))
      have hx := h.pins x (by simp)
      have hxb := h.byt x (by simp)
      refine ⟨Nat.le_trans hsub.length_le (by have := h.len; simpa using this), h.r0, h.r1, fun z hz => ?_, fun z hz => ?_, h.N1, h.db⟩
      · rcases hm z hz with hz | rfl
        · exact h.pins z hz
        · simp only; omega
      · rcases hm z hz with hz | rfl
        · exact h.byt z hz
        · exact hxb
    · have hsub := trimL_sub size L
      exact ⟨Nat.le_trans hsub.length_le h.len, h.r0, h.r1, fun z hz => h.pins z (hsub.subset hz), fun z hz => h.byt z (hsub.subset hz), h.N1, h.db⟩
section
variable {base top N : Nat} {w : World} {cg dg : Nat} {size reads : Int} {L : List Bf} {s : DS}
theorem cs_get (h : CS base top w cg dg size reads L s) (hF : Fit N reads L s) {n : Int} (hn : I64 n) :
    Calls Try.prog 11 #[.pointer (some ⟨cg, 0, none⟩), .int .i64 n] w fun e w' => ∃ v top', e = .returned (.tuple #[v, .bool (gotX L s n).isSome]) ∧ CS base top' w' cg dg size (gotR reads L n) (gotL size L s n) s ∧ w.heap.size ≤ top' ∧
      Kd.R (Kd.int .u8) 5 w' top' (fun _ => True) v ((gotX L s n).getD []) ∧ Off (fun k => base ≤ k ∧ k < top) w w' := by
  obtain ⟨ok, okd, mb, hW, hD, h1, h2, h3, h4, h5⟩ := h
  have hok : ∀ k, ok k → k < w.heap.size := fun k hk => by have := h1 k hk; omega
  have hokd : ∀ k, okd k → k < w.heap.size := fun k hk => by have := h2 k hk; omega
  have hN := hF.N1
  have hr0 := hF.r0
  have hr1 := hF.r1
  have hl := hF.len
  have hfin : ∀ {reads' : Int} {L' : List Bf} {b : List Int} {e : Ending} {w' : World}, GetOk base ok w cg mb (.pointer (some ⟨dg, 0, none⟩)) size reads' L' b e w' → ∃ v top', e = .returned (.tuple #[v, .bool true]) ∧ CS base top' w' cg dg size reads' L' s ∧ w.heap.size ≤ top' ∧ Kd.R (Kd.int .u8) 5 w' top' (fun _ => True) v b ∧ Off (fun k => base ≤ k ∧ k < top) w w' := by
    rintro reads' L' b e w' ⟨w3, v, rfl, hW3, ho3, hR, hb⟩
    have hs := ho3.size
    refine ⟨v, w3.heap.size, rfl, ⟨okN ok w w3, okd, mb, hW3.below (fun k hk => okN_lt hok hs k hk) hb, ?_, ?_, fun k hk => ?_, ?_, by omega, hb.size⟩, hs, hR, ?_⟩
    · exact (hD.move (fun k hk => ho3.block k (hokd k hk) (h3 k hk))).move (fun k hk => hb.block k (by have := hokd k hk; omega))
    · rintro k (hk | hk)
      · have := h1 k hk; omega
      · omega
    · have := h2 k hk; omega
    · rintro k hk (hk2 | hk2)
      · exact h3 k hk hk2
      · have := hokd k hk; omega
    · exact (ho3.mono (fun k hk => h1 k hk)).below hb
  unfold gotX gotL gotR
  cases hf : findB L n with
  | some x =>
    have hx := List.mem_of_find?_eq_some hf
    have hp := hF.pins x hx
    have hby := hF.byt x hx
    exact (get_found hW hok (by omega) (by omega) hn hf ⟨by omega, by omega⟩ (by omega)).mono (fun e w' hq => hfin hq)
  | none =>
    simp only
    have hdb := hF.db
    cases hr : readP s.b s.dead n with
    | some b =>
      have := readP_len hr
      exact (get_load hW hok (by omega) (by omega) hD hokd h3 (by omega) hn hf hr ⟨by omega, by omega⟩ (by omega)).mono (fun e w' hq => hfin hq)
    | none =>
      refine (get_no hW hok hD hokd h3 (by omega) hn hf hr ⟨by omega, by omega⟩).mono ?_
      rintro e w' ⟨rfl, hW2, ho⟩
      have hs := ho.size
      refine ⟨_, w.heap.size, rfl, ⟨ok, okd, mb, hW2, hD.move (fun k hk => ho.block k (hokd k hk) (h3 k hk)), fun k hk => ?_, fun k hk => ?_, h3, by omega, hs⟩, Nat.le_refl _, Kd.R_nil _ _ _ _ _, ho.mono (fun k hk => h1 k hk)⟩
      · have := h1 k hk; omega
      · have := h2 k hk; omega
theorem cs_release (h : CS base top w cg dg size reads L s) (hF : Fit N reads L s) {n : Int} (hn : I64 n) :
    Calls Try.prog 12 #[.pointer (some ⟨cg, 0, none⟩), .int .i64 n] w fun e w' => e = .returned (.bool (relOk n L)) ∧ CS base top w' cg dg size reads (relL size n L) s ∧ Off (fun k => base ≤ k ∧ k < top) w w' := by
  obtain ⟨ok, okd, mb, hW, hD, h1, h2, h3, h4, h5⟩ := h
  have hok : ∀ k, ok k → k < w.heap.size := fun k hk => by have := h1 k hk; omega
  have hokd : ∀ k, okd k → k < w.heap.size := fun k hk => by have := h2 k hk; omega
  have hN := hF.N1
  refine (release_calls hW hok hn (fun x hx => by have := hF.pins x hx; omega)).mono ?_
  rintro e w' ⟨rfl, hW2, ho⟩
  have hs := ho.size
  exact ⟨rfl, ⟨ok, okd, mb, hW2, hD.move (fun k hk => ho.block k (hokd k hk) (h3 k hk)), h1, h2, h3, h4, by omega⟩, ho.mono (fun k hk => h1 k hk)⟩
theorem cs_held (h : CS base top w cg dg size reads L s) (hF : Fit N reads L s) :
    Calls Try.prog 14 #[.pointer (some ⟨cg, 0, none⟩)] w fun e w' => ∃ v, e = .returned v ∧ Kd.R (Kd.int .i64) 3 w' w.heap.size (fun _ => True) v (L.map (·.blk)) ∧ Below w.heap.size w w' := by
  obtain ⟨ok, okd, mb, hW, hD, h1, h2, h3, h4, h5⟩ := h
  exact held_calls hW (by have := hF.len; have := hF.N1; omega)
theorem cs_reads (h : CS base top w cg dg size reads L s) : Calls Try.prog 15 #[.pointer (some ⟨cg, 0, none⟩)] w fun e w' => e = .returned (.int .i64 reads) ∧ w = w' := by
  obtain ⟨ok, okd, mb, hW, hD, h1, h2, h3, h4, h5⟩ := h
  exact reads_calls hW
/-- New of a disk that is new -/
theorem cs_new {w0 : World} {dn : Int} (hd : IsD w0.heap.size (fun k => w0.heap.size ≤ k) w dg s.b s.l s.cut s.dead) (hb0 : w0.heap.size ≤ w.heap.size) (n : Int) :
    Calls Try.prog 9 #[.pointer (some ⟨dg, 0, none⟩), .int .i64 n] w fun e w' => ∃ cg, e = .returned (.pointer (some ⟨cg, 0, none⟩)) ∧ CS w0.heap.size w'.heap.size w' cg dg (most n) 0 [] s ∧ Below w.heap.size w w' := by
  refine (cnew_calls (some ⟨dg, 0, none⟩) n w).mono ?_
  rintro e w' ⟨cg, mb, rfl, ⟨vo, E, hI, hp⟩, hb⟩
  have hE : E = [] := by
    have := hp.length_eq
    simp at this
    exact this
  subst hE
  have hs := hb.size
  refine ⟨cg, rfl, ⟨_, _, mb, ⟨vo, [], ⟨hI.hg, hI.map, Kd.R_lower hI.ord hb0, hI.okg, hI.okm, by have := hI.log; omega, by have := hI.lom; omega, by simp, by simp⟩, hp⟩, hd.bound.move (fun k hk => hb.block k hk.2.2), fun k hk => by omega, fun k hk => by omega, fun k hk hk2 => by omega, by omega, Nat.le_refl _⟩, hb⟩
/-- two rows -/
theorem same_l0 (x y : List Int) : ∀ (m k : Nat), k + m = x.length → x.length = y.length → x.length < 1000000000 → PFns.lockgateref11_SameInts.l0 (m + 1) x y (k : Int) = some (decide (x.drop k = y.drop k))
  | 0, k, hk, hl, hb => by
    unfold PFns.lockgateref11_SameInts.l0
    rw [if_neg (by omega), List.drop_eq_nil_of_le (by omega), List.drop_eq_nil_of_le (by omega)]
    rfl
  | m + 1, k, hk, hl, hb => by
    have ih := same_l0 x y m (k + 1) (by omega) hl hb
    unfold PFns.lockgateref11_SameInts.l0
    rw [if_pos (by omega), if_pos (by omega), if_pos (by omega), show rd x (k : Int) = x[k]'(by omega) from by simp [rd, show k < x.length by omega], show rd y (k : Int) = y[k]'(by omega) from by simp [rd, show k < y.length by omega]]
    rw [List.drop_eq_getElem_cons (show k < x.length by omega), List.drop_eq_getElem_cons (show k < y.length by omega)]
    split
    · rename_i he
      rw [show wrap64 ((k : Int) + 1) = ((k + 1 : Nat) : Int) by unfold wrap64; omega, ih, he]
      exact congrArg some (decide_eq_decide.2 ⟨fun h => by rw [h], fun h => (List.cons.inj h).2⟩)
    · rename_i he
      rw [decide_eq_false (fun h => he (List.cons.inj h).1)]
end
theorem same_calls (A0 : Option Addr) (c0 : Nat) (l0 : List Int) (A1 : Option Addr) (c1 : Nat) (l1 : List Int) (w : World) (hr0 : Kd.C (Kd.int .i64) w A0 l0.length l0) (hc0 : l0.length ≤ c0) (hr1 : Kd.C (Kd.int .i64) w A1 l1.length l1) (hc1 : l1.length ≤ c1) (hl : l0.length < 1000000000) :
    Calls Try.prog 13 #[.slice A0 l0.length c0, .slice A1 l1.length c1] w fun e w' => e = .returned (.bool (decide (l0 = l1))) ∧ Below w.heap.size w w' := by
  refine (PFns.lockgateref11_SameInts.calls (l0.length + 1) A0 c0 l0 A1 c1 l1 (decide (l0 = l1)) w hr0 hc0 hr1 hc1 ?_).mono (fun e w' h => ⟨h.1, h.2.below⟩)
  unfold PFns.lockgateref11_SameInts.f
  split
  · have := same_l0 l0 l1 l0.length 0 (by omega) (by omega) hl
    simpa using this
  · rename_i hne
    have : l0 ≠ l1 := fun e => hne (by rw [e])
    simp [this]
end Go.Proofs.Ythcafgjcgikgpaa.Given
