/- The state of a cache in memory; (*row).drop and (*row).use. -/
import Derived.Test.YthcafgjcgikgpaaC1
import Derived.Test.YthcafgjcgikgpaaOff
namespace Go.Proofs.Ythcafgjcgikgpaa.Given
open Go.RowKit Go.Shelf Go.Proofs.YthcafgjcgikgpaaW.PrintWords Go.Proofs.YthcafgjcgikgpaaW.PrintLast Go.Proofs.YthcafgjcgikgpaaW.PrintMore Go.Proofs.YthcafgjcgikgpaaBase
set_option linter.unusedVariables false
set_option linter.unusedSimpArgs false

/-- a kept block -/
structure Bf where
  blk : Int
  b : List Int
  pins : Int
  dirty : Bool
def entB (x : Bf × Nat × Value) : Value × Value := (.int .i64 x.1.blk, .pointer (some ⟨x.2.1, 0, none⟩))
def I64 (n : Int) : Prop := -9223372036854775808 ≤ n ∧ n ≤ 9223372036854775807
theorem I64.wf {n : Int} (h : I64 n) : (Lit.int .i64 n).wf = true := WalkArith.wf_i64 (by have := h.1; have := h.2; omega)
theorem law3 : Maps.Keyed Try.prog 3 := Maps.int_keyed Try.underlying3
theorem key3 {n : Int} (h : I64 n) : keyOf Try.prog 3 (.int .i64 n) = some (.int .i64 n) := Maps.keyOf_int_mk Try.underlying3 h.wf
theorem wf_I64 {n : Int} (h : (Lit.int .i64 n).wf = true) : I64 n := by
  have h1 : IntKind.i64.min = -9223372036854775808 := by decide
  have h2 : IntKind.i64.max = 9223372036854775807 := by decide
  simp only [Lit.wf, h1, h2, Bool.and_eq_true, decide_eq_true_eq] at h
  exact h
structure AtB (base : Nat) (ok : Nat → Prop) (W : World) (x : Bf) (xb : Nat) (vb : Value) : Prop where
  blk : W.heap[xb]? = some (.cells #[vb, .int .i64 x.pins, .bool x.dirty] 65 (0, 0))
  R : Kd.R (Kd.int .u8) 5 W base ok vb x.b
  ok : ok xb
  lo : base ≤ xb
/-- a cache at cg: the disk's pointer, how many blocks it keeps, how often it read, its blocks and their order; all its blocks are of ok -/
structure IsC (base : Nat) (ok : Nat → Prop) (W : World) (cg mb : Nat) (dv vo : Value) (size reads : Int) (E : List (Bf × Nat × Value)) (O : List Int) : Prop where
  hg : W.heap[cg]? = some (.cells #[dv, .int .i64 size, .map (some mb), vo, .int .i64 reads] 58 (0, 0))
  map : MapAt Try.prog 3 W mb (E.map entB)
  ord : Kd.R (Kd.int .i64) 3 W base ok vo O
  okg : ok cg
  okm : ok mb
  log : base ≤ cg
  lom : base ≤ mb
  each : ∀ x ∈ E, AtB base ok W x.1 x.2.1 x.2.2
  nd : (E.map (·.2.1)).Nodup
/-- ok, and what is new -/
def okN (ok : Nat → Prop) (w w' : World) : Nat → Prop := fun k => ok k ∨ (w.heap.size ≤ k ∧ k < w'.heap.size)
section
variable {base : Nat} {ok ok' : Nat → Prop} {W W' w w' w1 w2 : World} {cg mb : Nat} {dv vo : Value} {size reads : Int} {E : List (Bf × Nat × Value)} {O : List Int}
theorem AtB.move {x : Bf} {xb : Nat} {vb : Value} (h : AtB base ok W x xb vb) (hm : ∀ k, ok k → W'.heap[k]? = W.heap[k]?) : AtB base ok W' x xb vb := ⟨(hm _ h.ok).trans h.blk, Kd.R_move h.R hm, h.ok, h.lo⟩
theorem AtB.mono {x : Bf} {xb : Nat} {vb : Value} (h : AtB base ok W x xb vb) (hm : ∀ k, ok k → ok' k) : AtB base ok' W x xb vb := ⟨h.blk, Kd.R_mono h.R hm, hm _ h.ok, h.lo⟩
theorem IsC.move (h : IsC base ok W cg mb dv vo size reads E O) (hm : ∀ k, ok k → W'.heap[k]? = W.heap[k]?) : IsC base ok W' cg mb dv vo size reads E O :=
  ⟨(hm _ h.okg).trans h.hg, h.map.move (hm _ h.okm), Kd.R_move h.ord hm, h.okg, h.okm, h.log, h.lom, fun x hx => (h.each x hx).move hm, h.nd⟩
theorem IsC.mono (h : IsC base ok W cg mb dv vo size reads E O) (hm : ∀ k, ok k → ok' k) : IsC base ok' W cg mb dv vo size reads E O :=
  ⟨h.hg, h.map, Kd.R_mono h.ord hm, hm _ h.okg, hm _ h.okm, h.log, h.lom, fun x hx => (h.each x hx).mono hm, h.nd⟩
theorem IsC.below (h : IsC base ok W cg mb dv vo size reads E O) (hok : ∀ k, ok k → k < W.heap.size) (hb : Below W.heap.size W W') : IsC base ok W' cg mb dv vo size reads E O := h.move (fun k hk => hb.block k (hok k hk))
theorem IsC.off (h : IsC base ok W cg mb dv vo size reads E O) (hok : ∀ k, ok k → k < W.heap.size) {okx : Nat → Prop} (ho : Off okx W W') (hap : ∀ k, ok k → ¬ okx k) : IsC base ok W' cg mb dv vo size reads E O := h.move (fun k hk => ho.block k (hok k hk) (hap k hk))
theorem okN_lt (hok : ∀ k, ok k → k < w.heap.size) (hs : w.heap.size ≤ w'.heap.size) : ∀ k, okN ok w w' k → k < w'.heap.size := by
  rintro k (h | h)
  · have := hok k h; omega
  · exact h.2
theorem okN_step (h1 : w.heap.size ≤ w1.heap.size) (h2 : w1.heap.size ≤ w2.heap.size) : ∀ k, okN (okN ok w w1) w1 w2 k → okN ok w w2 k := by
  rintro k ((h | h) | h)
  · exact .inl h
  · exact .inr ⟨h.1, by omega⟩
  · exact .inr ⟨by omega, h.2⟩
theorem off_step (h : Off ok w w1) (k : Off (okN ok w w1) w1 w2) : Off ok w w2 := h.then_ k (by
  rintro k (h | h)
  · exact .inl h
  · exact .inr h.1)
theorem off_stepM (h : Off ok w w1) (k : Off ok' w1 w2) (hs : ∀ k, ok' k → okN ok w w1 k) : Off ok w w2 := off_step h (k.mono hs)
/-- the order's slice is another -/
theorem IsC.order (h : IsC base ok W cg mb dv vo size reads E O) (hinj : ∀ k, ok k → ok' k) {v' : Value} {O' : List Int} (hg : W'.heap[cg]? = some (.cells #[dv, .int .i64 size, .map (some mb), v', .int .i64 reads] 58 (0, 0))) (hO : Kd.R (Kd.int .i64) 3 W' base ok' v' O')
    (hm : ∀ k, ok k → k ≠ cg → (∀ cs, W.heap[k]? ≠ some (.cells cs 3 (0, 0))) → W'.heap[k]? = W.heap[k]?) : IsC base ok' W' cg mb dv v' size reads E O' := by
  have hmap : W'.heap[mb]? = W.heap[mb]? := by
    obtain ⟨es, clock, hb, _⟩ := h.map
    exact hm mb h.okm (fun e => by rw [e, h.hg] at hb; cases hb) (fun cs e => by rw [hb] at e; cases e)
  refine ⟨hg, h.map.move hmap, hO, hinj _ h.okg, hinj _ h.okm, h.log, h.lom, fun x hx => AtB.mono (ok := ok) ?_ hinj, h.nd⟩
  have hx1 := h.each x hx
  have hR := Kd.R_bound hx1.R
  refine ⟨(hm _ hx1.ok (fun e => ?_) (fun cs e => ?_)).trans hx1.blk, Kd.R_mono (Kd.R_move hR (fun k hk => ?_)) (fun k hk => hk.1), hx1.ok, hx1.lo⟩
  · have h2 := hx1.blk
    rw [e, h.hg] at h2
    injection h2 with h2
    injection h2 with _ h2
    exact absurd h2 (by decide)
  · rw [hx1.blk] at e
    injection e with e
    injection e with _ e
    exact absurd e (by decide)
  · obtain ⟨hk1, _, _, q, hq, cells, hc⟩ := hk
    have hq5 : q = 5 := by simpa [Kd.int, Kd.scalar] using hq
    subst hq5
    refine hm k hk1 (fun e => ?_) (fun cs e => ?_)
    · rw [e, h.hg] at hc
      injection hc with hc
      injection hc with _ hc
      exact absurd hc (by decide)
    · rw [hc] at e
      injection e with e
      injection e with _ e
      exact absurd e (by decide)
theorem IsC.slot (h : IsC base ok W cg mb dv vo size reads E O) (v' : Value) : (W.setCell ⟨cg, 3, none⟩ v').heap[cg]? = some (.cells #[dv, .int .i64 size, .map (some mb), v', .int .i64 reads] 58 (0, 0)) := by
  simpa using blk_set h.hg 3 v'
end

/-- no cells turn but the cache's own and the order's -/
def KeepT (w w' : World) : Prop := ∀ (g : Nat) (cs : Array Value) (ty : TypeId) (fz : Nat × Nat), ty ≠ 3 → ty ≠ 58 → w.heap[g]? = some (.cells cs ty fz) → w'.heap[g]? = some (.cells cs ty fz)
theorem KeepT.refl (w : World) : KeepT w w := fun _ _ _ _ _ _ h => h
theorem KeepT.trans {w w1 w2 : World} (h : KeepT w w1) (k : KeepT w1 w2) : KeepT w w2 := fun g cs ty fz h3 h58 hc => k g cs ty fz h3 h58 (h g cs ty fz h3 h58 hc)
theorem KeepT.of_below {w w' : World} (hb : Below w.heap.size w w') : KeepT w w' := fun g cs ty fz _ _ hc => (hb.block g (blk_lt hc)).trans hc
theorem KeepT.of_map {P : Program} {k : TypeId} {w w' : World} {b : Nat} {l : List (Value × Value)} (hM : MapAt P k w b l) (hg : w.grownBy w' (some b)) : KeepT w w' := fun g cs ty fz _ _ hc => (hg.block g (blk_lt hc) (fun e => hM.ne_cells hc (Option.some.inj e))).trans hc
theorem KeepT.of_own {α : Type} {d : Kd α} {w w' : World} {base : Nat} {ok : Nat → Prop} {v : Value} {xs : List α} (h : Kd.R d 3 w base ok v xs) (hg : w.grownBy w' v.ownBlock) : KeepT w w' := fun g cs ty fz h3 _ hc => by
  refine (hg.block g (blk_lt hc) (fun e => ?_)).trans hc
  obtain ⟨inner, ho⟩ := Kd.R_own h
  obtain ⟨cells, hc2⟩ := own_typed ho g e.symm
  rw [hc] at hc2
  injection hc2 with hc2
  injection hc2 with _ hc2
  exact h3 hc2
theorem KeepT.set {w : World} {cg : Nat} {cs0 : Array Value} (h : w.heap[cg]? = some (.cells cs0 58 (0, 0))) (i : Nat) (u : Value) : KeepT w (w.setCell ⟨cg, i, none⟩ u) := fun g cs ty fz _ h58 hc => by
  refine (Below.heap_setCell w ⟨cg, i, none⟩ u g (fun e => ?_)).trans hc
  have e' : g = cg := e
  rw [e', h] at hc
  cases hc
  exact h58 rfl

set_option maxRecDepth 100000 in
set_option maxHeartbeats 1000000 in
theorem drop_calls {base : Nat} {ok : Nat → Prop} {w : World} {cg mb : Nat} {dv vo : Value} {size reads : Int} {E : List (Bf × Nat × Value)} {O : List Int} (h : IsC base ok w cg mb dv vo size reads E O) (hok : ∀ k, ok k → k < w.heap.size) (x : Int) :
    Calls Try.prog 36 #[.pointer (some ⟨cg, 3, none⟩), .int .i64 x] w fun e w' => e = .returned (.tuple #[]) ∧ (∃ v', IsC base ok w' cg mb dv v' size reads E (without x O)) ∧ Off ok w w' ∧ KeepT w w' := by
  obtain ⟨A, c, hvo⟩ := Kd.R_slice h.ord
  subst hvo
  have hB1 : Below w.heap.size w (w.alloc (.cells #[.int .i64 x] 3)) := below_alloc (Below.refl _ _) _
  have hI1 := h.below hok hB1
  have hx := blk_new w (.cells #[.int .i64 x] 3)
  have c3 := blk_cell h.hg 3
  have c3' := blk_cell hI1.hg 3
  simp only [List.getElem?_toArray, List.getElem?_cons_zero, List.getElem?_cons_succ] at c3 c3'
  have HI1 := Lib.hid hI1
  have HX := Lib.hid hx
  have HNE : Hid (∀ k, ok k → k ≠ w.heap.size) := Lib.hid (fun k hk e => by have := hok k hk; omega)
  have HOK := Lib.hid hok
  have HB1 := Lib.hid hB1
  have HG := Lib.hid h.okg
  clear h hI1 hx hok hB1
  go_enter Try.func36, Try.ntmps36
  go_wp2_with (go_at_call 41; (with_reducible refine (delete_calls HI1.out.ord HX.out HNE.out).mono ?_); rintro e w2 ⟨rfl, hR2, hg2⟩; have hn := Kd.R_ne HI1.out.ord HI1.out.hg (by decide); have hcg := blk_grown HI1.out.hg hg2 hn; have k3 := blk_cell hcg 3; have f3 := blk_frozen hcg 3; simp only [List.getElem?_toArray, List.getElem?_cons_zero, List.getElem?_cons_succ] at k3; have HR2 := Lib.hid hR2; have HG2 := Lib.hid hg2; have HCG := Lib.hid hcg; clear hR2 hg2 hn hcg)
  go_end0
  have hok3 := Kd.R_types HR2.out HCG.out (by decide)
  refine ⟨rfl, ⟨_, HI1.out.order (fun _ h => h) ?_ (Kd.R_mono (Kd.R_far hok3 (fun k hk => hk.2) _) (fun k hk => hk.1)) ?_⟩, ?_, ((KeepT.of_below HB1.out).trans (KeepT.of_own HI1.out.ord HG2.out)).trans (KeepT.set HCG.out 3 _)⟩
  · simpa using blk_set HCG.out 3 (.slice A (without x O).length c)
  · intro k hk hne h3
    refine (Below.heap_setCell _ _ _ k hne).trans (HG2.out.block k (Nat.lt_of_lt_of_le (HOK.out k hk) HB1.out.size) (fun e => ?_))
    obtain ⟨inner, ho⟩ := Kd.R_own HI1.out.ord
    obtain ⟨cells, hc⟩ := own_typed ho k e.symm
    exact h3 cells hc
  · have h1 : Off ok w w2 := (Off.of_below HB1.out ok).grown HG2.out (fun k e => .inl (HI1.out.ord.1 k e))
    exact h1.setCell (.inl HG.out) _

theorem info3 : (Try.prog.info? 3).map (fun i => (i.zero, i.size, i.bytes)) = some (some (.int .i64 0), 1, 8) := by kernel_rfl
set_option maxRecDepth 100000 in
set_option maxHeartbeats 1000000 in
theorem use_calls {base : Nat} {ok : Nat → Prop} {w : World} {cg mb : Nat} {dv vo : Value} {size reads : Int} {E : List (Bf × Nat × Value)} {O : List Int} (h : IsC base ok w cg mb dv vo size reads E O) (hok : ∀ k, ok k → k < w.heap.size) (hbs : base ≤ w.heap.size) (hl : O.length < 1000000) (x : Int) :
    Calls Try.prog 29 #[.pointer (some ⟨cg, 3, none⟩), .int .i64 x] w fun e w' => e = .returned (.tuple #[]) ∧ (∃ v', IsC base (okN ok w w') w' cg mb dv v' size reads E (without x O ++ [x])) ∧ Off ok w w' ∧ KeepT w w' := by
  have HI := Lib.hid h
  have HOK := Lib.hid hok
  have hwl := without_le x O
  clear h hok
  go_enter Try.func29, Try.ntmps29
  go_wp2_with (first
    | (go_at_call 36; (with_reducible refine (drop_calls HI.out HOK.out x).mono ?_); rintro e w1 ⟨rfl, ⟨v1, hI1⟩, ho1, hkt⟩; have HKT := Lib.hid hkt; clear hkt; obtain ⟨A, c, hv1⟩ := Kd.R_slice hI1.ord; subst hv1; have k3 := blk_cell hI1.hg 3; simp only [List.getElem?_toArray, List.getElem?_cons_zero, List.getElem?_cons_succ] at k3; have HI1 := Lib.hid hI1; have HO1 := Lib.hid ho1; have hsz := ho1.size; clear hI1 ho1)
    | (at_builtin; refine Kd.R_append (Kd.int .i64) (w0 := w1) base rfl (.tmp 11) (.tmp 13) 22 3 (.int .i64 0) 8 rfl Try.underlying22 info3 rfl (by decide) (by omega) (.slice A (without x O).length c) (without x O) x [.int .i64 x] (fun k => ok k ∨ w1.heap.size ≤ k) (fun _ => False) rfl rfl rfl (fun _ h => h.elim) (fun _ h => .inr h) (Kd.R_mono HI1.out.ord (fun _ h => .inl h)) (Below.refl _ _) (by omega) (by omega) ?_; intro v2 w2 hR2 hb2 hg2 hat2; obtain ⟨A2, c2, hv2⟩ := Kd.R_slice hR2; rw [show (without x O ++ [x]).length = (without x O).length + 1 by simp] at hv2; subst hv2; have hn := Kd.R_ne HI1.out.ord HI1.out.hg (by decide); have hcg := blk_grown HI1.out.hg hg2 hn; have f3 := blk_frozen hcg 3; have q3 := blk_cell hcg 3; simp only [List.getElem?_toArray, List.getElem?_cons_zero, List.getElem?_cons_succ] at q3; have HR2 := Lib.hid hR2; have HG2 := Lib.hid hg2; have HCG := Lib.hid hcg; have HAT := Lib.hid hat2; clear hR2 hb2 hg2 hn hcg hat2))
  go_end0
  have hsz2 := HG2.out.size
  have hoff : Off ok w w2 := (off_stepM (w1 := w1) HO1.out ((Off.refl ok w1).grown HG2.out (fun k e => .inl (HI1.out.ord.1 k e))) (fun k hk => .inl hk))
  have hR3 := Kd.R_bound (Kd.R_types HR2.out HCG.out (by decide))
  have hss : (w2.setCell ⟨cg, 3, none⟩ (.slice A2 ((without x O).length + 1) c2)).heap.size = w2.heap.size := by simp [World.setCell]
  have hinj : ∀ k, ok k → okN ok w (w2.setCell ⟨cg, 3, none⟩ (.slice A2 ((without x O).length + 1) c2)) k := fun k hk => .inl hk
  refine ⟨rfl, ⟨.slice A2 ((without x O).length + 1) c2, HI1.out.order hinj ?_ ?_ ?_⟩, hoff.setCell (.inl HI1.out.okg) _, (HKT.out.trans (KeepT.of_own HI1.out.ord HG2.out)).trans (KeepT.set HCG.out 3 _)⟩
  · simpa using blk_set HCG.out 3 (.slice A2 ((without x O).length + 1) c2)
  · refine Kd.R_mono (Kd.R_far hR3 (fun k hk => hk.1.2) _) (fun k hk => ?_)
    rcases hk.1.1 with h | h
    · exact .inl h
    · exact .inr ⟨by omega, by rw [hss]; exact hk.2.2.1⟩
  · intro k hk hne h3
    have hk1 : k < w1.heap.size := by have := HOK.out k hk; omega
    refine (Below.heap_setCell _ _ _ k hne).trans (HG2.out.block k hk1 (fun e => ?_))
    obtain ⟨inner, ho⟩ := Kd.R_own HI1.out.ord
    obtain ⟨cells, hc⟩ := own_typed ho k e.symm
    exact h3 cells hc
end Go.Proofs.Ythcafgjcgikgpaa.Given
