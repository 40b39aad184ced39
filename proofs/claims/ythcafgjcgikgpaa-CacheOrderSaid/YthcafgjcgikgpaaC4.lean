/- cache.New, Held, Reads, Release. -/
import Derived.Test.YthcafgjcgikgpaaC3
namespace Go.Proofs.Ythcafgjcgikgpaa.Given
open Go.RowKit Go.Shelf Go.Proofs.YthcafgjcgikgpaaW.PrintWords Go.Proofs.YthcafgjcgikgpaaW.PrintLast Go.Proofs.YthcafgjcgikgpaaW.PrintMore Go.Proofs.YthcafgjcgikgpaaBase
attribute [local go_sem] max2_int min2_int max_two min_two
set_option linter.unusedVariables false
set_option linter.unusedSimpArgs false

set_option maxRecDepth 100000 in
set_option maxHeartbeats 1000000 in
theorem clone3_calls (A0 : Option Addr) (c0 : Nat) (l0 : List Int) (w : World) (hr0 : Kd.C (Kd.int .i64) w A0 l0.length l0) (hc0 : l0.length ≤ c0) (hlen : l0.length < 1000000000) :
    Calls Try.prog 32 #[.slice A0 l0.length c0] w fun e w' => ∃ v0_ : Value, e = .returned (v0_) ∧ Kd.R (Kd.int .i64) 3 w' w.heap.size (fun _ => True) v0_ l0 ∧ Below w.heap.size w w' := by
  have heq := fun (w : World) (a : Option Addr) (n c : Nat) => Lib.run_eql_slice_nil (P := Try.prog) w 22 3 a n c 0 0 Try.underlying22
  cases A0 with
  | none =>
    have hl : l0 = [] := by
      have := hr0.2.2
      cases l0 with
      | nil => rfl
      | cons x l => obtain ⟨ad, e, _⟩ := this (by simp); cases e
    subst hl
    clear hr0 hc0
    go_enter Try.func32, Try.ntmps32
    go_wp2
    go_ret
    exact ⟨_, rfl, Kd.R_nil _ _ _ _ _, Below.refl _ _⟩
  | some ad =>
    have HC := Lib.hid hr0
    clear hr0
    have HO : Hid (Kd.R (Kd.int .i64) 3 (w.alloc (.cells #[] 3)) w.heap.size (fun _ => True) (.slice (some ⟨w.heap.size, 0, none⟩) 0 0) []) := Lib.hid (R_of_block (xs := []) (blk_new w (.cells #[] 3)) (Nat.le_refl _) trivial (by simp))
    go_enter Try.func32, Try.ntmps32
    go_wp2_with (at_builtin; refine Kd.R_append_rows (Kd.int .i64) (w0 := w) w.heap.size rfl (.tmp 5) (.tmp 6) 22 3 (.int .i64 0) 8 rfl Try.underlying22 info3 rfl (by decide) (by omega) (.slice (some ⟨w.heap.size, 0, none⟩) 0 0) [] l0 _ _ c0 (fun _ => True) (fun _ => False) rfl rfl HO.out (Kd.C_alloc HC.out _) (fun _ _ h => h) (fun _ h => h.elim) (fun _ _ => trivial) ((Below.refl _ w).alloc (Nat.le_refl _) _) (by simp) (by simp; omega) ?_; intro v1 w1 hown hb1 hg hat)
    obtain ⟨A1, c1, rfl⟩ := Kd.R_slice hown
    go_wp2
    go_ret
    exact ⟨_, rfl, by simpa using hown, hb1⟩

/-- at least one -/
def most (n : Int) : Int := if 1 < n then n else 1
set_option maxRecDepth 100000 in
set_option maxHeartbeats 1000000 in
theorem cnew_calls (d : Option Addr) (n : Int) (w : World) : Calls Try.prog 9 #[.pointer d, .int .i64 n] w fun e w' => ∃ cg mb, e = .returned (.pointer (some ⟨cg, 0, none⟩)) ∧ WC w.heap.size (fun k => w.heap.size ≤ k ∧ k < w'.heap.size) w' cg mb (.pointer d) (most n) 0 [] ∧ Below w.heap.size w w' := by
  have hfin : ∀ m : Int, WC w.heap.size (fun k => w.heap.size ≤ k ∧ k < ((w.alloc (.map #[] 0)).alloc (.cells #[.pointer d, .int .i64 m, .map (some w.heap.size), .slice none 0 0, .int .i64 0] 58)).heap.size) ((w.alloc (.map #[] 0)).alloc (.cells #[.pointer d, .int .i64 m, .map (some w.heap.size), .slice none 0 0, .int .i64 0] 58)) (w.heap.size + 1) w.heap.size (.pointer d) m 0 [] ∧
      Below w.heap.size w ((w.alloc (.map #[] 0)).alloc (.cells #[.pointer d, .int .i64 m, .map (some w.heap.size), .slice none 0 0, .int .i64 0] 58)) := by
    intro m
    have hb := blk_new (w.alloc (.map #[] 0)) (.cells #[.pointer d, .int .i64 m, .map (some w.heap.size), .slice none 0 0, .int .i64 0] 58)
    rw [World.size_alloc] at hb
    refine ⟨⟨.slice none 0 0, [], ⟨hb, (MapAt.new w).alloc _, Kd.R_nil _ _ _ _ _, ⟨by omega, by simp⟩, ⟨Nat.le_refl _, by simp; omega⟩, by omega, Nat.le_refl _, by simp, by simp⟩, by simp⟩, ((Below.refl _ w).alloc (Nat.le_refl _) _).alloc (by simp) _⟩
  have HF := Lib.hid hfin
  have hmk := fun w => @run_makeMap Try.prog w
  clear hfin
  unfold most
  by_cases h : 1 < n
  · go_enter Try.func9, Try.ntmps9
    go_wp2
    go_ret
    exact ⟨_, rfl, ⟨_, (HF.out _).1⟩, (HF.out _).2⟩
  · go_enter Try.func9, Try.ntmps9
    go_wp2
    go_ret
    exact ⟨_, rfl, ⟨_, (HF.out _).1⟩, (HF.out _).2⟩

set_option maxRecDepth 100000 in
theorem held_calls {base : Nat} {ok : Nat → Prop} {w : World} {cg mb : Nat} {dv : Value} {size reads : Int} {L : List Bf} (h : WC base ok w cg mb dv size reads L) (hl : L.length < 1000000) :
    Calls Try.prog 14 #[.pointer (some ⟨cg, 0, none⟩)] w fun e w' => ∃ v, e = .returned v ∧ Kd.R (Kd.int .i64) 3 w' w.heap.size (fun _ => True) v (L.map (·.blk)) ∧ Below w.heap.size w w' := by
  obtain ⟨vo, E, hI, hp⟩ := h
  obtain ⟨A, c, hvo⟩ := Kd.R_slice hI.ord
  subst hvo
  obtain ⟨_, hcc, hC⟩ := Kd.R_reads' hI.ord
  have c3 := blk_cell hI.hg 3
  simp only [List.getElem?_toArray, List.getElem?_cons_zero, List.getElem?_cons_succ] at c3
  have hlm : (L.map (·.blk)).length < 1000000000 := by rw [List.length_map]; omega
  obtain ⟨O, hO⟩ : ∃ O, L.map (·.blk) = O := ⟨_, rfl⟩
  rw [hO] at hcc hC c3 hlm ⊢
  have HC := Lib.hid hC
  clear hI hp hO hC
  go_enter Try.func14, Try.ntmps14
  go_wp2_with (go_at_call 32; (with_reducible refine (clone3_calls A c O _ HC.out hcc hlm).mono ?_); rintro e w' ⟨v, rfl, hR, hb⟩; obtain ⟨A2, c2, hv⟩ := Kd.R_slice hR; subst hv; have HR := Lib.hid hR; have HB := Lib.hid hb; clear hR hb)
  go_ret
  exact ⟨_, rfl, HR.out, HB.out⟩
set_option maxRecDepth 100000 in
theorem reads_calls {base : Nat} {ok : Nat → Prop} {w : World} {cg mb : Nat} {dv : Value} {size reads : Int} {L : List Bf} (h : WC base ok w cg mb dv size reads L) :
    Calls Try.prog 15 #[.pointer (some ⟨cg, 0, none⟩)] w fun e w' => e = .returned (.int .i64 reads) ∧ w = w' := by
  obtain ⟨vo, E, hI, hp⟩ := h
  have c4 := blk_cell hI.hg 4
  simp only [List.getElem?_toArray, List.getElem?_cons_zero, List.getElem?_cons_succ] at c4
  clear hI hp
  go_enter Try.func15, Try.ntmps15
  go_wp2
  go_ret
  exact ⟨rfl, rfl⟩

/-- the kept block n turned by f -/
def onB (L : List Bf) (n : Int) (f : Bf → Bf) : List Bf := L.map fun x => if x.blk = n then f x else x
def findB (L : List Bf) (n : Int) : Option Bf := L.find? fun x => decide (x.blk = n)
theorem onB_blk (L : List Bf) (n : Int) (f : Bf → Bf) (hf : ∀ x, (f x).blk = x.blk) : (onB L n f).map (·.blk) = L.map (·.blk) := by
  unfold onB
  rw [List.map_map]
  refine List.map_congr_left (fun x _ => ?_)
  simp only [Function.comp]
  split
  · exact hf x
  · rfl
/-- one kept block has turned -/
theorem IsC.setE {base : Nat} {ok ok' : Nat → Prop} {w w' : World} {cg mb : Nat} {dv vo : Value} {size reads : Int} {E1 E2 : List (Bf × Nat × Value)} {x y : Bf} {xb : Nat} {vb vb' : Value} {O : List Int} (h : IsC base ok w cg mb dv vo size reads (E1 ++ (x, xb, vb) :: E2) O)
    (hinj : ∀ k, ok k → ok' k) (hk : y.blk = x.blk) (hy : AtB base ok' w' y xb vb') (hm : ∀ k, ok k → k ≠ xb → w'.heap[k]? = w.heap[k]?) : IsC base ok' w' cg mb dv vo size reads (E1 ++ (y, xb, vb') :: E2) O := by
  have hx := h.each (x, xb, vb) (by simp)
  have hty : ∀ {g : Nat} {cs : Array Value} {ty : Nat}, w.heap[g]? = some (.cells cs ty (0, 0)) → ty ≠ 65 → g ≠ xb := fun hc hne e => by
    rw [e, hx.blk] at hc
    injection hc with hc
    injection hc with _ hc
    exact hne hc.symm
  have hR : ∀ {α : Type} {d : Kd α} {e : Nat} {v : Value} {xs : List α}, Kd.R d e w base ok v xs → (∀ q ∈ e :: d.E, q ≠ 65) → Kd.R d e w' base ok' v xs := fun hr ht => Kd.R_mono (Kd.R_move (Kd.R_types hr hx.blk ht) (fun k hk => hm k hk.1 hk.2)) (fun k hk => hinj k hk.1)
  have hmb : mb ≠ xb := fun e => h.map.ne_cells hx.blk e.symm
  have hent : (E1 ++ (y, xb, vb') :: E2).map entB = (E1 ++ (x, xb, vb) :: E2).map entB := by simp only [List.map_append, List.map_cons, entB, hk]
  have hnd : ∀ z ∈ E1 ++ E2, z.2.1 ≠ xb := by
    have := h.nd
    rw [List.map_append, List.map_cons, List.nodup_append] at this
    obtain ⟨_, h2, h3⟩ := this
    rw [List.nodup_cons] at h2
    intro z hz e
    rw [List.mem_append] at hz
    rcases hz with hz | hz
    · exact h3 _ (List.mem_map.2 ⟨z, hz, rfl⟩) xb (by simp) e
    · exact h2.1 (List.mem_map.2 ⟨z, hz, e⟩)
  have hoth : ∀ z ∈ E1 ++ E2, AtB base ok' w' z.1 z.2.1 z.2.2 := fun z hz => by
    have h1 := h.each z (by simp only [List.mem_append, List.mem_cons] at hz ⊢; rcases hz with hz | hz <;> simp [hz])
    exact ⟨(hm _ h1.ok (hnd z hz)).trans h1.blk, hR h1.R (by decide), hinj _ h1.ok, h1.lo⟩
  refine ⟨(hm _ h.okg (hty h.hg (by decide))).trans h.hg, by rw [hent]; exact h.map.move (hm _ h.okm hmb), hR h.ord (by decide), hinj _ h.okg, hinj _ h.okm, h.log, h.lom, fun z hz => ?_, ?_⟩
  · rw [List.mem_append, List.mem_cons] at hz
    rcases hz with hz | rfl | hz
    · exact hoth z (by simp [hz])
    · exact hy
    · exact hoth z (by simp [hz])
  · have := h.nd
    simpa using this
/-- a kept block, in memory -/
theorem WC.split {base : Nat} {ok : Nat → Prop} {w : World} {cg mb : Nat} {dv : Value} {size reads : Int} {L : List Bf} (h : WC base ok w cg mb dv size reads L) {n : Int} {x : Bf} (hf : findB L n = some x) :
    x.blk = n ∧ x ∈ L ∧ ∃ vo E1 xb vb E2, IsC base ok w cg mb dv vo size reads (E1 ++ (x, xb, vb) :: E2) (L.map (·.blk)) ∧ ((E1 ++ (x, xb, vb) :: E2).map (·.1)).Perm L := by
  obtain ⟨vo, E, hI, hp⟩ := h
  have h1 := List.find?_some hf
  have h2 := List.mem_of_find?_eq_some hf
  obtain ⟨e, he, rfl⟩ := List.mem_map.1 (hp.mem_iff.2 h2)
  obtain ⟨E1, E2, rfl⟩ := List.append_of_mem he
  obtain ⟨x, xb, vb⟩ := e
  exact ⟨by simpa using h1, h2, vo, E1, xb, vb, E2, hI, hp⟩
theorem WC.none {base : Nat} {ok : Nat → Prop} {w : World} {cg mb : Nat} {dv vo : Value} {size reads : Int} {L : List Bf} {E : List (Bf × Nat × Value)} (hp : (E.map (·.1)).Perm L) {n : Int} (hf : findB L n = none) : ∀ p ∈ E.map entB, p.1 ≠ .int .i64 n := by
  intro p hp2 e
  obtain ⟨z, hz, rfl⟩ := List.mem_map.1 hp2
  have hm := hp.mem_iff.1 (List.mem_map.2 ⟨z, hz, rfl⟩)
  have := List.find?_eq_none.1 hf _ hm
  simp only [entB, Value.int.injEq, true_and] at e
  simp [e] at this
/-- turned in memory, turned in the row -/
theorem perm_on {E1 E2 : List (Bf × Nat × Value)} {x y : Bf} {xb : Nat} {vb vb' : Value} {L : List Bf} (hp : ((E1 ++ (x, xb, vb) :: E2).map (·.1)).Perm L) (hn : ((E1 ++ (x, xb, vb) :: E2).map (fun e => e.1.blk)).Nodup) (f : Bf → Bf) (hy : y = f x) : ((E1 ++ (y, xb, vb') :: E2).map (·.1)).Perm (onB L x.blk f) := by
  have h1 := hp.map (fun z : Bf => if z.blk = x.blk then f z else z)
  have e : ((E1 ++ (x, xb, vb) :: E2).map (·.1)).map (fun z : Bf => if z.blk = x.blk then f z else z) = (E1 ++ (y, xb, vb') :: E2).map (·.1) := by
    rw [List.map_append, List.map_cons, List.nodup_append] at hn
    obtain ⟨_, h2, h3⟩ := hn
    rw [List.nodup_cons] at h2
    rw [List.map_append, List.map_cons, List.map_append, List.map_cons, List.map_append, List.map_cons, hy, if_pos rfl]
    congr 1
    · rw [List.map_map]
      refine List.map_congr_left (fun z hz => ?_)
      simp only [Function.comp]
      rw [if_neg (fun e => h3 _ (List.mem_map.2 ⟨z, hz, rfl⟩) x.blk (by simp) e)]
    · congr 1
      rw [List.map_map]
      refine List.map_congr_left (fun z hz => ?_)
      simp only [Function.comp]
      rw [if_neg (fun e => h2.1 (List.mem_map.2 ⟨z, hz, e⟩))]
  rw [e] at h1
  exact h1
theorem findB_on {L : List Bf} {n : Int} {x : Bf} (hf : findB L n = some x) (hn : (L.map (·.blk)).Nodup) : ∃ L1 L2, L = L1 ++ x :: L2 ∧ (∀ y ∈ L1, y.blk ≠ n) ∧ ∀ y ∈ L2, y.blk ≠ n := by
  have h1 := List.find?_some hf
  have h2 := List.mem_of_find?_eq_some hf
  have hx : x.blk = n := by simpa using h1
  obtain ⟨L1, L2, rfl⟩ := List.append_of_mem h2
  rw [List.map_append, List.map_cons, List.nodup_append] at hn
  obtain ⟨_, h3, h4⟩ := hn
  rw [List.nodup_cons] at h3
  exact ⟨L1, L2, rfl, fun y hy e => h4 _ (List.mem_map.2 ⟨y, hy, rfl⟩) x.blk (by simp) (e.trans hx.symm), fun y hy e => h3.1 (List.mem_map.2 ⟨y, hy, e.trans hx.symm⟩)⟩

/-- what a release makes -/
def relL (size n : Int) (L : List Bf) : List Bf := trimL size (match findB L n with | some x => if 0 < x.pins then onB L n (fun y => { y with pins := y.pins - 1 }) else L | none => L)
def relOk (n : Int) (L : List Bf) : Bool := match findB L n with | some x => decide (0 < x.pins) | none => false
theorem zero61 (w : World) : (zeroValue 61).run Try.prog w = .ok (.pointer none) w := by kernel_rfl
theorem WC.off {base : Nat} {ok : Nat → Prop} {w w' : World} {cg mb : Nat} {dv : Value} {size reads : Int} {L : List Bf} (h : WC base ok w cg mb dv size reads L) (hok : ∀ k, ok k → k < w.heap.size) {okx : Nat → Prop} (ho : Off okx w w') (hap : ∀ k, ok k → ¬ okx k) : WC base ok w' cg mb dv size reads L := by
  obtain ⟨vo, E, hI, hp⟩ := h
  exact ⟨vo, E, hI.off hok ho hap, hp⟩
theorem WC.below {base : Nat} {ok : Nat → Prop} {w w' : World} {cg mb : Nat} {dv : Value} {size reads : Int} {L : List Bf} (h : WC base ok w cg mb dv size reads L) (hok : ∀ k, ok k → k < w.heap.size) (hb : Below w.heap.size w w') : WC base ok w' cg mb dv size reads L := by
  obtain ⟨vo, E, hI, hp⟩ := h
  exact ⟨vo, E, hI.below hok hb, hp⟩

set_option maxRecDepth 100000 in
set_option maxHeartbeats 1000000 in
theorem release_calls {base : Nat} {ok : Nat → Prop} {w : World} {cg mb : Nat} {dv : Value} {size reads : Int} {L : List Bf} (h : WC base ok w cg mb dv size reads L) (hok : ∀ k, ok k → k < w.heap.size) {n : Int} (hn : I64 n) (hpin : ∀ x ∈ L, 0 ≤ x.pins ∧ x.pins < 1000000000) :
    Calls Try.prog 12 #[.pointer (some ⟨cg, 0, none⟩), .int .i64 n] w fun e w' => e = .returned (.bool (relOk n L)) ∧ WC base ok w' cg mb dv size reads (relL size n L) ∧ Off ok w w' := by
  unfold relOk relL
  cases hf : findB L n with
  | none =>
    have HW := Lib.hid h
    have HOK := Lib.hid hok
    obtain ⟨vo, E, hI, hp⟩ := h
    have hl := hI.map.look_miss law3 Try.underlying54 (zero61 _) (key3 hn) (WC.none (base := base) (ok := ok) (w := w) (cg := cg) (mb := mb) (dv := dv) (vo := vo) (size := size) (reads := reads) hp hf) true
    have c2 := blk_cell hI.hg 2
    simp only [List.getElem?_toArray, List.getElem?_cons_zero, List.getElem?_cons_succ] at c2
    simp only
    clear hok hI hp hf hpin hn
    go_enter Try.func12, Try.ntmps12
    go_wp2_with (go_at_call 30; (with_reducible refine (trim_calls HW.out HOK.out).mono ?_); rintro e w' ⟨rfl, hW, ho, _⟩; have HW2 := Lib.hid hW; have HO2 := Lib.hid ho; clear hW ho)
    go_ret
    exact ⟨rfl, HW2.out, HO2.out⟩
  | some x =>
    obtain ⟨hxb, hxm, vo, E1, xb, vb, E2, hI, hp⟩ := h.split hf
    obtain ⟨hp0, hp1⟩ := hpin x hxm
    have hl := hI.map.look_hit law3 Try.underlying54 (key3 hn) (v := .pointer (some ⟨xb, 0, none⟩)) (by rw [List.map_append, List.map_cons]; simp [entB, hxb]) true
    have hx := hI.each (x, xb, vb) (by simp)
    have c2 := blk_cell hI.hg 2
    have x1 := blk_cell hx.blk 1
    have f1 := blk_frozen hx.blk 1
    simp only [List.getElem?_toArray, List.getElem?_cons_zero, List.getElem?_cons_succ] at c2 x1
    simp only
    have HOK := Lib.hid hok
    by_cases hpos : 0 < x.pins
    · have s1 : decide (0 < x.pins) = true := by simpa using hpos
      have hset : Off ok w (w.setCell ⟨xb, 1, none⟩ (.int .i64 (x.pins - 1))) := Off.set1 w _ hx.ok _
      have HW : Hid (WC base ok (w.setCell ⟨xb, 1, none⟩ (.int .i64 (x.pins - 1))) cg mb dv size reads (onB L n (fun y => { y with pins := y.pins - 1 }))) := Lib.hid (by
        have hne : ∀ k, ok k → k ≠ xb → (w.setCell ⟨xb, 1, none⟩ (.int .i64 (x.pins - 1))).heap[k]? = w.heap[k]? := fun k _ hk => Below.heap_setCell w ⟨xb, 1, none⟩ _ k hk
        have hy : AtB base ok (w.setCell ⟨xb, 1, none⟩ (.int .i64 (x.pins - 1))) { x with pins := x.pins - 1 } xb vb := ⟨by simpa using blk_set hx.blk 1 (.int .i64 (x.pins - 1)), Kd.R_set hx.R hx.blk (by decide) 1 _, hx.ok, hx.lo⟩
        have hI2 := hI.setE (fun _ h => h) (y := { x with pins := x.pins - 1 }) rfl hy hne
        have hp2 := perm_on (vb' := vb) hp hI.nodup (fun y => { y with pins := y.pins - 1 }) (y := { x with pins := x.pins - 1 }) rfl
        rw [hxb] at hp2 hI2
        refine ⟨vo, _, ?_, hp2⟩
        rw [onB_blk L n (fun y => { y with pins := y.pins - 1 }) (fun _ => rfl)]
        exact hI2)
      have HOK2 : Hid (∀ k, ok k → k < (w.setCell ⟨xb, 1, none⟩ (.int .i64 (x.pins - 1))).heap.size) := Lib.hid (fun k hk => by have := hok k hk; simpa [World.setCell] using this)
      have HS := Lib.hid hset
      rw [s1, if_pos hpos]
      clear h hok hI hp hf hpin hn hx hxm hset
      go_enter Try.func12, Try.ntmps12
      go_wp2_with (go_at_call 30; (with_reducible refine (trim_calls HW.out HOK2.out).mono ?_); rintro e w' ⟨rfl, hW, ho, _⟩; have HW2 := Lib.hid hW; have HO2 := Lib.hid (HS.out.trans ho); clear hW ho)
      go_ret
      exact ⟨rfl, HW2.out, HO2.out⟩
    · have s1 : decide (0 < x.pins) = false := by simpa using hpos
      have HW := Lib.hid h
      rw [s1, if_neg hpos]
      have hz : x.pins = 0 := by omega
      clear h hok hI hp hf hpin hn hx hxm
      go_enter Try.func12, Try.ntmps12
      go_wp2_with (go_at_call 30; (with_reducible refine (trim_calls HW.out HOK.out).mono ?_); rintro e w' ⟨rfl, hW, ho, _⟩; have HW2 := Lib.hid hW; have HO2 := Lib.hid ho; clear hW ho)
      go_ret
      exact ⟨rfl, HW2.out, HO2.out⟩
end Go.Proofs.Ythcafgjcgikgpaa.Given
