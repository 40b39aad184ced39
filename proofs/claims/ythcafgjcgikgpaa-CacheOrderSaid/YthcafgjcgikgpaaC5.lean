/- (*Cache).load and (*Cache).Get. -/
import Derived.Test.YthcafgjcgikgpaaC4
namespace Go.Proofs.Ythcafgjcgikgpaa.Given
open Go.RowKit Go.Shelf Go.Proofs.YthcafgjcgikgpaaW.PrintWords Go.Proofs.YthcafgjcgikgpaaW.PrintLast Go.Proofs.YthcafgjcgikgpaaW.PrintMore Go.Proofs.YthcafgjcgikgpaaBase
set_option linter.unusedVariables false
set_option linter.unusedSimpArgs false

section
variable {base : Nat} {ok ok' : Nat → Prop} {w w' : World} {cg mb : Nat} {dv vo : Value} {size reads : Int} {E : List (Bf × Nat × Value)} {O : List Int}
theorem IsC.setR (h : IsC base ok w cg mb dv vo size reads E O) (r : Int) : IsC base ok (w.setCell ⟨cg, 4, none⟩ (.int .i64 r)) cg mb dv vo size r E O := by
  have hm : ∀ k, k ≠ cg → (w.setCell ⟨cg, 4, none⟩ (.int .i64 r)).heap[k]? = w.heap[k]? := fun k hk => Below.heap_setCell w ⟨cg, 4, none⟩ _ k hk
  have hmb : mb ≠ cg := fun e => h.map.ne_cells h.hg e.symm
  refine ⟨by simpa using blk_set h.hg 4 (.int .i64 r), h.map.move (hm _ hmb), Kd.R_set h.ord h.hg (by decide) 4 _, h.okg, h.okm, h.log, h.lom, fun x hx => ?_, h.nd⟩
  have hx1 := h.each x hx
  exact ⟨(hm _ (blk_ne hx1.blk h.hg (by decide))).trans hx1.blk, Kd.R_set hx1.R h.hg (by decide) 4 _, hx1.ok, hx1.lo⟩
theorem IsC.newE (h : IsC base ok w cg mb dv vo size reads E O) (hok : ∀ k, ok k → k < w.heap.size) (hinj : ∀ k, ok k → ok' k) {y : Bf} {xb : Nat} {vb : Value} (hmap : MapAt Try.prog 3 w' mb (E.map entB ++ [entB (y, xb, vb)])) (hy : AtB base ok' w' y xb vb) (hxb : w.heap.size ≤ xb) (hm : ∀ k, k < w.heap.size → k ≠ mb → w'.heap[k]? = w.heap[k]?) :
    IsC base ok' w' cg mb dv vo size reads (E ++ [(y, xb, vb)]) O := by
  have hnc : ∀ {g : Nat} {cs : Array Value} {ty : TypeId}, w.heap[g]? = some (.cells cs ty (0, 0)) → g ≠ mb := fun hc => h.map.ne_cells hc
  have hR : ∀ {α : Type} {d : Kd α} {e : Nat} {v : Value} {xs : List α}, Kd.R d e w base ok v xs → Kd.R d e w' base ok' v xs := fun hr => Kd.R_mono (Kd.R_move (Kd.R_bound hr) (fun k hk => by
    obtain ⟨hk1, hk2, hk3, q, hq, cells, hc⟩ := hk
    exact hm k hk3 (hnc hc))) (fun k hk => hinj k hk.1)
  refine ⟨(hm _ (blk_lt h.hg) (hnc h.hg)).trans h.hg, by rw [List.map_append]; exact hmap, hR h.ord, hinj _ h.okg, hinj _ h.okm, h.log, h.lom, fun z hz => ?_, ?_⟩
  · rw [List.mem_append, List.mem_singleton] at hz
    rcases hz with hz | rfl
    · have h1 := h.each z hz
      exact ⟨(hm _ (blk_lt h1.blk) (hnc h1.blk)).trans h1.blk, hR h1.R, hinj _ h1.ok, h1.lo⟩
    · exact hy
  · rw [List.map_append, List.nodup_append]
    refine ⟨h.nd, by simp, fun a ha b hb => ?_⟩
    obtain ⟨z, hz, rfl⟩ := List.mem_map.1 ha
    have := blk_lt (h.each z hz).blk
    simp only [List.map_cons, List.map_nil, List.mem_singleton] at hb
    omega
theorem IsD_off {okd okx : Nat → Prop} {dg : Nat} {db : List Int} {dl : List S31} {cut : Int} {dead : Bool} (h : IsD base okd w dg db dl cut dead) (hokd : ∀ k, okd k → k < w.heap.size) (ho : Off okx w w') (hap : ∀ k, okd k → ¬ okx k) : IsD base okd w' dg db dl cut dead := h.move (fun k hk => ho.block k (hokd k hk) (hap k hk))
end

set_option maxRecDepth 100000 in
set_option maxHeartbeats 1000000 in
theorem load_nil {base : Nat} {ok : Nat → Prop} {w : World} {cg mb : Nat} {size reads : Int} {L : List Bf} (h : WC base ok w cg mb (.pointer none) size reads L) (n : Int) :
    Calls Try.prog 28 #[.pointer (some ⟨cg, 0, none⟩), .int .i64 n] w fun e w' => e = .returned (.tuple #[.pointer none, .bool false]) ∧ w = w' := by
  obtain ⟨vo, E, hI, hp⟩ := h
  have c0 := blk_cell hI.hg 0
  simp only [List.getElem?_toArray, List.getElem?_cons_zero, List.getElem?_cons_succ] at c0
  clear hI hp
  go_enter Try.func28, Try.ntmps28
  go_wp2
  go_ret2
  exact ⟨rfl, rfl⟩

set_option maxRecDepth 100000 in
set_option maxHeartbeats 1000000 in
theorem load_no {base : Nat} {ok okd : Nat → Prop} {w : World} {cg mb dg : Nat} {vo : Value} {size reads : Int} {E : List (Bf × Nat × Value)} {O : List Int} (h : IsC base ok w cg mb (.pointer (some ⟨dg, 0, none⟩)) vo size reads E O) (hok : ∀ k, ok k → k < w.heap.size)
    {db : List Int} {dl : List S31} {cut : Int} {dead : Bool} (hd : IsD base okd w dg db dl cut dead) (hokd : ∀ k, okd k → k < w.heap.size) (hap : ∀ k, okd k → ¬ ok k) (hdb : db.length < 1000000000) {n : Int} (hr : readP db dead n = none) (hrd : 0 ≤ reads ∧ reads < 1000000000) :
    Calls Try.prog 28 #[.pointer (some ⟨cg, 0, none⟩), .int .i64 n] w fun e w' => e = .returned (.tuple #[.pointer none, .bool false]) ∧ IsC base ok w' cg mb (.pointer (some ⟨dg, 0, none⟩)) vo size (reads + 1) E O ∧ Off ok w w' := by
  have c0 := blk_cell h.hg 0
  have c4 := blk_cell h.hg 4
  have f4 := blk_frozen h.hg 4
  have hI1 := h.setR (reads + 1)
  have ho1 : Off ok w (w.setCell ⟨cg, 4, none⟩ (.int .i64 (reads + 1))) := Off.set1 w _ h.okg _
  have HD1 := Lib.hid (IsD_off hd hokd ho1 hap)
  have d0 := blk_cell hI1.hg 0
  simp only [List.getElem?_toArray, List.getElem?_cons_zero, List.getElem?_cons_succ] at c0 c4 d0
  have HI1 := Lib.hid hI1
  have HO1 := Lib.hid ho1
  have HOK1 : Hid (∀ k, ok k → k < (w.setCell ⟨cg, 4, none⟩ (.int .i64 (reads + 1))).heap.size) := Lib.hid (fun k hk => by have := hok k hk; simpa [World.setCell] using this)
  have HR := Lib.hid hr
  obtain ⟨hr0, hr1⟩ := hrd
  clear h hok hd hokd hap hI1 ho1 hr
  go_enter Try.func28, Try.ntmps28
  go_wp2_with (go_at_call 27; (with_reducible refine (readD n HD1.out hdb).mono ?_); rintro e w2 ⟨v, rfl, hRv, hb⟩; rw [HR.out] at hRv ⊢; obtain ⟨A, c, hv⟩ := Kd.R_slice hRv; subst hv; have HB := Lib.hid hb; clear hb hRv)
  go_ret2
  exact ⟨rfl, HI1.out.below HOK1.out HB.out, HO1.out.below HB.out⟩

set_option maxRecDepth 100000 in
set_option maxHeartbeats 1000000 in
theorem load_yes {base : Nat} {ok okd : Nat → Prop} {w : World} {cg mb dg : Nat} {vo : Value} {size reads : Int} {E : List (Bf × Nat × Value)} {O : List Int} (h : IsC base ok w cg mb (.pointer (some ⟨dg, 0, none⟩)) vo size reads E O) (hok : ∀ k, ok k → k < w.heap.size) (hbs : base ≤ w.heap.size)
    {db : List Int} {dl : List S31} {cut : Int} {dead : Bool} (hd : IsD base okd w dg db dl cut dead) (hokd : ∀ k, okd k → k < w.heap.size) (hap : ∀ k, okd k → ¬ ok k) (hdb : db.length < 1000000000) {n : Int} (hn : I64 n) {b : List Int} (hr : readP db dead n = some b) (hrd : 0 ≤ reads ∧ reads < 1000000000) (hno : ∀ p ∈ E.map entB, p.1 ≠ .int .i64 n) :
    Calls Try.prog 28 #[.pointer (some ⟨cg, 0, none⟩), .int .i64 n] w fun e w' => ∃ xb vb, e = .returned (.tuple #[.pointer (some ⟨xb, 0, none⟩), .bool true]) ∧ IsC base (okN ok w w') w' cg mb (.pointer (some ⟨dg, 0, none⟩)) vo size (reads + 1) (E ++ [(⟨n, b, 0, false⟩, xb, vb)]) O ∧ Off ok w w' := by
  have c0 := blk_cell h.hg 0
  have c4 := blk_cell h.hg 4
  have f4 := blk_frozen h.hg 4
  have hI1 := h.setR (reads + 1)
  have ho1 : Off ok w (w.setCell ⟨cg, 4, none⟩ (.int .i64 (reads + 1))) := Off.set1 w _ h.okg _
  have HD1 := Lib.hid (IsD_off hd hokd ho1 hap)
  have d0 := blk_cell hI1.hg 0
  simp only [List.getElem?_toArray, List.getElem?_cons_zero, List.getElem?_cons_succ] at c0 c4 d0
  have HI1 := Lib.hid hI1
  have HO1 := Lib.hid ho1
  have HSZ : Hid ((w.setCell ⟨cg, 4, none⟩ (.int .i64 (reads + 1))).heap.size = w.heap.size) := Lib.hid (by simp [World.setCell])
  have HOK := Lib.hid hok
  have HR := Lib.hid hr
  have HN := Lib.hid (key3 hn)
  have HNO := Lib.hid hno
  obtain ⟨hr0, hr1⟩ := hrd
  clear h hok hd hokd hap hI1 ho1 hr hn hno
  go_enter Try.func28, Try.ntmps28
  go_wp2_with (go_at_call 27; (with_reducible refine (readD n HD1.out hdb).mono ?_); rintro e w2 ⟨v, rfl, hRv, hb⟩; rw [HR.out] at hRv ⊢; rw [Option.getD_some] at hRv; obtain ⟨A, c, hv⟩ := Kd.R_slice hRv; subst hv; have hI3 := HI1.out.below (fun k hk => by rw [HSZ.out]; exact HOK.out k hk) (hb.trans ((below_alloc (Below.refl _ w2) (.cells #[.slice A b.length c, .int .i64 0, .bool false] 65)).mono hb.size)); have q2 := blk_cell hI3.hg 2; simp only [List.getElem?_toArray, List.getElem?_cons_zero, List.getElem?_cons_succ] at q2; obtain ⟨w4, hput, hm4, hg4, hs4⟩ := hI3.map.put_miss law3 Try.underlying54 (key := .int .i64 n) (.pointer (some ⟨w2.heap.size, 0, none⟩)) HN.out HNO.out; have HI3 := Lib.hid hI3; have HRV := Lib.hid hRv; have HB := Lib.hid hb; have HM4 := Lib.hid hm4; have HG4 := Lib.hid hg4; have HS4 := Lib.hid hs4; clear hb hRv hI3 hm4 hg4 hs4)
  go_ret2
  have hb2 := HB.out
  have hbox := blk_new w2 (.cells #[.slice A b.length c, .int .i64 0, .bool false] 65)
  have hsz2 : w.heap.size ≤ w2.heap.size := by have := hb2.size; rw [HSZ.out] at this; exact this
  have hs4 : w4.heap.size = w2.heap.size + 1 := by have := HS4.out; simpa using this
  have hmb : mb < w.heap.size := HOK.out mb HI1.out.okm
  have hbox4 := (HG4.out.block _ (blk_lt hbox) (fun e => by have := Option.some.inj e; omega)).trans hbox
  have hRb : Kd.R (Kd.int .u8) 5 w4 base (okN ok w w4) (.slice A b.length c) b := by
    have h1 := Kd.R_bound (show Kd.R (Kd.int .u8) 5 w2 (w.setCell ⟨cg, 4, none⟩ (.int .i64 (reads + 1))).heap.size (fun _ => True) (.slice A b.length c) b from HRV.out)
    have h2 := Kd.R_lower h1 (show base ≤ (w.setCell ⟨cg, 4, none⟩ (.int .i64 (reads + 1))).heap.size by rw [HSZ.out]; exact hbs)
    refine Kd.R_mono (Kd.R_move (w1 := w4) h2 (fun k hk => ?_)) (fun k hk => .inr ⟨?_, ?_⟩)
    · have hk1 := hk.2.2.1
      have hk2 := hk.2.1
      rw [HSZ.out] at hk2
      exact (HG4.out.block k (by simp; omega) (fun e => by have := Option.some.inj e; omega)).trans ((below_alloc (Below.refl _ w2) _).block k hk1)
    · have := hk.2.1; rw [HSZ.out] at this; exact this
    · have := hk.2.2.1; omega
  have hI2 := HI1.out.below (fun k hk => by rw [HSZ.out]; exact HOK.out k hk) hb2
  have hm : ∀ k, k < w2.heap.size → k ≠ mb → w4.heap[k]? = w2.heap[k]? := fun k hk hk2 => (HG4.out.block k (by simp; omega) (fun e => hk2 (Option.some.inj e))).trans ((below_alloc (Below.refl _ w2) _).block k hk)
  refine ⟨_, _, rfl, hI2.newE (ok' := okN ok w w4) (fun k hk => by have := HOK.out k hk; omega) (fun k hk => .inl hk) HM4.out ⟨hbox4, hRb, .inr ⟨hsz2, by omega⟩, by omega⟩ (Nat.le_refl _) hm, ((HO1.out.below hb2).alloc _).grown HG4.out (fun k e => .inl ?_)⟩
  rw [← Option.some.inj e]; exact HI1.out.okm
end Go.Proofs.Ythcafgjcgikgpaa.Given
