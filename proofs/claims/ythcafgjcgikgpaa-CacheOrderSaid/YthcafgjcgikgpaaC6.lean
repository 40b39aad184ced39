/- (*Cache).Get. -/
import Derived.Test.YthcafgjcgikgpaaC5
namespace Go.Proofs.Ythcafgjcgikgpaa.Given
open Go.RowKit Go.Shelf Go.Proofs.YthcafgjcgikgpaaW.PrintWords Go.Proofs.YthcafgjcgikgpaaW.PrintLast Go.Proofs.YthcafgjcgikgpaaW.PrintMore Go.Proofs.YthcafgjcgikgpaaBase
set_option linter.unusedVariables false
set_option linter.unusedSimpArgs false

/-- x goes to the end, as y -/
def moveL (n : Int) (y : Bf) (L : List Bf) : List Bf := (L.filter fun z => !(n == z.blk)) ++ [y]
theorem moveL_blk (n : Int) (y : Bf) (L : List Bf) (hy : y.blk = n) : (moveL n y L).map (·.blk) = without n (L.map (·.blk)) ++ [n] := by
  unfold moveL without
  rw [List.map_append, List.map_singleton, hy, List.filter_map]
  rfl
theorem moveL_perm {E1 E2 : List (Bf × Nat × Value)} {x y : Bf} {xb : Nat} {vb vb' : Value} {L : List Bf} {n : Int} (hp : ((E1 ++ (x, xb, vb) :: E2).map (·.1)).Perm L) (hn : ((E1 ++ (x, xb, vb) :: E2).map (fun e => e.1.blk)).Nodup) (hx : x.blk = n) : ((E1 ++ (y, xb, vb') :: E2).map (·.1)).Perm (moveL n y L) := by
  have h1 := hp.filter (fun z => !(n == z.blk))
  rw [List.map_append, List.map_cons, List.nodup_append] at hn
  obtain ⟨_, h2, h3⟩ := hn
  rw [List.nodup_cons] at h2
  have e1 : (E1.map (·.1)).filter (fun z : Bf => !(n == z.blk)) = E1.map (·.1) := List.filter_eq_self.2 (fun z hz => by
    obtain ⟨e, he, rfl⟩ := List.mem_map.1 hz
    have : e.1.blk ≠ x.blk := fun e2 => h3 _ (List.mem_map.2 ⟨e, he, rfl⟩) x.blk (by simp) e2
    rw [hx] at this
    simpa using fun e2 => this e2.symm)
  have e2 : (E2.map (·.1)).filter (fun z : Bf => !(n == z.blk)) = E2.map (·.1) := List.filter_eq_self.2 (fun z hz => by
    obtain ⟨e, he, rfl⟩ := List.mem_map.1 hz
    have : e.1.blk ≠ x.blk := fun e2 => h2.1 (List.mem_map.2 ⟨e, he, e2⟩)
    rw [hx] at this
    simpa using fun e2 => this e2.symm)
  rw [List.map_append, List.map_cons, List.filter_append, List.filter_cons_of_neg (by simp [hx]), e1, e2] at h1
  unfold moveL
  rw [List.map_append, List.map_cons]
  refine List.perm_middle.trans ?_
  refine (List.perm_append_comm (l₁ := [y]) (l₂ := E1.map (·.1) ++ E2.map (·.1))).trans ?_
  exact h1.append_right [y]
theorem WC.mono {base : Nat} {ok ok' : Nat → Prop} {W : World} {cg mb : Nat} {dv : Value} {size reads : Int} {L : List Bf} (h : WC base ok W cg mb dv size reads L) (hm : ∀ k, ok k → ok' k) : WC base ok' W cg mb dv size reads L := by
  obtain ⟨vo, E, hI, hp⟩ := h
  exact ⟨vo, E, hI.mono hm, hp⟩
/-- a block's pins -/
theorem IsC.setP {base : Nat} {ok : Nat → Prop} {w : World} {cg mb : Nat} {dv vo : Value} {size reads : Int} {E1 E2 : List (Bf × Nat × Value)} {x : Bf} {xb : Nat} {vb : Value} {O : List Int} (h : IsC base ok w cg mb dv vo size reads (E1 ++ (x, xb, vb) :: E2) O) (p : Int) :
    IsC base ok (w.setCell ⟨xb, 1, none⟩ (.int .i64 p)) cg mb dv vo size reads (E1 ++ ({ x with pins := p }, xb, vb) :: E2) O := by
  have hx := h.each (x, xb, vb) (by simp)
  exact h.setE (fun _ h => h) (y := { x with pins := p }) rfl ⟨by simpa using blk_set hx.blk 1 (.int .i64 p), Kd.R_set hx.R hx.blk (by decide) 1 _, hx.ok, hx.lo⟩ (fun k _ hk => Below.heap_setCell w ⟨xb, 1, none⟩ _ k hk)
theorem R_keepT {w w' : World} {base : Nat} {ok : Nat → Prop} {v : Value} {xs : List Int} (h : Kd.R (Kd.int .u8) 5 w base ok v xs) (hk : KeepT w w') : Kd.R (Kd.int .u8) 5 w' base ok v xs := Kd.R_mono (Kd.R_move (Kd.R_bound h) (fun k h2 => by
  obtain ⟨_, _, _, q, hq, cells, hc⟩ := h2
  have hq2 : q = 5 := List.mem_singleton.1 (show q ∈ [5] from hq)
  subst hq2
  exact (hk k cells 5 (0, 0) (by decide) (by decide) hc).trans hc.symm)) (fun k h2 => h2.1)
/-- what a Get of a block makes that is in x -/
def GetOk (base : Nat) (ok : Nat → Prop) (w : World) (cg mb : Nat) (dv : Value) (size reads : Int) (L' : List Bf) (b : List Int) (e : Ending) (w' : World) : Prop :=
  ∃ w3 v, e = .returned (.tuple #[v, .bool true]) ∧ WC base (okN ok w w3) w3 cg mb dv size reads L' ∧ Off ok w w3 ∧ Kd.R (Kd.int .u8) 5 w' w3.heap.size (fun _ => True) v b ∧ Below w3.heap.size w3 w'
theorem GetOk.of {base : Nat} {ok ok2 : Nat → Prop} {w w3 w' : World} {cg mb : Nat} {dv : Value} {size reads : Int} {L' : List Bf} {b : List Int} {v : Value} (hW : WC base ok2 w3 cg mb dv size reads L') (hm : ∀ k, ok2 k → okN ok w w3 k) (ho : Off ok w w3) (hR : Kd.R (Kd.int .u8) 5 w' w3.heap.size (fun _ => True) v b) (hb : Below w3.heap.size w3 w') : GetOk base ok w cg mb dv size reads L' b (.returned (.tuple #[v, .bool true])) w' := ⟨w3, v, rfl, hW.mono hm, ho, hR, hb⟩

set_option maxRecDepth 100000 in
set_option maxHeartbeats 1000000 in
theorem get_found {base : Nat} {ok : Nat → Prop} {w : World} {cg mb : Nat} {dv : Value} {size reads : Int} {L : List Bf} (h : WC base ok w cg mb dv size reads L) (hok : ∀ k, ok k → k < w.heap.size) (hbs : base ≤ w.heap.size) (hl : L.length < 1000000) {n : Int} (hn : I64 n) {x : Bf} (hf : findB L n = some x) (hpin : 0 ≤ x.pins ∧ x.pins < 1000000000) (hlb : x.b.length < 140737488351232) :
    Calls Try.prog 11 #[.pointer (some ⟨cg, 0, none⟩), .int .i64 n] w (GetOk base ok w cg mb dv size reads (trimL size (moveL n { x with pins := x.pins + 1 } L)) x.b) := by
  obtain ⟨hxb, hxm, vo, E1, xb, vb, E2, hI, hp⟩ := h.split hf
  obtain ⟨hp0, hp1⟩ := hpin
  have hl1 := hI.map.look_hit law3 Try.underlying54 (key3 hn) (v := .pointer (some ⟨xb, 0, none⟩)) (by rw [List.map_append, List.map_cons]; simp [entB, hxb]) true
  have hx := hI.each (x, xb, vb) (by simp)
  have hxR := hx.R
  obtain ⟨A, c, hvb⟩ := Kd.R_slice hxR
  simp only at hvb
  subst hvb
  have c2 := blk_cell hI.hg 2
  have x1 := blk_cell hx.blk 1
  have f1 := blk_frozen hx.blk 1
  simp only [List.getElem?_toArray, List.getElem?_cons_zero, List.getElem?_cons_succ] at c2 x1
  have hI1 := hI.setP (x.pins + 1)
  have hx1 := hI1.each ({ x with pins := x.pins + 1 }, xb, .slice A x.b.length c) (by simp)
  have HI1 := Lib.hid hI1
  have HX1 := Lib.hid hx1.blk
  have HR1 : Hid (Kd.R (Kd.int .u8) 5 (w.setCell ⟨xb, 1, none⟩ (.int .i64 (x.pins + 1))) base ok (.slice A x.b.length c) x.b) := Lib.hid hx1.R
  have HOK1 : Hid (∀ k, ok k → k < (w.setCell ⟨xb, 1, none⟩ (.int .i64 (x.pins + 1))).heap.size) := Lib.hid (fun k hk => by have := hok k hk; simpa [World.setCell] using this)
  have HB1 : Hid (base ≤ (w.setCell ⟨xb, 1, none⟩ (.int .i64 (x.pins + 1))).heap.size) := Lib.hid (by simpa [World.setCell] using hbs)
  have HSZ : Hid ((w.setCell ⟨xb, 1, none⟩ (.int .i64 (x.pins + 1))).heap.size = w.heap.size) := Lib.hid (by simp [World.setCell])
  have HL1 : Hid ((L.map (·.blk)).length < 1000000) := Lib.hid (by rw [List.length_map]; exact hl)
  have HM1 := Lib.hid (moveL_blk n { x with pins := x.pins + 1 } L hxb).symm
  have HP1 := Lib.hid (moveL_perm (y := { x with pins := x.pins + 1 }) (vb' := .slice A x.b.length c) hp hI.nodup hxb)
  have HO1 := Lib.hid (Off.set1 w ⟨xb, 1, none⟩ hx.ok (.int .i64 (x.pins + 1)))
  have HLB := Lib.hid hlb
  clear h hok hI hp hf hn hx hxm hxR hI1 hx1 hl hbs hlb
  go_enter Try.func11, Try.ntmps11
  go_wp2_with (first
    | (go_at_call 29; (with_reducible refine (use_calls HI1.out HOK1.out HB1.out HL1.out n).mono ?_); rintro e w2 ⟨rfl, ⟨v2, hI2⟩, ho2, hk2⟩; have HW2 := Lib.hid (show WC base (okN ok (w.setCell ⟨xb, 1, none⟩ (.int .i64 (x.pins + 1))) w2) w2 cg mb dv size reads (moveL n { x with pins := x.pins + 1 } L) from ⟨v2, _, (by rw [HM1.out] at hI2; exact hI2), HP1.out⟩); have HO2 := Lib.hid ho2; have HOK2 := Lib.hid (okN_lt HOK1.out ho2.size); have HK2 := Lib.hid hk2; clear hI2 ho2 hk2)
    | (go_at_call 30; (with_reducible refine (trim_calls HW2.out HOK2.out).mono ?_); rintro e w3 ⟨rfl, hW3, ho3, hk3⟩; have HW3 := Lib.hid hW3; have HO3 := Lib.hid ho3; have hk4 := HK2.out.trans hk3; have hx4 := hk4 xb _ 65 (0, 0) (by decide) (by decide) HX1.out; have x0 := blk_cell hx4 0; simp only [List.getElem?_toArray, List.getElem?_cons_zero, List.getElem?_cons_succ] at x0; have HR4 := Lib.hid (R_keepT HR1.out hk4); clear hW3 ho3 hk3 hk4 hx4)
    | (go_at_call 31; (with_reducible refine (clone_calls A c x.b _ (Kd.R_reads' HR4.out).2.2 (Kd.R_reads' HR4.out).2.1 HLB.out).mono ?_); rintro e w5 ⟨v5, rfl, hR5, hb5⟩; have HR5 := Lib.hid hR5; have HB5 := Lib.hid hb5; clear hR5 hb5))
  go_ret2
  have hs2 := HO2.out.size
  have hs3 := HO3.out.size
  rw [HSZ.out] at hs2
  refine GetOk.of HW3.out ?_ ((HO1.out.then_ HO2.out (fun k h => .inl h)).then_ HO3.out ?_) HR5.out HB5.out
  · rintro k (h | h)
    · exact .inl h
    · rw [HSZ.out] at h; exact .inr ⟨h.1, by omega⟩
  · rintro k (h | h)
    · exact .inl h
    · rw [HSZ.out] at h; exact .inr h.1

theorem without_not {n : Int} {L : List Bf} (hf : findB L n = none) : without n (L.map (·.blk)) = L.map (·.blk) := without_none (fun hm => by
  obtain ⟨z, hz, e⟩ := List.mem_map.1 hm
  have := List.find?_eq_none.1 hf z hz
  simp [e] at this)
set_option maxRecDepth 100000 in
set_option maxHeartbeats 1000000 in
theorem get_load {base : Nat} {ok okd : Nat → Prop} {w : World} {cg mb dg : Nat} {size reads : Int} {L : List Bf} (h : WC base ok w cg mb (.pointer (some ⟨dg, 0, none⟩)) size reads L) (hok : ∀ k, ok k → k < w.heap.size) (hbs : base ≤ w.heap.size) (hl : L.length < 1000000)
    {db : List Int} {dl : List S31} {cut : Int} {dead : Bool} (hd : IsD base okd w dg db dl cut dead) (hokd : ∀ k, okd k → k < w.heap.size) (hap : ∀ k, okd k → ¬ ok k) (hdb : db.length < 1000000000) {n : Int} (hn : I64 n) (hf : findB L n = none) {b : List Int} (hr : readP db dead n = some b) (hrd : 0 ≤ reads ∧ reads < 1000000000) (hlb : b.length < 140737488351232) :
    Calls Try.prog 11 #[.pointer (some ⟨cg, 0, none⟩), .int .i64 n] w (GetOk base ok w cg mb (.pointer (some ⟨dg, 0, none⟩)) size (reads + 1) (trimL size (L ++ [⟨n, b, 1, false⟩])) b) := by
  obtain ⟨vo, E, hI, hp⟩ := h
  have hno := WC.none (base := base) (ok := ok) (w := w) (cg := cg) (mb := mb) (dv := .pointer (some ⟨dg, 0, none⟩)) (vo := vo) (size := size) (reads := reads) hp hf
  have hl1 := hI.map.look_miss law3 Try.underlying54 (zero61 _) (key3 hn) hno true
  have c2 := blk_cell hI.hg 2
  simp only [List.getElem?_toArray, List.getElem?_cons_zero, List.getElem?_cons_succ] at c2
  have HLD := Lib.hid (load_yes hI hok hbs hd hokd hap hdb hn hr hrd hno)
  have HL1 : Hid ((L.map (·.blk)).length < 1000000) := Lib.hid (by rw [List.length_map]; exact hl)
  have HM1 : Hid (without n (L.map (·.blk)) ++ [n] = (L ++ [(⟨n, b, 1, false⟩ : Bf)]).map (·.blk)) := Lib.hid (by rw [without_not hf, List.map_append]; rfl)
  have HP0 : Hid (∀ (xb : Nat) (vb : Value), ((E ++ [((⟨n, b, 1, false⟩ : Bf), xb, vb)]).map (·.1)).Perm (L ++ [⟨n, b, 1, false⟩])) := Lib.hid (fun xb vb => by rw [List.map_append]; exact hp.append_right _)
  have HLB := Lib.hid hlb
  have HOK := Lib.hid hok
  have HBS := Lib.hid hbs
  clear hok hI hp hf hn hl hbs hlb hd hokd hap hdb hr hrd hno
  go_enter Try.func11, Try.ntmps11
  go_wp2_with (first
    | (go_at_call 28; (with_reducible refine HLD.out.mono ?_); rintro e w1 ⟨xb, vb, rfl, hI1a, ho1⟩; have hx := hI1a.each (⟨n, b, 0, false⟩, xb, vb) (by simp); have hxR := hx.R; obtain ⟨A, c, hvb⟩ := Kd.R_slice hxR; simp only at hvb; subst hvb; have x1 := blk_cell hx.blk 1; have f1 := blk_frozen hx.blk 1; simp only [List.getElem?_toArray, List.getElem?_cons_zero, List.getElem?_cons_succ] at x1; have hI1 : IsC base (okN ok w w1) (w1.setCell ⟨xb, 1, none⟩ (.int .i64 1)) cg mb (.pointer (some ⟨dg, 0, none⟩)) vo size (reads + 1) (E ++ [(⟨n, b, 1, false⟩, xb, .slice A b.length c)]) (L.map (·.blk)) := hI1a.setP (E2 := []) 1; have hx1 := hI1.each (⟨n, b, 1, false⟩, xb, .slice A b.length c) (by simp); have HI1 := Lib.hid hI1; have HX1 := Lib.hid hx1.blk; have HR1 : Hid (Kd.R (Kd.int .u8) 5 (w1.setCell ⟨xb, 1, none⟩ (.int .i64 1)) base (okN ok w w1) (.slice A b.length c) b) := Lib.hid hx1.R; have HSZ : Hid ((w1.setCell ⟨xb, 1, none⟩ (.int .i64 1)).heap.size = w1.heap.size) := Lib.hid (by simp [World.setCell]); have HOK1 : Hid (∀ k, okN ok w w1 k → k < (w1.setCell ⟨xb, 1, none⟩ (.int .i64 1)).heap.size) := Lib.hid (fun k hk => by rw [HSZ.out]; exact okN_lt HOK.out ho1.size k hk); have HB1 : Hid (base ≤ (w1.setCell ⟨xb, 1, none⟩ (.int .i64 1)).heap.size) := Lib.hid (by rw [HSZ.out]; exact Nat.le_trans HBS.out ho1.size); have HP1 := Lib.hid (HP0.out xb (.slice A b.length c)); have HO1 := Lib.hid (ho1.then_ (Off.set1 w1 ⟨xb, 1, none⟩ hx.ok (.int .i64 1)) (fun k h => h.imp id (fun h => h.1))); have HZ1 := Lib.hid ho1.size; clear hI1a hx hxR hI1 hx1 ho1)
    | (go_at_call 29; (with_reducible refine (use_calls HI1.out HOK1.out HB1.out HL1.out n).mono ?_); rintro e w2 ⟨rfl, ⟨v2, hI2⟩, ho2, hk2⟩; have HW2 := Lib.hid (show WC base (okN (okN ok w w1) (w1.setCell ⟨xb, 1, none⟩ (.int .i64 1)) w2) w2 cg mb (.pointer (some ⟨dg, 0, none⟩)) size (reads + 1) (L ++ [⟨n, b, 1, false⟩]) from ⟨v2, _, (by rw [HM1.out] at hI2; exact hI2), HP1.out⟩); have HO2 := Lib.hid ho2; have HOK2 := Lib.hid (okN_lt HOK1.out ho2.size); have HK2 := Lib.hid hk2; clear hI2 ho2 hk2)
    | (go_at_call 30; (with_reducible refine (trim_calls HW2.out HOK2.out).mono ?_); rintro e w3 ⟨rfl, hW3, ho3, hk3⟩; have HW3 := Lib.hid hW3; have HO3 := Lib.hid ho3; have hk4 := HK2.out.trans hk3; have hx4 := hk4 xb _ 65 (0, 0) (by decide) (by decide) HX1.out; have x0 := blk_cell hx4 0; simp only [List.getElem?_toArray, List.getElem?_cons_zero, List.getElem?_cons_succ] at x0; have HR4 := Lib.hid (R_keepT HR1.out hk4); clear hW3 ho3 hk3 hk4 hx4)
    | (go_at_call 31; (with_reducible refine (clone_calls A c b _ (Kd.R_reads' HR4.out).2.2 (Kd.R_reads' HR4.out).2.1 HLB.out).mono ?_); rintro e w5 ⟨v5, rfl, hR5, hb5⟩; have HR5 := Lib.hid hR5; have HB5 := Lib.hid hb5; clear hR5 hb5))
  go_ret2
  have hs1 := HZ1.out
  have hs2 := HO2.out.size
  have hs3 := HO3.out.size
  rw [HSZ.out] at hs2
  refine GetOk.of HW3.out ?_ ((HO1.out.then_ HO2.out (fun k h => h.imp id (fun h => h.1))).then_ HO3.out ?_) HR5.out HB5.out
  · rintro k ((h | h) | h)
    · exact .inl h
    · exact .inr ⟨h.1, by omega⟩
    · rw [HSZ.out] at h; exact .inr ⟨by omega, by omega⟩
  · rintro k ((h | h) | h)
    · exact .inl h
    · exact .inr h.1
    · rw [HSZ.out] at h; exact .inr (by omega)
set_option maxRecDepth 100000 in
set_option maxHeartbeats 1000000 in
theorem get_no {base : Nat} {ok okd : Nat → Prop} {w : World} {cg mb dg : Nat} {size reads : Int} {L : List Bf} (h : WC base ok w cg mb (.pointer (some ⟨dg, 0, none⟩)) size reads L) (hok : ∀ k, ok k → k < w.heap.size)
    {db : List Int} {dl : List S31} {cut : Int} {dead : Bool} (hd : IsD base okd w dg db dl cut dead) (hokd : ∀ k, okd k → k < w.heap.size) (hap : ∀ k, okd k → ¬ ok k) (hdb : db.length < 1000000000) {n : Int} (hn : I64 n) (hf : findB L n = none) (hr : readP db dead n = none) (hrd : 0 ≤ reads ∧ reads < 1000000000) :
    Calls Try.prog 11 #[.pointer (some ⟨cg, 0, none⟩), .int .i64 n] w fun e w' => e = .returned (.tuple #[.slice none 0 0, .bool false]) ∧ WC base ok w' cg mb (.pointer (some ⟨dg, 0, none⟩)) size (reads + 1) L ∧ Off ok w w' := by
  obtain ⟨vo, E, hI, hp⟩ := h
  have hno := WC.none (base := base) (ok := ok) (w := w) (cg := cg) (mb := mb) (dv := .pointer (some ⟨dg, 0, none⟩)) (vo := vo) (size := size) (reads := reads) hp hf
  have hl1 := hI.map.look_miss law3 Try.underlying54 (zero61 _) (key3 hn) hno true
  have c2 := blk_cell hI.hg 2
  simp only [List.getElem?_toArray, List.getElem?_cons_zero, List.getElem?_cons_succ] at c2
  have HLD := Lib.hid (load_no hI hok hd hokd hap hdb hr hrd)
  have HP := Lib.hid hp
  clear hok hI hp hf hn hd hokd hap hdb hr hrd hno
  go_enter Try.func11, Try.ntmps11
  go_wp2_with (go_at_call 28; (with_reducible refine HLD.out.mono ?_); rintro e w1 ⟨rfl, hI1, ho1⟩; have HI1 := Lib.hid hI1; have HO1 := Lib.hid ho1; clear hI1 ho1)
  go_ret2
  exact ⟨rfl, ⟨vo, E, HI1.out, HP.out⟩, HO1.out⟩
set_option maxRecDepth 100000 in
set_option maxHeartbeats 1000000 in
theorem get_nil {base : Nat} {ok : Nat → Prop} {w : World} {cg mb : Nat} {size reads : Int} {L : List Bf} (h : WC base ok w cg mb (.pointer none) size reads L) {n : Int} (hn : I64 n) (hf : findB L n = none) :
    Calls Try.prog 11 #[.pointer (some ⟨cg, 0, none⟩), .int .i64 n] w fun e w' => e = .returned (.tuple #[.slice none 0 0, .bool false]) ∧ w = w' := by
  have HLD := Lib.hid (load_nil h n)
  obtain ⟨vo, E, hI, hp⟩ := h
  have hno := WC.none (base := base) (ok := ok) (w := w) (cg := cg) (mb := mb) (dv := .pointer none) (vo := vo) (size := size) (reads := reads) hp hf
  have hl1 := hI.map.look_miss law3 Try.underlying54 (zero61 _) (key3 hn) hno true
  have c2 := blk_cell hI.hg 2
  simp only [List.getElem?_toArray, List.getElem?_cons_zero, List.getElem?_cons_succ] at c2
  clear hI hp hf hn hno
  go_enter Try.func11, Try.ntmps11
  go_wp2_with (go_at_call 28; (with_reducible refine HLD.out.mono ?_); rintro e w1 ⟨rfl, rfl⟩)
  go_ret2
  exact ⟨rfl, rfl⟩
end Go.Proofs.Ythcafgjcgikgpaa.Given
