/- CacheOrder. -/
import Derived.Test.YthcafgjcgikgpaaC12
namespace Go.Proofs.Ythcafgjcgikgpaa.Given
open Go.RowKit Go.Shelf Go.Proofs.YthcafgjcgikgpaaW.PrintWords Go.Proofs.YthcafgjcgikgpaaW.PrintLast Go.Proofs.YthcafgjcgikgpaaW.PrintMore Go.Proofs.YthcafgjcgikgpaaBase
set_option linter.unusedVariables false
set_option linter.unusedSimpArgs false

theorem most_ge {n : Int} (h : 1 ≤ n) : most n = n := by unfold most; split <;> omega
theorem CP.base_le {base : Nat} {P : Nat → Prop} {w : World} {cg dg : Nat} {size reads : Int} {L : List Bf} {s : DS} (h : CP base P w cg dg size reads L s) : base ≤ w.heap.size := by
  obtain ⟨_, _, _, _, _, _, _, _, _, h5⟩ := h
  exact h5
/-- the cache (its blocks cl), and a row z that the law only reads -/
structure OI (base : Nat) (w0 : World) (P okW : Nat → Prop) (cg dg : Nat) (size r : Int) (cl : List Bf) (A : Option Addr) (z : List Int) (W : World) : Prop where
  cp : CP base P W cg dg size r cl (dsk 20)
  f : Kd.F (Kd.int .i64) W okW A z.length z
  ap : ∀ k, okW k → ¬ P k ∧ k < W.heap.size
  b : Below base w0 W
section
variable {base : Nat} {w0 W W' : World} {P okW : Nat → Prop} {cg dg : Nat} {size r n : Int} {z : List Int} {A : Option Addr}
theorem OI.get (h : OI base w0 P okW cg dg size r (cleanL z) A z W) (hl : (z.length : Int) ≤ size) (h1 : 1 ≤ size) (hs : size ≤ 1000) (hr0 : 0 ≤ r) (hr1 : r ≤ 9999) (hn0 : 0 ≤ n) (hn1 : n < 20) :
    Calls Try.prog 11 #[.pointer (some ⟨cg, 0, none⟩), .int .i64 n] W fun e w' => ∃ v P', e = .returned (.tuple #[v, .bool true]) ∧ OI base w0 P' okW cg dg size (r + missL z n) (midL size z n) A z w' := by
  refine (cpstep_get h.cp hl h1 hs hr0 (by omega) (by decide) hn0 hn1).mono ?_
  rintro e w' ⟨v, top', rfl, hC, ho⟩
  refine ⟨v, _, rfl, hC, Off.F h.f ho (fun k hk => (h.ap k hk).1), fun k hk => ⟨?_, Nat.lt_of_lt_of_le (h.ap k hk).2 ho.size⟩, h.b.trans (ho.to_below h.cp.base_le (fun k hk => (h.cp.lt k hk).1))⟩
  rintro (h2 | h2)
  · exact (h.ap k hk).1 h2
  · have := (h.ap k hk).2; omega
theorem OI.rel (h : OI base w0 P okW cg dg size r (midL size z n) A z W) (hl : (z.length : Int) ≤ size) (h1 : 1 ≤ size) (hs : size ≤ 1000) (hr0 : 0 ≤ r) (hr1 : r ≤ 10000) (hn0 : 0 ≤ n) (hn1 : n < 20) :
    Calls Try.prog 12 #[.pointer (some ⟨cg, 0, none⟩), .int .i64 n] W fun e w' => ∃ q, e = .returned (.bool q) ∧ OI base w0 P okW cg dg size r (cleanL (stepL size z n)) A z w' := by
  refine (cpstep_rel h.cp hl h1 hs hr0 hr1 (by decide) (by unfold I64; omega)).mono ?_
  rintro e w' ⟨q, rfl, hC, ho⟩
  exact ⟨q, rfl, hC, Off.F h.f ho (fun k hk => (h.ap k hk).1), fun k hk => ⟨(h.ap k hk).1, Nat.lt_of_lt_of_le (h.ap k hk).2 ho.size⟩, h.b.trans (ho.to_below h.cp.base_le (fun k hk => (h.cp.lt k hk).1))⟩
/-- what is new alone turns -/
theorem OI.grown {cl : List Bf} (h : OI base w0 P okW cg dg size r cl A z W) {okx : Nat → Prop} (ho : Off okx W W') (hx : ∀ k, okx k → base ≤ k) (hp : ∀ k, P k → ¬ okx k) (hw : ∀ k, okW k → ¬ okx k) : OI base w0 P okW cg dg size r cl A z W' :=
  ⟨h.cp.off ho hp, Off.F h.f ho hw, fun k hk => ⟨(h.ap k hk).1, Nat.lt_of_lt_of_le (h.ap k hk).2 ho.size⟩, h.b.trans (ho.to_below h.cp.base_le hx)⟩
end
/-- the blocks that the law wants -/
def wantAt (size : Int) (l : List Int) (m : Nat) : List Int := (l.take m).foldl (stepL size) []
theorem wantAt_succ (size : Int) (l : List Int) (m : Nat) (hm : m < l.length) : wantAt size l (m + 1) = stepL size (wantAt size l m) (l.getD m 0) := by
  unfold wantAt
  rw [List.take_succ_eq_append_getElem hm, List.foldl_append, List.getD_eq_getElem?_getD, List.getElem?_eq_getElem hm]
  rfl
theorem wantAt_len {size : Int} (h1 : 1 ≤ size) (l : List Int) : ∀ m : Nat, m ≤ l.length → ((wantAt size l m).length : Int) ≤ size
  | 0, _ => by simp [wantAt]; omega
  | m + 1, h => by
    rw [wantAt_succ size l m h]
    exact step_len (wantAt_len h1 l m (by omega)) h1 _

set_option maxRecDepth 100000 in
set_option maxHeartbeats 2000000 in
theorem order_main (size : Int) (A : Option Addr) (c : Nat) (l : List Int) (w : World) (hC : Kd.C (Kd.int .i64) w A l.length l) (hc : l.length ≤ c) (hl : l.length ≤ 100) (hs1 : 1 ≤ size) (hs2 : size ≤ 10) :
    Calls Try.prog 3 #[.int .i64 size, .slice A l.length c] w fun e w' => e = .returned (.bool true) ∧ Below w.heap.size w w' := by
  have HC := Lib.hid hC
  have HWL := Lib.hid (wantAt_len hs1 l)
  have k1 : ¬ size < 1 := by omega
  have k2 : ¬ (10 : Int) < size := by omega
  have k3 : ¬ (100 : Int) < (l.length : Int) := by omega
  clear hC
  go_enter Try.func3, Try.ntmps3
  go_wp2_with (first
    | (go_at_call 8; (with_reducible refine (alive_calls _).mono ?_); rintro e w1 ⟨rfl, hb⟩; have HB1 := Lib.hid hb; clear hb)
    | (go_at_call 10; (with_reducible refine (new_calls 20 _).mono ?_); rintro e w2 ⟨dg, rfl, hD, hb⟩; have HD := Lib.hid (show IsD w1.heap.size (fun k => w1.heap.size ≤ k) w2 dg (dsk 20).b (dsk 20).l (dsk 20).cut (dsk 20).dead from hD); have HB2 := Lib.hid hb; clear hD hb)
    | (go_at_call 9; (with_reducible refine (cs_new (s := dsk 20) (dn := 0) HD.out HB2.out.size size).mono ?_); rintro e w3 ⟨cg, rfl, hC, hb⟩; rw [most_ge hs1] at hC; have HO := Lib.hid (show OI w1.heap.size w1 (fun k => w1.heap.size ≤ k ∧ k < w3.heap.size) (fun _ => False) cg dg size 0 (cleanL []) none [] w3 from ⟨hC.cp, Kd.R_F (show Kd.R (Kd.int .i64) 3 w3 0 (fun _ => False) (.slice none 0 0) [] from Kd.R_nil _ _ _ _ _), fun _ h => h.elim, HB2.out.trans (hb.mono HB2.out.size)⟩); clear hC hb))
  go_loopw [7, 8] (fun v i wr => ∃ (m c7 : Nat) (A7 : Option Addr) (z : List Int) (r : Int) (P okW : Nat → Prop), m ≤ l.length ∧ v = .slice A7 z.length c7 ∧ z.length ≤ c7 ∧ i = .int .i64 (m : Int) ∧ Hid (z = wantAt size l m) ∧ Hid (0 ≤ r ∧ r ≤ m) ∧ Hid (OI w1.heap.size w1 P okW cg dg size r (cleanL z) A7 z wr)) (fun _ i _ => l.length - (intOf i).toNat)
  case atStart => exact ⟨0, 0, none, [], 0, _, _, Nat.zero_le _, rfl, Nat.le_refl _, rfl, Lib.hid rfl, Lib.hid ⟨Int.le_refl _, Int.le_refl _⟩, HO⟩
  case round =>
    clear HO
    obtain ⟨m, c7, A7, z, r, P, okW, hm, rfl, hc7, rfl, HZ, HR, HO⟩ := hrel
    by_cases hlt : m < l.length
    · have hlti : (m : Int) < (l.length : Int) := by omega
      obtain ⟨ad, rfl, hcell⟩ := C_cells HC.out (by omega)
      obtain ⟨x, hx⟩ : ∃ x, l.getD m 0 = x := ⟨_, rfl⟩
      have hcl : w.cell? (ad.add m) = some (.int .i64 x) := hcell m _ (by rw [← hx]; simp [nums, List.getElem?_eq_getElem hlt, List.getD_eq_getElem?_getD])
      have HX := Lib.hid hx
      have HCW := Lib.hid hcl
      have hcr := pw_cell_below (HB1.out.trans (HO.out.b.mono HB1.out.size)) hcl
      have HZL : Hid ((z.length : Int) ≤ size) := Lib.hid (by rw [HZ.out]; exact HWL.out m hm)
      have hr0 := HR.out.1
      have hr1 := HR.out.2
      clear hcell hx hcl
      by_cases hneg : x < 0
      · have HB := Lib.hid (HB1.out.trans (HO.out.b.mono HB1.out.size))
        clear HO
        go_wp2
        go_ret
        exact ⟨rfl, HB.out⟩
      by_cases hbig : 20 ≤ x
      · have HB := Lib.hid (HB1.out.trans (HO.out.b.mono HB1.out.size))
        clear HO
        go_wp2
        go_ret
        exact ⟨rfl, HB.out⟩
      go_wp2_with (first
        | (go_at_call 11; (with_reducible refine (HO.out.get HZL.out hs1 (by omega) hr0 (by omega) (by omega) (by omega)).mono ?_); rintro e w4 ⟨v4, P4, rfl, hO4⟩; have HO4 := Lib.hid hO4; have hc4 := pw_cell_below (HB1.out.trans (hO4.b.mono HB1.out.size)) HCW.out; clear hO4)
        | (go_at_call 12; (with_reducible refine (HO4.out.rel HZL.out hs1 (by omega) (by unfold missL; split <;> omega) (by unfold missL; split <;> omega) (by omega) (by omega)).mono ?_); rintro e w5 ⟨q5, rfl, hO5⟩; have HO5 := Lib.hid hO5; have hc5 := pw_cell_below (HB1.out.trans (hO5.b.mono HB1.out.size)) HCW.out; clear hO5))
      obtain ⟨b9, hb9⟩ : ∃ b9, w5.heap.size = b9 := ⟨_, rfl⟩
      have HLT : Hid (∀ k, P4 k ∨ okW k → k < b9) := Lib.hid (fun k hk => by rw [← hb9]; exact hk.elim (fun h => (HO5.out.cp.lt k h).2) (fun h => (HO5.out.ap k h).2))
      have HB9 := Lib.hid hb9
      have HBB : Hid (w1.heap.size ≤ b9) := Lib.hid (by rw [← hb9]; exact HO5.out.cp.base_le)
      clear hb9
      go_loopw [9, 10] (fun v i wr => ∃ (k c9 : Nat) (A9 : Option Addr) (ys : List Int), k ≤ z.length ∧ v = .slice A9 ys.length c9 ∧ i = .int .i64 (k : Int) ∧ Hid (ys = without x (z.take k)) ∧ Hid (OI w1.heap.size w1 P4 okW cg dg size (r + missL z x) (cleanL (stepL size z x)) A7 z wr) ∧ Hid (Kd.R (Kd.int .i64) 3 wr b9 (fun k => b9 ≤ k) (.slice A9 ys.length c9) ys) ∧ Hid (b9 ≤ wr.heap.size)) (fun _ i _ => z.length - (intOf i).toNat)
      case atStart => exact ⟨0, 0, none, [], Nat.zero_le _, rfl, rfl, Lib.hid rfl, HO5, Lib.hid (Kd.R_nil _ _ _ _ _), Lib.hid (by rw [← HB9.out]; exact Nat.le_refl _)⟩
      case round =>
        clear HO5
        obtain ⟨k, c9, A9, ys, hk, rfl, rfl, HYS, HO6, HR6, HBQ⟩ := hrel
        by_cases hkz : k < z.length
        · have hkzi : (k : Int) < (z.length : Int) := by omega
          have hz10 : z.length ≤ 10 := by have := HZL.out; omega
          obtain ⟨ad7, hA7, hcell7⟩ := C_cells (Kd.F_now HO6.out.f) (by omega)
          subst hA7
          obtain ⟨y, hy⟩ : ∃ y, z.getD k 0 = y := ⟨_, rfl⟩
          have hcy : wr.cell? (ad7.add k) = some (.int .i64 y) := hcell7 k _ (by rw [← hy]; simp [nums, List.getElem?_eq_getElem hkz, List.getD_eq_getElem?_getD])
          have hcx := pw_cell_below (HB1.out.trans (HO6.out.b.mono HB1.out.size)) HCW.out
          have HY := Lib.hid hy
          clear hy hcell7
          by_cases hyx : y = x
          · subst hyx
            have e1 : (y != y) = false := by simp
            go_wp2
            go_quiet (fail)
            go_wp2
            have hb6 := pw_below_drewN (Below.refl wr.heap.size wr) nq
            go_roundw
            case rel => exact ⟨k + 1, c9, A9, ys, by omega, rfl, by go_num, Lib.hid (by rw [List.take_succ_eq_append_getElem hkz, HYS.out, show z[k] = y from by rw [← HY.out, List.getD_eq_getElem?_getD, List.getElem?_eq_getElem hkz]; rfl, without_snoc_eq]), Lib.hid (HO6.out.grown (Off.of_below hb6 (fun _ => False)) (fun _ h => h.elim) (fun _ _ h => h) (fun _ _ h => h)), Lib.hid (Kd.R_drewN HR6.out nq), Lib.hid (Nat.le_trans HBQ.out hb6.size)⟩
            case measure => simp [intOf]; omega
          · have e1 : (y != x) = true := by simpa using hyx
            have hyl : ys.length < 1000000 := by have h1 := HYS.out; have h2 := without_le x (z.take k); rw [← h1, List.length_take] at h2; have := HZL.out; omega
            go_wp2
            go_quiet (fail)
            have hbr : b9 ≤ (wr.drewN nq).heap.size := Nat.le_trans HBQ.out (pw_below_drewN (Below.refl wr.heap.size wr) nq).size
            go_wp2_with (at_builtin; refine Kd.R_append (Kd.int .i64) (w0 := wr.drewN nq) b9 rfl (.tmp 76) (.tmp 81) 22 3 (.int .i64 0) 8 rfl Try.underlying22 info3 rfl (by decide) (by omega) (.slice A9 ys.length c9) ys y [.int .i64 y] (fun k => b9 ≤ k) (fun _ => False) rfl rfl rfl (fun _ h => h.elim) (fun _ h => Nat.le_trans hbr h) (Kd.R_drewN HR6.out nq) ((Below.refl _ _).mono hbr) hbr (by omega) ?_; intro v2 w2 hR2 hb2 hg2 hat2; obtain ⟨A2, c2, hv2⟩ := Kd.R_slice hR2; rw [show (ys ++ [y]).length = ys.length + 1 by simp] at hv2; subst hv2; have HR7 := Lib.hid hR2; have HG2 := Lib.hid hg2; clear hR2 hb2 hg2 hat2)
            have hb6 := pw_below_drewN (Below.refl wr.heap.size wr) nq
            go_roundw
            case rel => exact ⟨k + 1, c2, A2, ys ++ [y], by omega, by rw [List.length_append]; rfl, by go_num, Lib.hid (by rw [List.take_succ_eq_append_getElem hkz, HYS.out, show z[k] = y from by rw [← HY.out, List.getD_eq_getElem?_getD, List.getElem?_eq_getElem hkz]; rfl, without_snoc_ne _ (fun e => hyx e.symm)]), Lib.hid (HO6.out.grown ((Off.of_below hb6 (fun k => b9 ≤ k)).grown HG2.out (fun q e => .inl (HR6.out.1 q e))) (fun _ h => Nat.le_trans HBB.out h) (fun q hq h => by have := HLT.out q (.inl hq); omega) (fun q hq h => by have := HLT.out q (.inr hq); omega)), (by rw [List.length_append]; exact HR7), Lib.hid (Nat.le_trans hbr HG2.out.size)⟩
            case measure => simp [intOf]; omega
        · obtain rfl : k = z.length := by omega
          have hkzi : ¬ (z.length : Int) < (z.length : Int) := by omega
          have hz10 : z.length ≤ 10 := by have := HZL.out; omega
          have hyl : ys.length ≤ 10 := by have h1 := HYS.out; have h2 := without_le x (z.take z.length); rw [← h1, List.length_take] at h2; omega
          have HYZ : Hid (ys = without x z) := Lib.hid (by rw [HYS.out, List.take_length])
          have hcx := pw_cell_below (HB1.out.trans (HO6.out.b.mono HB1.out.size)) HCW.out
          have hbr : b9 ≤ wr.heap.size := HBQ.out
          by_cases hbig2 : size < (ys.length : Int) + 1
          · go_wp2_with (at_builtin; refine Kd.R_append (Kd.int .i64) (w0 := wr) b9 rfl (.tmp 83) (.tmp 88) 22 3 (.int .i64 0) 8 rfl Try.underlying22 info3 rfl (by decide) (by omega) (.slice A9 ys.length c9) ys x [.int .i64 x] (fun k => b9 ≤ k) (fun _ => False) rfl rfl rfl (fun _ h => h.elim) (fun _ h => Nat.le_trans hbr h) HR6.out ((Below.refl _ _).mono hbr) hbr (by omega) ?_; intro v2 w2 hR2 hb2 hg2 hat2; obtain ⟨A2, c2, hv2⟩ := Kd.R_slice hR2; rw [show (ys ++ [x]).length = ys.length + 1 by simp] at hv2; subst hv2; have HR7 := Lib.hid hR2; have HG2 := Lib.hid hg2; clear hR2 hb2 hg2 hat2)
            have hoff : Off (fun k => b9 ≤ k) wr w2 := (Off.refl _ wr).grown HG2.out (fun q e => .inl (HR6.out.1 q e))
            have hO := HO6.out.grown hoff (fun _ h => Nat.le_trans HBB.out h) (fun q hq h => by have := HLT.out q (.inl hq); omega) (fun q hq h => by have := HLT.out q (.inr hq); omega)
            have hR8 : Kd.R (Kd.int .i64) 3 w2 b9 (fun k => b9 ≤ k ∧ k < w2.heap.size) (.slice A2 (ys.length + 1) c2) (ys ++ [x]) := Kd.R_mono (Kd.R_bound HR7.out) (fun k hk => ⟨hk.1, hk.2.2.1⟩)
            have hF8 : Kd.F (Kd.int .i64) w2 (fun k => b9 ≤ k ∧ k < w2.heap.size) A2 (ys ++ [x]).length (ys ++ [x]) := by rw [List.length_append]; exact Kd.R_F hR8
            have hc8 : ys.length + 1 ≤ c2 := (Kd.R_reads' hR8).2.1
            have hap : ∀ k, (b9 ≤ k ∧ k < w2.heap.size) → ¬ P4 k ∧ k < w2.heap.size := fun k hk => ⟨fun h => by have := HLT.out k (.inl h); omega, hk.2⟩
            have hw : wantAt size l (m + 1) = stepL size z x := by rw [wantAt_succ size l m hlt, HX.out, ← HZ.out]
            have hmi : 0 ≤ missL z x ∧ missL z x ≤ 1 := by unfold missL; split <;> omega
            have hst : stepL size z x = (ys ++ [x]).drop 1 := by
              unfold stepL restL
              rw [← HYZ.out, if_pos hbig2, List.drop_append_of_le_length (by omega)]
            have hln : ((ys ++ [x]).drop 1).length = ys.length := by rw [List.length_drop, List.length_append]; simp
            go_roundw
            case rel => exact ⟨m + 1, c2 - 1, _, (ys ++ [x]).drop 1, r + missL z x, P4, fun k => b9 ≤ k ∧ k < w2.heap.size, by omega, by rw [hln], by rw [hln]; omega, by go_num, Lib.hid (by rw [hw, hst]), Lib.hid ⟨by omega, by omega⟩, Lib.hid (by rw [← hst]; exact ⟨hO.cp, by rw [hst]; exact Kd.F_cut (m := 1) hF8 (by rw [List.length_append]; simp) (by rw [List.length_append]; exact hc8), hap, hO.b⟩)⟩
            case measure => simp [intOf]; omega
          · go_wp2_with (at_builtin; refine Kd.R_append (Kd.int .i64) (w0 := wr) b9 rfl (.tmp 83) (.tmp 88) 22 3 (.int .i64 0) 8 rfl Try.underlying22 info3 rfl (by decide) (by omega) (.slice A9 ys.length c9) ys x [.int .i64 x] (fun k => b9 ≤ k) (fun _ => False) rfl rfl rfl (fun _ h => h.elim) (fun _ h => Nat.le_trans hbr h) HR6.out ((Below.refl _ _).mono hbr) hbr (by omega) ?_; intro v2 w2 hR2 hb2 hg2 hat2; obtain ⟨A2, c2, hv2⟩ := Kd.R_slice hR2; rw [show (ys ++ [x]).length = ys.length + 1 by simp] at hv2; subst hv2; have HR7 := Lib.hid hR2; have HG2 := Lib.hid hg2; clear hR2 hb2 hg2 hat2)
            have hoff : Off (fun k => b9 ≤ k) wr w2 := (Off.refl _ wr).grown HG2.out (fun q e => .inl (HR6.out.1 q e))
            have hO := HO6.out.grown hoff (fun _ h => Nat.le_trans HBB.out h) (fun q hq h => by have := HLT.out q (.inl hq); omega) (fun q hq h => by have := HLT.out q (.inr hq); omega)
            have hR8 : Kd.R (Kd.int .i64) 3 w2 b9 (fun k => b9 ≤ k ∧ k < w2.heap.size) (.slice A2 (ys.length + 1) c2) (ys ++ [x]) := Kd.R_mono (Kd.R_bound HR7.out) (fun k hk => ⟨hk.1, hk.2.2.1⟩)
            have hF8 : Kd.F (Kd.int .i64) w2 (fun k => b9 ≤ k ∧ k < w2.heap.size) A2 (ys ++ [x]).length (ys ++ [x]) := by rw [List.length_append]; exact Kd.R_F hR8
            have hc8 : ys.length + 1 ≤ c2 := (Kd.R_reads' hR8).2.1
            have hap : ∀ k, (b9 ≤ k ∧ k < w2.heap.size) → ¬ P4 k ∧ k < w2.heap.size := fun k hk => ⟨fun h => by have := HLT.out k (.inl h); omega, hk.2⟩
            have hw : wantAt size l (m + 1) = stepL size z x := by rw [wantAt_succ size l m hlt, HX.out, ← HZ.out]
            have hmi : 0 ≤ missL z x ∧ missL z x ≤ 1 := by unfold missL; split <;> omega
            have hst : stepL size z x = ys ++ [x] := by
              unfold stepL restL
              rw [← HYZ.out, if_neg hbig2]
            go_roundw
            case rel => exact ⟨m + 1, c2, A2, ys ++ [x], r + missL z x, P4, fun k => b9 ≤ k ∧ k < w2.heap.size, by omega, by rw [List.length_append]; rfl, by rw [List.length_append]; exact hc8, by go_num, Lib.hid (by rw [hw, hst]), Lib.hid ⟨by omega, by omega⟩, Lib.hid (by rw [← hst]; exact ⟨hO.cp, by rw [hst]; exact hF8, hap, hO.b⟩)⟩
            case measure => simp [intOf]; omega
    · obtain rfl : m = l.length := by omega
      have hlti : ¬ (l.length : Int) < (l.length : Int) := by omega
      have HZL : Hid ((z.length : Int) ≤ size) := Lib.hid (by rw [HZ.out]; exact HWL.out l.length (Nat.le_refl _))
      have hr0 := HR.out.1
      have hr1 := HR.out.2
      go_wp2_with (first
        | (go_at_call 14; (with_reducible refine (cp_held HO.out.cp (fit_clean HZL.out (by omega) hr0 (by omega) (by decide))).mono ?_); rintro e w7 ⟨v7, rfl, hR7, hb7⟩; rw [cleanL_blk] at hR7; obtain ⟨A7', c7', hv7⟩ := Kd.R_slice hR7; subst hv7; have HR7 := Lib.hid hR7; have HB7 := Lib.hid hb7; clear hR7 hb7)
        | (go_at_call 13; (with_reducible refine (same_calls A7' c7' z A7 c7 z _ (Kd.R_reads' HR7.out).2.2 (Kd.R_reads' HR7.out).2.1 (Kd.C_below (Kd.F_now HO.out.f) HB7.out) hc7 (by have := HZL.out; omega)).mono ?_); rintro e w8 ⟨rfl, hb8⟩; rw [decide_eq_true rfl]; have HB8 := Lib.hid (HO.out.b.trans ((HB7.out.trans (hb8.mono HB7.out.size)).mono HO.out.b.size)); clear hb8))
      go_ret
      exact ⟨rfl, HB1.out.trans (HB8.out.mono HB1.out.size)⟩
set_option maxRecDepth 100000 in
set_option maxHeartbeats 1000000 in
theorem order_row (size : Int) (A : Option Addr) (c : Nat) (l : List Int) (w : World) (hC : Kd.C (Kd.int .i64) w A l.length l) (hc : l.length ≤ c) (_ : (Lit.int .i64 size).wf = true) (hl : l.length ≤ maxLen ∧ ∀ y ∈ l, (Lit.int .i64 y).wf = true) :
    Calls Try.prog 3 #[.int .i64 size, .slice A l.length c] w fun e w' => e = .returned (.bool true) ∧ Below w.heap.size w w' := by
  by_cases hg : 1 ≤ size ∧ size ≤ 10 ∧ l.length ≤ 100
  · exact order_main size A c l w hC hc hg.2.2 hg.1 hg.2.1
  clear hC hl
  by_cases q0 : size < 1
  · go_enter Try.func3, Try.ntmps3
    go_wp2_with (go_at_call 8; (with_reducible refine (alive_calls _).mono ?_); rintro e w1 ⟨rfl, hb⟩; have HB1 := Lib.hid hb; clear hb)
    go_ret
    exact ⟨rfl, HB1.out⟩
  by_cases q1 : (10 : Int) < size
  · go_enter Try.func3, Try.ntmps3
    go_wp2_with (go_at_call 8; (with_reducible refine (alive_calls _).mono ?_); rintro e w1 ⟨rfl, hb⟩; have HB1 := Lib.hid hb; clear hb)
    go_ret
    exact ⟨rfl, HB1.out⟩
  have q2 : (100 : Int) < (l.length : Int) := by omega
  go_enter Try.func3, Try.ntmps3
  go_wp2_with (go_at_call 8; (with_reducible refine (alive_calls _).mono ?_); rintro e w1 ⟨rfl, hb⟩; have HB1 := Lib.hid hb; clear hb)
  go_ret
  exact ⟨rfl, HB1.out⟩
end Go.Proofs.Ythcafgjcgikgpaa.Given
