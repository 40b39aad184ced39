/- dinode.Pack: what it answers, for every inode. -/
import Derived.Test.YtdjncafofcpoiaaPlain
import Derived.Test.YtdjncafofcpoiaaCopyR
import Derived.Deep.RegionWith
import Derived.LoopTactic
import Derived.Deep.LoopGhost
import Derived.Deep.DeepCutAuto
import Derived.Outline
import Derived.Deep.RegionLawGrows
namespace Go.Proofs.Ytdjncafofcpoiaa.Given
open Go.RowKit Go.Proofs.YtdjncafofcpoiaaW.PrintWords Go.Proofs.YtdjncafofcpoiaaW.PrintLast Go.Proofs.YtdjncafofcpoiaaW.PrintMore Go.Proofs.YtdjncafofcpoiaaBase Go.Proofs.Ytdjncafofcpoiaa.PDFns
set_option linter.unusedVariables false
set_option linter.unusedSimpArgs false

theorem info5 : (Try.prog.info? 5).map (fun i => (i.zero, i.size, i.bytes)) = some (some (.int .u8 0), 1, 1) := by kernel_rfl
theorem info3 : (Try.prog.info? 3).map (fun i => (i.zero, i.size, i.bytes)) = some (some (.int .i64 0), 1, 8) := by kernel_rfl
theorem C_cells_of {k : IntKind} {W : World} {ad : Addr} {n : Nat} {xs : List Int} (hl : xs.length = n) (hm : n ≤ maxLen) (h : ∀ j x, xs[j]? = some x → W.cell? (ad.add j) = some (.int k x)) : Kd.C (Kd.int k) W (some ad) n xs := by
  refine ⟨hl, by unfold maxLen at hm; omega, fun _ => ⟨ad, rfl, fun j p hj => ⟨[.int k p], rfl, rfl, fun i u hu => ?_⟩⟩⟩
  match i, hu with
  | 0, hu =>
    obtain rfl : Value.int k p = u := by simpa using hu
    have := h j p hj
    rwa [show j * (Kd.int k).sz + 0 = j from by show j * 1 + 0 = j; omega]
theorem C_alloc_new (k : IntKind) (e : TypeId) (W : World) (xs : List Int) (cs : Array Value) (hcs : cs.toList = nums k xs) (n : Nat) (hl : xs.length = n) (hm : n ≤ 1000) : Kd.C (Kd.int k) (W.alloc (.cells cs e)) (some ⟨W.heap.size, 0, none⟩) n xs := by
  refine C_cells_of hl (by unfold maxLen; omega) (fun j x hj => ?_)
  rw [add_plain, blk_cell (blk_new W (.cells cs e))]
  have : cs.toList[j]? = some (.int k x) := by rw [hcs, nums, List.getElem?_map, hj]; rfl
  simpa using this
theorem zero24 (w : World) : (Instr.build 24 #[]).run Try.prog w = .ok (.agg #[.int .i64 0, .int .i64 0, .int .i64 0, .int .i64 0, .int .i64 0, .int .i64 0, .int .i64 0, .int .i64 0, .int .i64 0, .int .i64 0, .int .i64 0, .int .i64 0, .int .i64 0]) w := run_build w 24 _ _ (by kernel_rfl)
theorem neq24z (w : World) (k l s d0 d1 d2 d3 d4 d5 d6 d7 n m : Int) : (binOp .neq 24 (.agg #[.int .i64 k, .int .i64 l, .int .i64 s, .int .i64 d0, .int .i64 d1, .int .i64 d2, .int .i64 d3, .int .i64 d4, .int .i64 d5, .int .i64 d6, .int .i64 d7, .int .i64 n, .int .i64 m]) (.agg #[.int .i64 0, .int .i64 0, .int .i64 0, .int .i64 0, .int .i64 0, .int .i64 0, .int .i64 0, .int .i64 0, .int .i64 0, .int .i64 0, .int .i64 0, .int .i64 0, .int .i64 0])).run Try.prog w = .ok (.bool (!eqI ⟨k, l, s, d0, d1, d2, d3, d4, d5, d6, d7, n, m⟩ Ino.zero)) w := neq24 w ⟨k, l, s, d0, d1, d2, d3, d4, d5, d6, d7, n, m⟩ Ino.zero
attribute [local go_sem ↓] neq24z zero24
theorem fits_any (wd : Int) (b : Bool) (n : Nat) (xs : List Int) (hxs : xs.length = n) (ad : Addr) (W : World) (hf : dinode_fits.f 20 wd xs = some b) (hC : Kd.C (Kd.int .i64) W (some ad) n xs) : Calls Try.prog 18 #[.int .i64 wd, .slice (some ad) n n] W fun e w' => e = .returned (.bool b) ∧ Drawn0 W w' := by
  subst hxs
  exact dinode_fits.calls 20 wd (some ad) xs.length xs b W hC (Nat.le_refl _) hf

theorem fits_new (wd : Int) (b : Bool) (n : Nat) (xs : List Int) (hxs : xs.length = n) (hn : n ≤ 1000) (W0 : World) (cs : Array Value) (hcs : cs.toList = nums .i64 xs) (B : Nat) (hB : W0.heap.size = B) (hf : dinode_fits.f 20 wd xs = some b) :
    Calls Try.prog 18 #[.int .i64 wd, .slice (some ⟨B, 0, none⟩) n n] (W0.alloc (.cells cs 3)) fun e w' => e = .returned (.bool b) ∧ Drawn0 (W0.alloc (.cells cs 3)) w' := by
  subst hB
  exact fits_any wd b n xs hxs _ _ hf (C_alloc_new .i64 3 W0 xs cs hcs n hxs hn)

set_option maxRecDepth 100000 in
set_option maxHeartbeats 2000000 in
theorem Pack_ok (x : Ino) (w : World) (h : okI x = true) : Calls Try.prog 9 #[.agg x.cells] w fun e w' => ∃ v, e = .returned (.tuple #[v, .int .i64 0]) ∧ Kd.R (Kd.int .u8) 5 w' w.heap.size (fun _ => True) v (packI x) ∧ Below w.heap.size w w' := by
  obtain ⟨⟨hk0, hk2⟩, h2, h3, h4, h5, h6⟩ := okI_spec h
  have hk2' : ¬ x.k > 2 := by omega
  have hk0' : ¬ x.k < 0 := by omega
  have HC : ∀ W : World, Hid (W.heap[w.heap.size]? = some (.cells x.cells 24)) → Kd.C (Kd.int .i64) W (some ⟨w.heap.size, 3, none⟩) 8 x.ds := fun W hW => C_cells_of rfl (by decide) (fun j y hj => by
    rw [show (Addr.add ⟨w.heap.size, 3, none⟩ j) = ⟨w.heap.size, 3 + j, none⟩ from by rw [Addr.add_lit], blk_cell hW.out]
    match j, hj with
    | 0, hj => obtain rfl : x.d0 = y := by simpa [Ino.ds] using hj
               rfl
    | 1, hj => obtain rfl : x.d1 = y := by simpa [Ino.ds] using hj
               rfl
    | 2, hj => obtain rfl : x.d2 = y := by simpa [Ino.ds] using hj
               rfl
    | 3, hj => obtain rfl : x.d3 = y := by simpa [Ino.ds] using hj
               rfl
    | 4, hj => obtain rfl : x.d4 = y := by simpa [Ino.ds] using hj
               rfl
    | 5, hj => obtain rfl : x.d5 = y := by simpa [Ino.ds] using hj
               rfl
    | 6, hj => obtain rfl : x.d6 = y := by simpa [Ino.ds] using hj
               rfl
    | 7, hj => obtain rfl : x.d7 = y := by simpa [Ino.ds] using hj
               rfl
    | j + 8, hj => simp [Ino.ds] at hj)
  have F1 : Hid (dinode_fits.f 20 2 [x.l] = some true) := Lib.hid (by rw [fits2 20 [x.l] (by simp) (by simp)]; simp [fit2]; omega)
  have F2 : Hid (dinode_fits.f 20 4 [x.s, x.n, x.m] = some true) := Lib.hid (by rw [fits4 20 [x.s, x.n, x.m] (by simp) (by simp)]; simp [fit4]; omega)
  have F3 : Hid (dinode_fits.f 20 4 x.ds = some true) := Lib.hid (by rw [fits4 20 x.ds (by simp [Ino.ds]) (by simp [Ino.ds])]; exact congrArg some (List.all_eq_true.2 fun y hy => decide_eq_true (h6 y hy)))
  have HX := Lib.hid h
  have H6 := Lib.hid h6
  clear h6 h
  have hfree : (x.k == 0) = true → eqI x Ino.zero = true := by
    intro e
    have h := HX.out
    simp only [okI, freeOk, e, Bool.not_true, Bool.false_or, Bool.and_eq_true] at h
    exact h.2
  have HFREE := Lib.hid hfree
  clear hfree
  have G1 := Lib.hid (fun W0 B hB => fits_new 2 true 1 [x.l] rfl (by decide) W0 #[.int .i64 x.l] rfl B hB F1.out)
  have G2 := Lib.hid (fun W0 B hB => fits_new 4 true 3 [x.s, x.n, x.m] rfl (by decide) W0 #[.int .i64 x.s, .int .i64 x.n, .int .i64 x.m] rfl B hB F2.out)
  have G3 := Lib.hid (fun W hW => fits_any 4 true 8 x.ds rfl _ _ F3.out (HC W hW))
  clear HC F1 F2 F3
  unfold Ino.cells
  have hkq : Hid ((x.k == 0) = true ∧ eqI x Ino.zero = true) ∨ Hid ((x.k == 0) = false) := by
    cases hk : (x.k == 0) with
    | true => exact .inl (Lib.hid ⟨rfl, HFREE.out hk⟩)
    | false => exact .inr (Lib.hid rfl)
  rcases hkq with hkq | hkq
  · obtain ⟨hkb, hq⟩ := hkq.out
    clear hkq
    go_enter Try.func9, Try.ntmps9
    go_wp2_with (first
      | (go_at_call 18; (with_reducible refine (G1.out _ _ ?b1).mono ?_); (case b1 => simp); rintro e w1 ⟨rfl, hd⟩; obtain ⟨n1, rfl⟩ := hd.out; clear hd)
      | (go_at_call 18; (with_reducible refine (G2.out _ _ ?b2).mono ?_); (case b2 => simp); rintro e w1 ⟨rfl, hd⟩; obtain ⟨n2, rfl⟩ := hd.out; clear hd)
      | (go_at_call 18; (with_reducible refine (G3.out _ ?b3).mono ?_); (case b3 => exact Lib.hid (blk_drewN (blk_alloc (blk_drewN (blk_alloc (blk_new w _) _) _) _) _)); rintro e w1 ⟨rfl, hd⟩; obtain ⟨n3, rfl⟩ := hd.out; clear hd))
    obtain ⟨B, hBB⟩ : ∃ B, B = w.heap.size := ⟨_, rfl⟩
    have HPk := Lib.hid (Put2 0 x.k)
    have HPl := Lib.hid (Put2 0 x.l)
    have HPs := Lib.hid (Put4 0 x.s)
    refine gen_world (fun W => W.heap[w.heap.size]? = some (.cells x.cells 24) ∧ Below w.heap.size w W) ⟨by repeat (first | exact blk_new _ _ | apply blk_drewN | apply blk_alloc), by repeat (first | exact Below.refl _ _ | apply pw_below_drewN | apply below_alloc)⟩ ?_
    rintro W ⟨hW, hBW⟩
    have hBle : w.heap.size ≤ B := by omega
    rw [← hBB] at hW ⊢
    have HBB := Lib.hid hBB
    clear hBB G1 G2 G3
    have CL : Hid (∀ V : World, V.heap[B]? = some (.cells x.cells 24) → V.cell? ⟨B, 0, none⟩ = some (.int .i64 x.k) ∧ V.cell? ⟨B, 1, none⟩ = some (.int .i64 x.l) ∧ V.cell? ⟨B, 2, none⟩ = some (.int .i64 x.s)) := Lib.hid fun V h => ⟨(blk_cell h 0).trans rfl, (blk_cell h 1).trans rfl, (blk_cell h 2).trans rfl⟩
    have hS0 := CL.out W.drew hW
    have HW := Lib.hid (show W.drew.heap[B]? = _ from hW)
    have HBW := Lib.hid (below_drew hBW)
    clear hW hBW hkb hq
    obtain ⟨L, hL⟩ : ∃ L, num2 x.k ++ num2 x.l ++ num4 x.s = L := ⟨_, rfl⟩
    have HL := Lib.hid hL
    have HLL : Hid (L.length = 8) := Lib.hid (by rw [← hL]; rfl)
    clear hL
    go_region_held3 (fun V => V.cell? ⟨B, 0, none⟩ = some (.int .i64 x.k) ∧ V.cell? ⟨B, 1, none⟩ = some (.int .i64 x.l) ∧ V.cell? ⟨B, 2, none⟩ = some (.int .i64 x.s)) (first | exact hS0 | exact hS5 | exact hS4 | exact hS3 | exact hS2 | exact hS1)
      (first
        | (go_at_call 19; (with_reducible refine (dinode_Put_int.calls 5 x.k 2 (num2 x.k) _ HPk.out).mono ?_); rintro e w1 ⟨v1, rfl, ho1, hb1⟩; obtain ⟨A1, c1, rfl⟩ := Kd.R_slice ho1; have hW1 := Lib.hid (blk_below HW.out hb1); have hS1 := CL.out w1 hW1.out; have HB1 := Lib.hid (HBW.out.trans (hb1.mono HBW.out.size)); clear hb1)
        | (go_at_call 19; (with_reducible refine (dinode_Put_int.calls 5 x.l 2 (num2 x.l) _ HPl.out).mono ?_); rintro e w2 ⟨v2, rfl, ho2, hb2⟩; obtain ⟨A2, c2, rfl⟩ := Kd.R_slice ho2; have hW2 := Lib.hid (blk_below hW1.out hb2); have hS2 := CL.out w2 hW2.out; have HB2 := Lib.hid (HB1.out.trans (hb2.mono HB1.out.size)); have ho1' := Kd.R_below ho1 hb2; clear hb2)
        | (refine Kd.R_append_rows_step (Kd.int .u8) (w0 := w) w.heap.size rfl (.tmp 49) (.tmp 52) 26 5 (.int .u8 0) 1 rfl Try.underlying26 info5 rfl (by decide) (by omega) _ (num2 x.k) (num2 x.l) A2 2 c2 (fun _ => True) (fun _ => False) rfl rfl (Kd.R_lower ho1' (HBW.out.size)) (Kd.R_reads' ho2).2.2 (fun _ _ h => h) (fun _ h => h.elim) (fun _ _ => trivial) HB2.out HB2.out.size (by simp [num2, num4]) ?_; intro v3 w3 ho3 hb3 hg3 hat3; obtain ⟨A3, c3, rfl⟩ := Kd.R_slice ho3; have hW3 := Lib.hid (blk_grown hW2.out hg3 (Kd.R_ne ho1' hW2.out (by decide))); have hS3 := CL.out w3 hW3.out; have HB3 := Lib.hid hb3; clear hb3 hg3 hat3)
        | (go_at_call 19; (with_reducible refine (dinode_Put_int.calls 5 x.s 4 (num4 x.s) _ HPs.out).mono ?_); rintro e w4 ⟨v4, rfl, ho4, hb4⟩; obtain ⟨A4, c4, rfl⟩ := Kd.R_slice ho4; have hW4 := Lib.hid (blk_below hW3.out hb4); have hS4 := CL.out w4 hW4.out; have HB4 := Lib.hid (HB3.out.trans (hb4.mono HB3.out.size)); have ho3' := Kd.R_below ho3 hb4; clear hb4)
        | (refine Kd.R_append_rows_step (Kd.int .u8) (w0 := w) w.heap.size rfl (.tmp 53) (.tmp 56) 26 5 (.int .u8 0) 1 rfl Try.underlying26 info5 rfl (by decide) (by omega) _ (num2 x.k ++ num2 x.l) (num4 x.s) A4 4 c4 (fun _ => True) (fun _ => False) rfl rfl (ho3') (Kd.R_reads' ho4).2.2 (fun _ _ h => h) (fun _ h => h.elim) (fun _ _ => trivial) HB4.out HB4.out.size (by simp [num2, num4]) ?_; intro v5 w5 ho5 hb5 hg5 hat5; rw [HL.out] at ho5; obtain ⟨A5, c5, rfl⟩ := Kd.R_slice ho5; have hW5 := Lib.hid (blk_grown hW4.out hg5 (Kd.R_ne ho3' hW4.out (by decide))); have hS5 := CL.out w5 hW5.out; have HB5 := Lib.hid hb5; clear hb5 hg5 hat5))
    have HO5 := Lib.hid ho5
    clear ho1 ho1' ho2 ho3 ho3' ho4 hS1 hS2 hS3 hS4 hS5 ho5 hS0 CL HB1 HB2 HB3 HB4 hW1 hW2 hW3 hW4 HW HBW HPk HPl HPs
    have CL2 : Hid (∀ V : World, V.heap[B]? = some (.cells x.cells 24) → V.cell? ⟨B, 11, none⟩ = some (.int .i64 x.n) ∧ V.cell? ⟨B, 12, none⟩ = some (.int .i64 x.m)) := Lib.hid fun V h => ⟨(blk_cell h 11).trans rfl, (blk_cell h 12).trans rfl⟩
    have hT0 := CL2.out w5.drew hW5.out
    have hW5a := Lib.hid (show (w5.alloc (.cells #[.int .i64 x.n, .int .i64 x.m] 3)).drew.heap[B]? = some (.cells x.cells 24) from blk_alloc hW5.out _)
    have hT1 := CL2.out _ hW5a.out
    have hNM : Hid (∀ j u, ([.int .i64 x.n, .int .i64 x.m] : List Value)[j]? = some u → (w5.alloc (.cells #[.int .i64 x.n, .int .i64 x.m] 3)).drew.cell? (Addr.add ⟨w5.heap.size, 0, none⟩ j) = some u) := Lib.hid (fun j u hj => by
      rw [Addr.add_lit, Nat.zero_add]
      have := blk_cell (blk_new w5 (.cells #[.int .i64 x.n, .int .i64 x.m] 3)) j
      exact this.trans (by simpa using hj))
    have hDS : Hid (∀ b, (some ⟨B, 3, none⟩ : Option Addr) = some b → ∀ j u, (nums .i64 x.ds)[j]? = some u → (w5.alloc (.cells #[.int .i64 x.n, .int .i64 x.m] 3)).drew.cell? (b.add j) = some u) := Lib.hid (fun b hb j u hj => by
      obtain rfl := Option.some.inj hb
      rw [Addr.add_lit, blk_cell hW5a.out]
      match j, hj with
      | 0, hj => simpa [Ino.ds, nums] using hj
      | 1, hj => simpa [Ino.ds, nums] using hj
      | 2, hj => simpa [Ino.ds, nums] using hj
      | 3, hj => simpa [Ino.ds, nums] using hj
      | 4, hj => simpa [Ino.ds, nums] using hj
      | 5, hj => simpa [Ino.ds, nums] using hj
      | 6, hj => simpa [Ino.ds, nums] using hj
      | 7, hj => simpa [Ino.ds, nums] using hj
      | j + 8, hj => simp [Ino.ds, nums] at hj)
    obtain ⟨i3, hi3, hzz3⟩ := Option.map_eq_some_iff.1 info3
    simp only [Prod.mk.injEq] at hzz3
    have HI3 := Lib.hid hzz3
    have HIN3 := Lib.hid hi3
    clear hzz3 hi3
    go_wp2_with fail
    go_region_held3 (fun V => V.cell? ⟨B, 11, none⟩ = some (.int .i64 x.n) ∧ V.cell? ⟨B, 12, none⟩ = some (.int .i64 x.m)) (first | exact hT0 | exact hT1 | exact hT2)
      ((refine step_append_grows rfl (.tmp 59) (.tmp 64) 41 rfl 3 i3 (.int .i64 0) 1 8 Try.underlying41 HIN3.out HI3.out.1 HI3.out.2.1 HI3.out.2.2 rfl (by decide) (some ⟨B, 3, none⟩) 8 8 (nums .i64 x.ds) rfl (fun h => by cases h) rfl hDS.out ⟨w5.heap.size, 0, none⟩ 2 2 [.int .i64 x.n, .int .i64 x.m] rfl rfl hNM.out (by intro u hu; simp at hu; rcases hu with rfl | rfl <;> rfl) (by decide) (by decide) (by decide) ?_; intro v6 w6 ho6 hg6; obtain ⟨A6, c6, rfl⟩ := own_slice ho6; have hW6 := Lib.hid (blk_grown hW5a.out hg6 (by simp)); have hT2 := CL2.out w6 hW6.out; have HG6 := Lib.hid hg6; clear hg6))
    obtain ⟨D, hD⟩ : ∃ D, x.ds ++ [x.n, x.m] = D := ⟨_, rfl⟩
    have HD0 : Kd.R (Kd.int .i64) 3 w6 w.heap.size (fun k => (Value.slice A6 10 c6).ownBlock = some k) (.slice A6 10 c6) D := by
      rw [← hD]
      exact Kd.R_lower (Kd.R_of_own (ok := fun k => (Value.slice A6 10 c6).ownBlock = some k) (xs := x.ds ++ [x.n, x.m]) ho6 (fun k hk => hk)) (by have := HB5.out.size; simp; omega)
    have HDL : Hid (D.length = 10) := Lib.hid (by rw [← hD]; rfl)
    have HDD := Lib.hid hD
    have HB6 := Lib.hid (((below_drew (below_alloc HB5.out (.cells #[.int .i64 x.n, .int .i64 x.m] 3)))).grown HG6.out (by have := HB5.out.size; simp; omega) (fun k hk => by cases hk))
    have HO6 := Lib.hid (Kd.R_grown (Kd.R_bound (Kd.R_drew (Kd.R_alloc HO5.out (.cells #[.int .i64 x.n, .int .i64 x.m] 3)))) HG6.out (fun k _ e => by cases e))
    have HO6' := Lib.hid (Kd.R_mono HO6.out (ok' := fun _ => True) (fun _ _ => trivial))
    have HD1 := Lib.hid HD0
    have HTK : Hid (∀ k : Nat, k < 10 → (D.take (k + 1)).flatMap num4 = (D.take k).flatMap num4 ++ num4 (rd D (k : Int))) := Lib.hid (fun k hk => by
      have hk' : k < D.length := by have := HDL.out; omega
      rw [List.take_succ_eq_append_getElem hk', List.flatMap_append, rd_nat D k hk']
      simp)
    have HTL : Hid (∀ k : Nat, k ≤ 10 → ((D.take k).flatMap num4).length = 4 * k) := Lib.hid (fun k hk => by
      have : ∀ q : List Int, (q.flatMap num4).length = 4 * q.length := fun q => by
        induction q with
        | nil => rfl
        | cons y q ih => rw [List.flatMap_cons, List.length_append, ih, List.length_cons]; show 4 + _ = _; omega
      rw [this, List.length_take, HDL.out]
      omega)
    clear HD0 ho6 hD hT0 hT1 hT2 hNM hDS HIN3 HI3 HB5 HG6 HO5 HO6 hW5 hW5a CL2
    go_wp2_with fail
    go_loopw [67, 4] (fun i v wr => ∃ (k : Nat) (A : Option Addr) (c : Nat), k ≤ 10 ∧ i = .int .i64 (k : Int) ∧ v = .slice A (8 + 4 * k) c ∧ Hid (Kd.R (Kd.int .u8) 5 wr w.heap.size (fun _ => True) (.slice A (8 + 4 * k) c) (L ++ (D.take k).flatMap num4)) ∧ Hid (Kd.R (Kd.int .i64) 3 wr w.heap.size (fun k => (Value.slice A6 10 c6).ownBlock = some k) (.slice A6 10 c6) D) ∧ Hid (Below w.heap.size w wr)) (fun i _ _ => 10 - (intOf i).toNat)
    case atStart => exact ⟨0, A5, c5, by omega, rfl, by simp only [HLL.out], Lib.hid (by have := HO6'.out; rw [HLL.out] at this; simpa using this), HD1, HB6⟩
    case round =>
      obtain ⟨k, A, c, hk, rfl, rfl, HR, HD, HB⟩ := hrel
      by_cases hlt : k < 10
      · have hlt' : (k : Int) < 10 := by omega
        have hkl : (k : Int) < (D.length : Int) := by have := HDL.out; omega
        obtain ⟨ad, e1, hrd⟩ := Kd.at_int (Kd.R_reads' HD.out).2.2 (k : Int) (by omega) hkl
        subst e1
        rw [Int.toNat_natCast] at hrd
        have HP := Lib.hid (Put4 0 (rd D (k : Int)))
        go_wp2_with (first
          | (go_at_call 19; (with_reducible refine (dinode_Put_int.calls 5 _ 4 (num4 (rd D (k : Int))) _ HP.out).mono ?_); rintro e w7 ⟨v7, rfl, ho7, hb7⟩; obtain ⟨A7, c7, rfl⟩ := Kd.R_slice ho7; have HB7 := Lib.hid (HB.out.trans (hb7.mono HB.out.size)); have HR7 := Lib.hid (Kd.R_below HR.out hb7); have HD7 := Lib.hid (Kd.R_below HD.out hb7); clear hb7)
          | (at_builtin; refine Kd.R_append_rows (Kd.int .u8) (w0 := w) w.heap.size rfl (.tmp 71) (.tmp 73) 26 5 (.int .u8 0) 1 rfl Try.underlying26 info5 rfl (by decide) (by omega) (.slice A (8 + 4 * k) c) (L ++ (D.take k).flatMap num4) (num4 (rd D (k : Int))) A7 4 c7 (fun _ => True) (fun _ => False) rfl rfl HR7.out (Kd.R_reads' ho7).2.2 (fun _ _ h => h) (fun _ h => h.elim) (fun _ _ => trivial) HB7.out HB7.out.size (by have := HTL.out k hk; have := HLL.out; simp only [List.length_append]; omega) ?_; intro v8 w8 ho8 hb8 hg8 hat8))
        have HD8 := Kd.R_grown HD7.out hg8 (fun j hj e => by
          have h1 := Kd.own_of_R HD7.out
          have h2 := Kd.own_of_R HR7.out
          rcases own_type_ne h1 h2 (by decide) with h | h
          · rw [h] at hj; cases hj
          · exact h (hj.trans e))
        obtain ⟨A8, c8, rfl⟩ := Kd.R_slice ho8
        have hl8 : (L ++ (D.take k).flatMap num4 ++ num4 (rd D (k : Int))).length = 8 + 4 * (k + 1) := by
          have := HTL.out k hk; have := HLL.out; simp only [List.length_append]; rw [this, HTL.out k hk]; show 8 + 4 * k + 4 = _; omega
        have ho8' : Kd.R (Kd.int .u8) 5 w8 w.heap.size (fun _ => True) (.slice A8 (8 + 4 * (k + 1)) c8) (L ++ (D.take (k + 1)).flatMap num4) := by
          rw [HTK.out k hlt, ← List.append_assoc, ← hl8]; exact ho8
        rw [hl8]
        have HO8 := Lib.hid ho8'
        clear ho8 ho8' hg8 hat8
        go_wp2_with fail
        go_roundw
        case rel => (iterate 11 apply Exists.intro); exact ⟨⟨k + 1, A8, c8, by omega, by go_num, rfl, HO8, Lib.hid HD8, Lib.hid hb8⟩, rfl⟩
        case measure => simp [intOf]; omega
      · obtain rfl : k = 10 := by omega
        go_wp2_with (at_builtin; refine Kd.R_append_zeros (Kd.int .u8) (w0 := w) w.heap.size rfl (.tmp 76) (.const (.int .i64 16)) 26 3 5 (.int .u8 0) 1 rfl Try.underlying26 Try.underlying3 info5 rfl (by decide) (by omega) _ _ 0 16 (fun _ => True) rfl rfl rfl (fun _ _ => trivial) HR.out (by omega) HB.out HB.out.size (by have := HTL.out 10 (by omega); have := HLL.out; simp only [List.length_append]; omega) ?_; intro v9 w9 ho9 hb9 hg9 hat9)
        go_ret2
        refine ⟨_, rfl, ?_, hb9⟩
        have : L ++ (D.take 10).flatMap num4 ++ List.replicate (16 : Int).toNat 0 = packI x := by
          rw [List.take_of_length_le (by have := HDL.out; omega), ← HDD.out, ← HL.out]
          simp [packI, bodyI, headI, Ino.ds]
        rw [← this]
        exact ho9
  · have hkb := hkq.out
    have hq : True := trivial
    clear hkq
    go_enter Try.func9, Try.ntmps9
    go_wp2_with (first
      | (go_at_call 18; (with_reducible refine (G1.out _ _ ?b1).mono ?_); (case b1 => simp); rintro e w1 ⟨rfl, hd⟩; obtain ⟨n1, rfl⟩ := hd.out; clear hd)
      | (go_at_call 18; (with_reducible refine (G2.out _ _ ?b2).mono ?_); (case b2 => simp); rintro e w1 ⟨rfl, hd⟩; obtain ⟨n2, rfl⟩ := hd.out; clear hd)
      | (go_at_call 18; (with_reducible refine (G3.out _ ?b3).mono ?_); (case b3 => exact Lib.hid (blk_drewN (blk_alloc (blk_drewN (blk_alloc (blk_new w _) _) _) _) _)); rintro e w1 ⟨rfl, hd⟩; obtain ⟨n3, rfl⟩ := hd.out; clear hd))
    obtain ⟨B, hBB⟩ : ∃ B, B = w.heap.size := ⟨_, rfl⟩
    have HPk := Lib.hid (Put2 0 x.k)
    have HPl := Lib.hid (Put2 0 x.l)
    have HPs := Lib.hid (Put4 0 x.s)
    refine gen_world (fun W => W.heap[w.heap.size]? = some (.cells x.cells 24) ∧ Below w.heap.size w W) ⟨by repeat (first | exact blk_new _ _ | apply blk_drewN | apply blk_alloc), by repeat (first | exact Below.refl _ _ | apply pw_below_drewN | apply below_alloc)⟩ ?_
    rintro W ⟨hW, hBW⟩
    have hBle : w.heap.size ≤ B := by omega
    rw [← hBB] at hW ⊢
    have HBB := Lib.hid hBB
    clear hBB G1 G2 G3
    have CL : Hid (∀ V : World, V.heap[B]? = some (.cells x.cells 24) → V.cell? ⟨B, 0, none⟩ = some (.int .i64 x.k) ∧ V.cell? ⟨B, 1, none⟩ = some (.int .i64 x.l) ∧ V.cell? ⟨B, 2, none⟩ = some (.int .i64 x.s)) := Lib.hid fun V h => ⟨(blk_cell h 0).trans rfl, (blk_cell h 1).trans rfl, (blk_cell h 2).trans rfl⟩
    have hS0 := CL.out W.drew hW
    have HW := Lib.hid (show W.drew.heap[B]? = _ from hW)
    have HBW := Lib.hid (below_drew hBW)
    clear hW hBW hkb hq
    obtain ⟨L, hL⟩ : ∃ L, num2 x.k ++ num2 x.l ++ num4 x.s = L := ⟨_, rfl⟩
    have HL := Lib.hid hL
    have HLL : Hid (L.length = 8) := Lib.hid (by rw [← hL]; rfl)
    clear hL
    go_region_held3 (fun V => V.cell? ⟨B, 0, none⟩ = some (.int .i64 x.k) ∧ V.cell? ⟨B, 1, none⟩ = some (.int .i64 x.l) ∧ V.cell? ⟨B, 2, none⟩ = some (.int .i64 x.s)) (first | exact hS0 | exact hS5 | exact hS4 | exact hS3 | exact hS2 | exact hS1)
      (first
        | (go_at_call 19; (with_reducible refine (dinode_Put_int.calls 5 x.k 2 (num2 x.k) _ HPk.out).mono ?_); rintro e w1 ⟨v1, rfl, ho1, hb1⟩; obtain ⟨A1, c1, rfl⟩ := Kd.R_slice ho1; have hW1 := Lib.hid (blk_below HW.out hb1); have hS1 := CL.out w1 hW1.out; have HB1 := Lib.hid (HBW.out.trans (hb1.mono HBW.out.size)); clear hb1)
        | (go_at_call 19; (with_reducible refine (dinode_Put_int.calls 5 x.l 2 (num2 x.l) _ HPl.out).mono ?_); rintro e w2 ⟨v2, rfl, ho2, hb2⟩; obtain ⟨A2, c2, rfl⟩ := Kd.R_slice ho2; have hW2 := Lib.hid (blk_below hW1.out hb2); have hS2 := CL.out w2 hW2.out; have HB2 := Lib.hid (HB1.out.trans (hb2.mono HB1.out.size)); have ho1' := Kd.R_below ho1 hb2; clear hb2)
        | (refine Kd.R_append_rows_step (Kd.int .u8) (w0 := w) w.heap.size rfl (.tmp 49) (.tmp 52) 26 5 (.int .u8 0) 1 rfl Try.underlying26 info5 rfl (by decide) (by omega) _ (num2 x.k) (num2 x.l) A2 2 c2 (fun _ => True) (fun _ => False) rfl rfl (Kd.R_lower ho1' (HBW.out.size)) (Kd.R_reads' ho2).2.2 (fun _ _ h => h) (fun _ h => h.elim) (fun _ _ => trivial) HB2.out HB2.out.size (by simp [num2, num4]) ?_; intro v3 w3 ho3 hb3 hg3 hat3; obtain ⟨A3, c3, rfl⟩ := Kd.R_slice ho3; have hW3 := Lib.hid (blk_grown hW2.out hg3 (Kd.R_ne ho1' hW2.out (by decide))); have hS3 := CL.out w3 hW3.out; have HB3 := Lib.hid hb3; clear hb3 hg3 hat3)
        | (go_at_call 19; (with_reducible refine (dinode_Put_int.calls 5 x.s 4 (num4 x.s) _ HPs.out).mono ?_); rintro e w4 ⟨v4, rfl, ho4, hb4⟩; obtain ⟨A4, c4, rfl⟩ := Kd.R_slice ho4; have hW4 := Lib.hid (blk_below hW3.out hb4); have hS4 := CL.out w4 hW4.out; have HB4 := Lib.hid (HB3.out.trans (hb4.mono HB3.out.size)); have ho3' := Kd.R_below ho3 hb4; clear hb4)
        | (refine Kd.R_append_rows_step (Kd.int .u8) (w0 := w) w.heap.size rfl (.tmp 53) (.tmp 56) 26 5 (.int .u8 0) 1 rfl Try.underlying26 info5 rfl (by decide) (by omega) _ (num2 x.k ++ num2 x.l) (num4 x.s) A4 4 c4 (fun _ => True) (fun _ => False) rfl rfl (ho3') (Kd.R_reads' ho4).2.2 (fun _ _ h => h) (fun _ h => h.elim) (fun _ _ => trivial) HB4.out HB4.out.size (by simp [num2, num4]) ?_; intro v5 w5 ho5 hb5 hg5 hat5; rw [HL.out] at ho5; obtain ⟨A5, c5, rfl⟩ := Kd.R_slice ho5; have hW5 := Lib.hid (blk_grown hW4.out hg5 (Kd.R_ne ho3' hW4.out (by decide))); have hS5 := CL.out w5 hW5.out; have HB5 := Lib.hid hb5; clear hb5 hg5 hat5))
    have HO5 := Lib.hid ho5
    clear ho1 ho1' ho2 ho3 ho3' ho4 hS1 hS2 hS3 hS4 hS5 ho5 hS0 CL HB1 HB2 HB3 HB4 hW1 hW2 hW3 hW4 HW HBW HPk HPl HPs
    have CL2 : Hid (∀ V : World, V.heap[B]? = some (.cells x.cells 24) → V.cell? ⟨B, 11, none⟩ = some (.int .i64 x.n) ∧ V.cell? ⟨B, 12, none⟩ = some (.int .i64 x.m)) := Lib.hid fun V h => ⟨(blk_cell h 11).trans rfl, (blk_cell h 12).trans rfl⟩
    have hT0 := CL2.out w5.drew hW5.out
    have hW5a := Lib.hid (show (w5.alloc (.cells #[.int .i64 x.n, .int .i64 x.m] 3)).drew.heap[B]? = some (.cells x.cells 24) from blk_alloc hW5.out _)
    have hT1 := CL2.out _ hW5a.out
    have hNM : Hid (∀ j u, ([.int .i64 x.n, .int .i64 x.m] : List Value)[j]? = some u → (w5.alloc (.cells #[.int .i64 x.n, .int .i64 x.m] 3)).drew.cell? (Addr.add ⟨w5.heap.size, 0, none⟩ j) = some u) := Lib.hid (fun j u hj => by
      rw [Addr.add_lit, Nat.zero_add]
      have := blk_cell (blk_new w5 (.cells #[.int .i64 x.n, .int .i64 x.m] 3)) j
      exact this.trans (by simpa using hj))
    have hDS : Hid (∀ b, (some ⟨B, 3, none⟩ : Option Addr) = some b → ∀ j u, (nums .i64 x.ds)[j]? = some u → (w5.alloc (.cells #[.int .i64 x.n, .int .i64 x.m] 3)).drew.cell? (b.add j) = some u) := Lib.hid (fun b hb j u hj => by
      obtain rfl := Option.some.inj hb
      rw [Addr.add_lit, blk_cell hW5a.out]
      match j, hj with
      | 0, hj => simpa [Ino.ds, nums] using hj
      | 1, hj => simpa [Ino.ds, nums] using hj
      | 2, hj => simpa [Ino.ds, nums] using hj
      | 3, hj => simpa [Ino.ds, nums] using hj
      | 4, hj => simpa [Ino.ds, nums] using hj
      | 5, hj => simpa [Ino.ds, nums] using hj
      | 6, hj => simpa [Ino.ds, nums] using hj
      | 7, hj => simpa [Ino.ds, nums] using hj
      | j + 8, hj => simp [Ino.ds, nums] at hj)
    obtain ⟨i3, hi3, hzz3⟩ := Option.map_eq_some_iff.1 info3
    simp only [Prod.mk.injEq] at hzz3
    have HI3 := Lib.hid hzz3
    have HIN3 := Lib.hid hi3
    clear hzz3 hi3
    go_wp2_with fail
    go_region_held3 (fun V => V.cell? ⟨B, 11, none⟩ = some (.int .i64 x.n) ∧ V.cell? ⟨B, 12, none⟩ = some (.int .i64 x.m)) (first | exact hT0 | exact hT1 | exact hT2)
      ((refine step_append_grows rfl (.tmp 59) (.tmp 64) 41 rfl 3 i3 (.int .i64 0) 1 8 Try.underlying41 HIN3.out HI3.out.1 HI3.out.2.1 HI3.out.2.2 rfl (by decide) (some ⟨B, 3, none⟩) 8 8 (nums .i64 x.ds) rfl (fun h => by cases h) rfl hDS.out ⟨w5.heap.size, 0, none⟩ 2 2 [.int .i64 x.n, .int .i64 x.m] rfl rfl hNM.out (by intro u hu; simp at hu; rcases hu with rfl | rfl <;> rfl) (by decide) (by decide) (by decide) ?_; intro v6 w6 ho6 hg6; obtain ⟨A6, c6, rfl⟩ := own_slice ho6; have hW6 := Lib.hid (blk_grown hW5a.out hg6 (by simp)); have hT2 := CL2.out w6 hW6.out; have HG6 := Lib.hid hg6; clear hg6))
    obtain ⟨D, hD⟩ : ∃ D, x.ds ++ [x.n, x.m] = D := ⟨_, rfl⟩
    have HD0 : Kd.R (Kd.int .i64) 3 w6 w.heap.size (fun k => (Value.slice A6 10 c6).ownBlock = some k) (.slice A6 10 c6) D := by
      rw [← hD]
      exact Kd.R_lower (Kd.R_of_own (ok := fun k => (Value.slice A6 10 c6).ownBlock = some k) (xs := x.ds ++ [x.n, x.m]) ho6 (fun k hk => hk)) (by have := HB5.out.size; simp; omega)
    have HDL : Hid (D.length = 10) := Lib.hid (by rw [← hD]; rfl)
    have HDD := Lib.hid hD
    have HB6 := Lib.hid (((below_drew (below_alloc HB5.out (.cells #[.int .i64 x.n, .int .i64 x.m] 3)))).grown HG6.out (by have := HB5.out.size; simp; omega) (fun k hk => by cases hk))
    have HO6 := Lib.hid (Kd.R_grown (Kd.R_bound (Kd.R_drew (Kd.R_alloc HO5.out (.cells #[.int .i64 x.n, .int .i64 x.m] 3)))) HG6.out (fun k _ e => by cases e))
    have HO6' := Lib.hid (Kd.R_mono HO6.out (ok' := fun _ => True) (fun _ _ => trivial))
    have HD1 := Lib.hid HD0
    have HTK : Hid (∀ k : Nat, k < 10 → (D.take (k + 1)).flatMap num4 = (D.take k).flatMap num4 ++ num4 (rd D (k : Int))) := Lib.hid (fun k hk => by
      have hk' : k < D.length := by have := HDL.out; omega
      rw [List.take_succ_eq_append_getElem hk', List.flatMap_append, rd_nat D k hk']
      simp)
    have HTL : Hid (∀ k : Nat, k ≤ 10 → ((D.take k).flatMap num4).length = 4 * k) := Lib.hid (fun k hk => by
      have : ∀ q : List Int, (q.flatMap num4).length = 4 * q.length := fun q => by
        induction q with
        | nil => rfl
        | cons y q ih => rw [List.flatMap_cons, List.length_append, ih, List.length_cons]; show 4 + _ = _; omega
      rw [this, List.length_take, HDL.out]
      omega)
    clear HD0 ho6 hD hT0 hT1 hT2 hNM hDS HIN3 HI3 HB5 HG6 HO5 HO6 hW5 hW5a CL2
    go_wp2_with fail
    go_loopw [67, 4] (fun i v wr => ∃ (k : Nat) (A : Option Addr) (c : Nat), k ≤ 10 ∧ i = .int .i64 (k : Int) ∧ v = .slice A (8 + 4 * k) c ∧ Hid (Kd.R (Kd.int .u8) 5 wr w.heap.size (fun _ => True) (.slice A (8 + 4 * k) c) (L ++ (D.take k).flatMap num4)) ∧ Hid (Kd.R (Kd.int .i64) 3 wr w.heap.size (fun k => (Value.slice A6 10 c6).ownBlock = some k) (.slice A6 10 c6) D) ∧ Hid (Below w.heap.size w wr)) (fun i _ _ => 10 - (intOf i).toNat)
    case atStart => exact ⟨0, A5, c5, by omega, rfl, by simp only [HLL.out], Lib.hid (by have := HO6'.out; rw [HLL.out] at this; simpa using this), HD1, HB6⟩
    case round =>
      obtain ⟨k, A, c, hk, rfl, rfl, HR, HD, HB⟩ := hrel
      by_cases hlt : k < 10
      · have hlt' : (k : Int) < 10 := by omega
        have hkl : (k : Int) < (D.length : Int) := by have := HDL.out; omega
        obtain ⟨ad, e1, hrd⟩ := Kd.at_int (Kd.R_reads' HD.out).2.2 (k : Int) (by omega) hkl
        subst e1
        rw [Int.toNat_natCast] at hrd
        have HP := Lib.hid (Put4 0 (rd D (k : Int)))
        go_wp2_with (first
          | (go_at_call 19; (with_reducible refine (dinode_Put_int.calls 5 _ 4 (num4 (rd D (k : Int))) _ HP.out).mono ?_); rintro e w7 ⟨v7, rfl, ho7, hb7⟩; obtain ⟨A7, c7, rfl⟩ := Kd.R_slice ho7; have HB7 := Lib.hid (HB.out.trans (hb7.mono HB.out.size)); have HR7 := Lib.hid (Kd.R_below HR.out hb7); have HD7 := Lib.hid (Kd.R_below HD.out hb7); clear hb7)
          | (at_builtin; refine Kd.R_append_rows (Kd.int .u8) (w0 := w) w.heap.size rfl (.tmp 71) (.tmp 73) 26 5 (.int .u8 0) 1 rfl Try.underlying26 info5 rfl (by decide) (by omega) (.slice A (8 + 4 * k) c) (L ++ (D.take k).flatMap num4) (num4 (rd D (k : Int))) A7 4 c7 (fun _ => True) (fun _ => False) rfl rfl HR7.out (Kd.R_reads' ho7).2.2 (fun _ _ h => h) (fun _ h => h.elim) (fun _ _ => trivial) HB7.out HB7.out.size (by have := HTL.out k hk; have := HLL.out; simp only [List.length_append]; omega) ?_; intro v8 w8 ho8 hb8 hg8 hat8))
        have HD8 := Kd.R_grown HD7.out hg8 (fun j hj e => by
          have h1 := Kd.own_of_R HD7.out
          have h2 := Kd.own_of_R HR7.out
          rcases own_type_ne h1 h2 (by decide) with h | h
          · rw [h] at hj; cases hj
          · exact h (hj.trans e))
        obtain ⟨A8, c8, rfl⟩ := Kd.R_slice ho8
        have hl8 : (L ++ (D.take k).flatMap num4 ++ num4 (rd D (k : Int))).length = 8 + 4 * (k + 1) := by
          have := HTL.out k hk; have := HLL.out; simp only [List.length_append]; rw [this, HTL.out k hk]; show 8 + 4 * k + 4 = _; omega
        have ho8' : Kd.R (Kd.int .u8) 5 w8 w.heap.size (fun _ => True) (.slice A8 (8 + 4 * (k + 1)) c8) (L ++ (D.take (k + 1)).flatMap num4) := by
          rw [HTK.out k hlt, ← List.append_assoc, ← hl8]; exact ho8
        rw [hl8]
        have HO8 := Lib.hid ho8'
        clear ho8 ho8' hg8 hat8
        go_wp2_with fail
        go_roundw
        case rel => (iterate 11 apply Exists.intro); exact ⟨⟨k + 1, A8, c8, by omega, by go_num, rfl, HO8, Lib.hid HD8, Lib.hid hb8⟩, rfl⟩
        case measure => simp [intOf]; omega
      · obtain rfl : k = 10 := by omega
        go_wp2_with (at_builtin; refine Kd.R_append_zeros (Kd.int .u8) (w0 := w) w.heap.size rfl (.tmp 76) (.const (.int .i64 16)) 26 3 5 (.int .u8 0) 1 rfl Try.underlying26 Try.underlying3 info5 rfl (by decide) (by omega) _ _ 0 16 (fun _ => True) rfl rfl rfl (fun _ _ => trivial) HR.out (by omega) HB.out HB.out.size (by have := HTL.out 10 (by omega); have := HLL.out; simp only [List.length_append]; omega) ?_; intro v9 w9 ho9 hb9 hg9 hat9)
        go_ret2
        refine ⟨_, rfl, ?_, hb9⟩
        have : L ++ (D.take 10).flatMap num4 ++ List.replicate (16 : Int).toNat 0 = packI x := by
          rw [List.take_of_length_le (by have := HDL.out; omega), ← HDD.out, ← HL.out]
          simp [packI, bodyI, headI, Ino.ds]
        rw [← this]
        exact ho9
end Go.Proofs.Ytdjncafofcpoiaa.Given
