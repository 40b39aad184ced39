/- CrashGone: the walk. -/
import Derived.Test.YtnnnakgdmhmpmaaI14
import Derived.Deep.DeepCutAuto
import Derived.Deep.CutBlock
namespace Go.Proofs.Ytnnnakgdmhmpmaa.Given
open Go.RowKit Go.Proofs.YtnnnakgdmhmpmaaW.PrintWords Go.Proofs.YtnnnakgdmhmpmaaW.PrintLast Go.Proofs.YtnnnakgdmhmpmaaW.PrintMore Go.Proofs.YtnnnakgdmhmpmaaBase
set_option linter.unusedVariables false
set_option linter.unusedSimpArgs false

theorem info33 : (Try.prog.info? 33).map (fun i => (i.zero, i.size, i.bytes)) = some (some (.agg #[.int .i64 0, .string ⟨#[]⟩]), 2, 24) := by kernel_rfl
/-- the node at nb, its names a row of the law's own -/
structure GBox (w : World) (nb : Nat) (A5 : Option Addr) (c5 : Nat) (es : List S33) (wr : World) : Prop where
  box : wr.heap[nb]? = some (.cells #[.int .i64 1, .int .i64 2, .int .i64 0, .int .i64 0, .slice none 0 0, .slice A5 es.length c5] 29 (0, 0))
  R : Kd.R k33 33 wr w.heap.size (fun _ => True) (.slice A5 es.length c5) es
  b : Below w.heap.size w wr
  nb : w.heap.size ≤ nb
theorem GBox.below {w wr w2 : World} {nb : Nat} {A5 : Option Addr} {c5 : Nat} {es : List S33} (h : GBox w nb A5 c5 es wr) (hb : Below wr.heap.size wr w2) : GBox w nb A5 c5 es w2 := ⟨(hb.block _ (blk_lt h.box)).trans h.box, Kd.R_below h.R hb, h.b.trans (hb.mono h.b.size), h.nb⟩
theorem GBox.node {w wr : World} {nb : Nat} {A5 : Option Addr} {c5 : Nat} {es : List S33} (h : GBox w nb A5 c5 es wr) : Node wr (nG es) none 0 A5 c5 := ⟨Nat.le_refl _, (Kd.R_reads' h.R).2.1, Kd.C_nil _ _, (Kd.R_reads' h.R).2.2⟩
theorem WS.lower {base base' : Nat} {w : World} {g : Nat} {N : List NS} {Q : List PS} (h : WS base w g N Q) (hb : base' ≤ base) : WS base' w g N Q := by
  obtain ⟨bn, bp, N', Q', hI, h1, h2⟩ := h
  exact ⟨bn, bp, N', Q', hI.lower hb, h1, h2⟩
theorem ok_nil {base : Nat} {w : World} {g : Nat} {N : List NS} {Q : List PS} (h : WS base w g N Q) (hN : ∀ x ∈ N, x.ever.length ≤ 9223372036854775807 ∧ I64 x.dir ∧ x.nm.size ≤ maxLen) :
    Calls Try.prog 10 #[.pointer (some ⟨g, 0, none⟩), .slice none 0 0] w (MayP N Q [] w) := ok_calls (l := []) h (Kd.C_nil _ _) (by simp) hN
theorem C_nG {wr : World} {A5 : Option Addr} {c5 : Nat} {es : List S33} (h : Node wr (nG es) none 0 A5 c5) : Kd.C k29 (wr.alloc (.cells #[.int .i64 1, .int .i64 2, .int .i64 0, .int .i64 0, .slice none 0 0, .slice A5 es.length c5] 29)) (some ⟨wr.heap.size, 0, none⟩) [nG es].length [nG es] :=
  C29_one (x := nG es) (blk_new wr _) (h.below (below_alloc (Below.refl _ _) _))
theorem new_nG_calls (b : Nat) {w : World} {es : List S33} (hC : Kd.C k29 w (some ⟨b, 0, none⟩) [nG es].length [nG es]) (h : ∀ e ∈ es, e.f0 ≠ 0 ∧ I64 e.f0 ∧ e.f1.size ≤ maxLen) (hn : (es.map S33.f1).Nodup) :
    Calls Try.prog 7 #[.slice (some ⟨b, 0, none⟩) 1 1] w fun e w' => ∃ g, e = .returned (.pointer (some ⟨g, 0, none⟩)) ∧ WS w.heap.size w' g (namesOf es) [] ∧ Below w.heap.size w w' := by
  refine (new_calls (c := 1) hC (fun n hn => by rw [List.mem_singleton] at hn; rw [hn]; exact fit_nG (fun e he => (h e he).2))).mono ?_
  rintro e w' ⟨g, rfl, hW, hb⟩
  rw [(new_nG (fun e he => (h e he).1) hn).1, (new_nG (fun e he => (h e he).1) hn).2] at hW
  exact ⟨g, rfl, hW, hb⟩

set_option maxRecDepth 100000 in
set_option maxHeartbeats 4000000 in
theorem gone_row (A : Option Addr) (c : Nat) (l : List Int) (gn : Int) (dir : Bool) (w : World) (hC : Kd.C (Kd.int .i64) w A l.length l) (hc : l.length ≤ c) (hl : l.length ≤ maxLen ∧ ∀ y ∈ l, (Lit.int .i64 y).wf = true) (hg : (Lit.int .i64 gn).wf = true) :
    Calls Try.prog 5 #[.slice A l.length c, .int .i64 gn, .bool dir] w fun e w' => e = .returned (.bool true) ∧ Below w.heap.size w w' := by
  have hlm := hl.1
  unfold maxLen at hlm
  by_cases h1 : 20 < l.length
  · have h1i : (20 : Int) < (l.length : Int) := by omega
    clear hC hl
    go_enter Try.func5, Try.ntmps5
    go_wp2_with (go_at_call 6; (with_reducible refine (alive_calls _).mono ?_); rintro e w1 ⟨rfl, hb⟩; have HB := Lib.hid hb; clear hb)
    go_ret
    exact ⟨rfl, HB.out⟩
  have h20 : l.length ≤ 20 := by omega
  have h20i : ¬ (20 : Int) < (l.length : Int) := by omega
  have HC := Lib.hid hC
  clear hl hC h1
  go_enter Try.func5, Try.ntmps5
  go_wp2_with (first
    | (go_at_call 6; (with_reducible refine (alive_calls _).mono ?_); rintro e w1 ⟨rfl, hb⟩; have HB1 := Lib.hid hb; have HG0 : Hid (GBox w w1.heap.size none 0 (slotsG l 0) (w1.alloc (.cells #[.int .i64 1, .int .i64 2, .int .i64 0, .int .i64 0, .slice none 0 0, .slice none 0 0] 29))) := Lib.hid ⟨blk_new w1 _, Kd.R_nil _ _ _ _ _, HB1.out.alloc HB1.out.size _, HB1.out.size⟩; clear hb))
  obtain ⟨nb, hnb⟩ : ∃ nb, w1.heap.size = nb := ⟨_, rfl⟩
  rw [hnb] at HG0 ⊢
  clear hnb
  go_loopw [9] (fun i wr => ∃ (m : Nat) (A5 : Option Addr) (c5 : Nat), m ≤ l.length ∧ i = .int .i64 (m : Int) ∧ Hid (GBox w nb A5 c5 (slotsG l m) wr) ∧ Hid (Apart l m)) (fun i _ => l.length - (intOf i).toNat)
  case atStart => exact ⟨0, none, 0, Nat.zero_le _, rfl, HG0, Lib.hid (fun i k h => absurd h (Nat.not_lt_zero _))⟩
  case round =>
    clear HG0
    obtain ⟨m, A5, c5, hm, rfl, HG, HA⟩ := hrel
    by_cases hlt : m < l.length
    · have hlti : (m : Int) < (l.length : Int) := by omega
      obtain ⟨ad, rfl, hcell⟩ := C_cells HC.out (by omega)
      have HCELL : Hid (∀ j, j < l.length → w.cell? (ad.add j) = some (.int .i64 (l.getD j 0))) := Lib.hid (fun j hj => hcell j _ (by simp [nums, List.getElem?_eq_getElem hj, List.getD_eq_getElem?_getD]))
      obtain ⟨x, hx⟩ : ∃ x, l.getD m 0 = x := ⟨_, rfl⟩
      have HX := Lib.hid hx
      clear hx hcell
      go_wp2
      obtain ⟨wo, rfl⟩ : ∃ wo : World, wo = wr := ⟨_, rfl⟩
      go_loopw [10] (fun i wr => ∃ k : Nat, k ≤ m ∧ i = .int .i64 (k : Int) ∧ Hid (GBox w nb A5 c5 (slotsG l m) wr) ∧ Hid (∀ j, j < k → Go.bits .and .i64 (l.getD j 0) 15 ≠ Go.bits .and .i64 x 15)) (fun i _ => m - (intOf i).toNat)
      case atStart => exact ⟨0, Nat.zero_le _, rfl, HG, Lib.hid (fun j h => absurd h (Nat.not_lt_zero _))⟩
      case round =>
        clear HG
        obtain ⟨k, hk, rfl, HG, HNE⟩ := hrel
        by_cases hlk : k < m
        · have hlki : (k : Int) < (m : Int) := by omega
          have hkl : (k : Int) < (l.length : Int) := by omega
          have hck := pw_cell_below (HG.out.b) (HCELL.out k (by omega))
          have hcm := pw_cell_below (HG.out.b) (HCELL.out m hlt)
          rw [HX.out] at hcm
          obtain ⟨y, hy⟩ : ∃ y, l.getD k 0 = y := ⟨_, rfl⟩
          have HY := Lib.hid hy
          rw [hy] at hck
          clear hy
          by_cases hyx : Go.bits .and .i64 y 15 = Go.bits .and .i64 x 15
          · have d1 : (Go.bits .and .i64 y 15 == Go.bits .and .i64 x 15) = true := by simpa using hyx
            have d2 : decide (Go.bits .and .i64 y 15 = Go.bits .and .i64 x 15) = true := by simpa using hyx
            clear hyx
            have HB9 : Hid (Below w.heap.size w wr.drew) := Lib.hid (below_drew HG.out.b)
            go_wp2
            refine start_ (n := 11) (S := fun W => W.cell? (ad.add k) = some (.int .i64 y) ∧ W.cell? (ad.add m) = some (.int .i64 x)) (ds := []) #[false, false, false, false, false, false, false, false, false, false, false] (by kernel_rfl) rfl rfl ⟨hck, hcm⟩ (fun hHeld => ?_)
            refine pure_ (i := 0) (N := some 34) (v := ?_) (a' := ?_) (bm 11 1) rfl rfl (by kernel_rfl) (fun _ _ _ h => h) (Or.inl ⟨by rfl, ?_⟩) ?_ ?_
            rotate_left
            · intro w'
              go_simp
              with_reducible rfl
            rotate_left
            · simp only [Act.put, List.setIfInBounds_toArray, List.set_cons_zero, List.set_cons_succ, i64_w, i32_w]
              rfl
            refine pure_ (i := 1) (N := some 35) (v := ?_) (a' := ?_) (bm 11 3) rfl rfl (by kernel_rfl) (fun _ _ _ h => h) (Or.inl ⟨by rfl, ?_⟩) ?_ ?_
            rotate_left
            · intro w'
              go_simp
              with_reducible rfl
            rotate_left
            · simp only [Act.put, List.setIfInBounds_toArray, List.set_cons_zero, List.set_cons_succ, i64_w, i32_w]
              rfl
            refine pure_ (i := 2) (N := some 36) (v := ?_) (a' := ?_) (bm 11 7) rfl rfl (by kernel_rfl) (fun _ _ _ h => h) (Or.inl ⟨by rfl, ?_⟩) ?_ ?_
            rotate_left
            · intro w'
              go_simp
              with_reducible rfl
            rotate_left
            · simp only [Act.put, List.setIfInBounds_toArray, List.set_cons_zero, List.set_cons_succ, i64_w, i32_w]
              rfl
            refine take_ (i := 3) (N := some 37) (v := ?_) (a' := ?_) (bm 11 15) rfl rfl (by kernel_rfl) (fun _ _ _ h => h) (Or.inl ⟨by rfl, ?_⟩) hHeld ?_ ?_
            rotate_left
            · rintro w' ⟨s0, s1⟩
              go_simp
              with_reducible rfl
            rotate_left
            · simp only [Act.put, List.setIfInBounds_toArray, List.set_cons_zero, List.set_cons_succ, i64_w, i32_w]
              rfl
            refine pure_ (i := 4) (N := some 38) (v := ?_) (a' := ?_) (bm 11 31) rfl rfl (by kernel_rfl) (fun _ _ _ h => h) (Or.inl ⟨by rfl, ?_⟩) ?_ ?_
            rotate_left
            · intro w'
              go_simp
              with_reducible rfl
            rotate_left
            · simp only [Act.put, List.setIfInBounds_toArray, List.set_cons_zero, List.set_cons_succ, i64_w, i32_w]
              rfl
            refine pure_ (i := 5) (N := some 39) (v := ?_) (a' := ?_) (bm 11 63) rfl rfl (by kernel_rfl) (fun _ _ _ h => h) (Or.inl ⟨by rfl, ?_⟩) ?_ ?_
            rotate_left
            · intro w'
              go_simp
              with_reducible rfl
            rotate_left
            · simp only [Act.put, List.setIfInBounds_toArray, List.set_cons_zero, List.set_cons_succ, i64_w, i32_w]
              rfl
            refine pure_ (i := 6) (N := some 40) (v := ?_) (a' := ?_) (bm 11 127) rfl rfl (by kernel_rfl) (fun _ _ _ h => h) (Or.inl ⟨by rfl, ?_⟩) ?_ ?_
            rotate_left
            · intro w'
              go_simp
              with_reducible rfl
            rotate_left
            · simp only [Act.put, List.setIfInBounds_toArray, List.set_cons_zero, List.set_cons_succ, i64_w, i32_w]
              rfl
            refine pure_ (i := 7) (N := some 41) (v := ?_) (a' := ?_) (bm 11 255) rfl rfl (by kernel_rfl) (fun _ _ _ h => h) (Or.inl ⟨by rfl, ?_⟩) ?_ ?_
            rotate_left
            · intro w'
              go_simp
              with_reducible rfl
            rotate_left
            · simp only [Act.put, List.setIfInBounds_toArray, List.set_cons_zero, List.set_cons_succ, i64_w, i32_w]
              rfl
            refine take_ (i := 8) (N := some 42) (v := ?_) (a' := ?_) (bm 11 511) rfl rfl (by kernel_rfl) (fun _ _ _ h => h) (Or.inl ⟨by rfl, ?_⟩) hHeld ?_ ?_
            rotate_left
            · rintro w' ⟨s0, s1⟩
              go_simp
              with_reducible rfl
            rotate_left
            · simp only [Act.put, List.setIfInBounds_toArray, List.set_cons_zero, List.set_cons_succ, i64_w, i32_w]
              rfl
            refine pure_ (i := 9) (N := some 43) (v := ?_) (a' := ?_) (bm 11 1023) rfl rfl (by kernel_rfl) (fun _ _ _ h => h) (Or.inl ⟨by rfl, ?_⟩) ?_ ?_
            rotate_left
            · intro w'
              go_simp
              with_reducible rfl
            rotate_left
            · simp only [Act.put, List.setIfInBounds_toArray, List.set_cons_zero, List.set_cons_succ, i64_w, i32_w]
              rfl
            refine pure_ (i := 10) (N := some 44) (v := ?_) (a' := ?_) (bm 11 2047) rfl rfl (by kernel_rfl) (fun _ _ _ h => h) (Or.inl ⟨by rfl, ?_⟩) ?_ ?_
            rotate_left
            · intro w'
              go_simp
              with_reducible rfl
            rotate_left
            · simp only [Act.put, List.setIfInBounds_toArray, List.set_cons_zero, List.set_cons_succ, i64_w, i32_w]
              rfl
            refine done_ (by kernel_rfl) ?_
            clear hHeld
            go_wp2
            go_ret
            exact ⟨rfl, HB9.out⟩
          · have HYX := Lib.hid hyx
            have d1 : (Go.bits .and .i64 y 15 == Go.bits .and .i64 x 15) = false := by simpa using hyx
            have d2 : decide (Go.bits .and .i64 y 15 = Go.bits .and .i64 x 15) = false := by simpa using hyx
            clear hyx
            have HG9 : Hid (GBox w nb A5 c5 (slotsG l m) wr.drew) := Lib.hid (HG.out.below (below_drew (Below.refl _ wr)))
            have HNE9 : Hid (∀ j, j < k + 1 → Go.bits .and .i64 (l.getD j 0) 15 ≠ Go.bits .and .i64 x 15) := Lib.hid (fun j hj => by
              rcases Nat.lt_succ_iff_lt_or_eq.1 hj with h | rfl
              · exact HNE.out j h
              · rw [HY.out]; exact HYX.out)
            go_wp2
            refine start_ (n := 11) (S := fun W => W.cell? (ad.add k) = some (.int .i64 y) ∧ W.cell? (ad.add m) = some (.int .i64 x)) (ds := []) #[false, false, false, false, false, false, false, false, false, false, false] (by kernel_rfl) rfl rfl ⟨hck, hcm⟩ (fun hHeld => ?_)
            refine pure_ (i := 0) (N := some 34) (v := ?_) (a' := ?_) (bm 11 1) rfl rfl (by kernel_rfl) (fun _ _ _ h => h) (Or.inl ⟨by rfl, ?_⟩) ?_ ?_
            rotate_left
            · intro w'
              go_simp
              with_reducible rfl
            rotate_left
            · simp only [Act.put, List.setIfInBounds_toArray, List.set_cons_zero, List.set_cons_succ, i64_w, i32_w]
              rfl
            refine pure_ (i := 1) (N := some 35) (v := ?_) (a' := ?_) (bm 11 3) rfl rfl (by kernel_rfl) (fun _ _ _ h => h) (Or.inl ⟨by rfl, ?_⟩) ?_ ?_
            rotate_left
            · intro w'
              go_simp
              with_reducible rfl
            rotate_left
            · simp only [Act.put, List.setIfInBounds_toArray, List.set_cons_zero, List.set_cons_succ, i64_w, i32_w]
              rfl
            refine pure_ (i := 2) (N := some 36) (v := ?_) (a' := ?_) (bm 11 7) rfl rfl (by kernel_rfl) (fun _ _ _ h => h) (Or.inl ⟨by rfl, ?_⟩) ?_ ?_
            rotate_left
            · intro w'
              go_simp
              with_reducible rfl
            rotate_left
            · simp only [Act.put, List.setIfInBounds_toArray, List.set_cons_zero, List.set_cons_succ, i64_w, i32_w]
              rfl
            refine take_ (i := 3) (N := some 37) (v := ?_) (a' := ?_) (bm 11 15) rfl rfl (by kernel_rfl) (fun _ _ _ h => h) (Or.inl ⟨by rfl, ?_⟩) hHeld ?_ ?_
            rotate_left
            · rintro w' ⟨s0, s1⟩
              go_simp
              with_reducible rfl
            rotate_left
            · simp only [Act.put, List.setIfInBounds_toArray, List.set_cons_zero, List.set_cons_succ, i64_w, i32_w]
              rfl
            refine pure_ (i := 4) (N := some 38) (v := ?_) (a' := ?_) (bm 11 31) rfl rfl (by kernel_rfl) (fun _ _ _ h => h) (Or.inl ⟨by rfl, ?_⟩) ?_ ?_
            rotate_left
            · intro w'
              go_simp
              with_reducible rfl
            rotate_left
            · simp only [Act.put, List.setIfInBounds_toArray, List.set_cons_zero, List.set_cons_succ, i64_w, i32_w]
              rfl
            refine pure_ (i := 5) (N := some 39) (v := ?_) (a' := ?_) (bm 11 63) rfl rfl (by kernel_rfl) (fun _ _ _ h => h) (Or.inl ⟨by rfl, ?_⟩) ?_ ?_
            rotate_left
            · intro w'
              go_simp
              with_reducible rfl
            rotate_left
            · simp only [Act.put, List.setIfInBounds_toArray, List.set_cons_zero, List.set_cons_succ, i64_w, i32_w]
              rfl
            refine pure_ (i := 6) (N := some 40) (v := ?_) (a' := ?_) (bm 11 127) rfl rfl (by kernel_rfl) (fun _ _ _ h => h) (Or.inl ⟨by rfl, ?_⟩) ?_ ?_
            rotate_left
            · intro w'
              go_simp
              with_reducible rfl
            rotate_left
            · simp only [Act.put, List.setIfInBounds_toArray, List.set_cons_zero, List.set_cons_succ, i64_w, i32_w]
              rfl
            refine pure_ (i := 7) (N := some 41) (v := ?_) (a' := ?_) (bm 11 255) rfl rfl (by kernel_rfl) (fun _ _ _ h => h) (Or.inl ⟨by rfl, ?_⟩) ?_ ?_
            rotate_left
            · intro w'
              go_simp
              with_reducible rfl
            rotate_left
            · simp only [Act.put, List.setIfInBounds_toArray, List.set_cons_zero, List.set_cons_succ, i64_w, i32_w]
              rfl
            refine take_ (i := 8) (N := some 42) (v := ?_) (a' := ?_) (bm 11 511) rfl rfl (by kernel_rfl) (fun _ _ _ h => h) (Or.inl ⟨by rfl, ?_⟩) hHeld ?_ ?_
            rotate_left
            · rintro w' ⟨s0, s1⟩
              go_simp
              with_reducible rfl
            rotate_left
            · simp only [Act.put, List.setIfInBounds_toArray, List.set_cons_zero, List.set_cons_succ, i64_w, i32_w]
              rfl
            refine pure_ (i := 9) (N := some 43) (v := ?_) (a' := ?_) (bm 11 1023) rfl rfl (by kernel_rfl) (fun _ _ _ h => h) (Or.inl ⟨by rfl, ?_⟩) ?_ ?_
            rotate_left
            · intro w'
              go_simp
              with_reducible rfl
            rotate_left
            · simp only [Act.put, List.setIfInBounds_toArray, List.set_cons_zero, List.set_cons_succ, i64_w, i32_w]
              rfl
            refine pure_ (i := 10) (N := some 44) (v := ?_) (a' := ?_) (bm 11 2047) rfl rfl (by kernel_rfl) (fun _ _ _ h => h) (Or.inl ⟨by rfl, ?_⟩) ?_ ?_
            rotate_left
            · intro w'
              go_simp
              with_reducible rfl
            rotate_left
            · simp only [Act.put, List.setIfInBounds_toArray, List.set_cons_zero, List.set_cons_succ, i64_w, i32_w]
              rfl
            refine done_ (by kernel_rfl) ?_
            clear hHeld
            go_wp2
            go_roundw
            case rel => exact ⟨k + 1, by omega, by go_num, HG9, HNE9⟩
            case measure => simp [intOf]; omega
        · obtain rfl : m = k := by omega
          clear hlk
          have HA9 : Hid (Apart l (m + 1)) := Lib.hid (fun i j hi hj => by
            rcases Nat.lt_succ_iff_lt_or_eq.1 hi with h | rfl
            · exact HA.out i j h hj
            · rw [HX.out]; exact HNE.out j hj)
          clear HA HNE
          have HCW := Lib.hid (HCELL.out m hlt)
          rw [HX.out] at HCW
          have hcm := pw_cell_below (HG.out.b) HCW.out
          have hc5 := blk_cell HG.out.box 5
          simp only [List.getElem?_toArray, List.getElem?_cons_zero, List.getElem?_cons_succ] at hc5
          have hr := ch_range x
          have U1 : Hid (wrap64 (5 + (m : Int)) = 5 + (m : Int)) := Lib.hid (by unfold wrap64; omega)
          have U2 : Hid (wrap64 (Go.bits .and .i64 x 15 + 1) = Go.bits .and .i64 x 15 + 1) := Lib.hid (by unfold wrap64; omega)
          have hsl := fun W => run_letter (P := Try.prog) Try.underlying9 hr W
          clear hr
          go_wp2
          refine start_ (n := 21) (S := fun W => W.cell? ⟨nb, 5, none⟩ = some (.slice A5 (slotsG l m).length c5) ∧ W.cell? (ad.add m) = some (.int .i64 x)) (ds := [20]) #[false, false, false, false, false, false, false, false, false, false, false, false, false, false, false, false, false, false, false, false, false] (by kernel_rfl) rfl rfl ⟨hc5, hcm⟩ (fun hHeld => ?_)
          have HG13 : Hid (GBox w nb A5 c5 (slotsG l m) wr.drew) := Lib.hid (HG.out.below (below_drew (Below.refl _ wr)))
          generalize wr.drew = V at hHeld HG13 ⊢
          have hH0 := hHeld
          refine pure_ (i := 0) (N := some 45) (v := ?_) (a' := ?_) (bm 21 1) rfl rfl (by kernel_rfl) (fun _ _ _ h => h) (Or.inl ⟨by rfl, ?_⟩) ?_ ?_
          rotate_left
          · intro w'
            go_simp
            with_reducible rfl
          rotate_left
          · simp only [Act.put, List.setIfInBounds_toArray, List.set_cons_zero, List.set_cons_succ, i64_w, i32_w, U1.out, U2.out]
            rfl
          refine take_ (i := 1) (N := some 46) (v := ?_) (a' := ?_) (bm 21 3) rfl rfl (by kernel_rfl) (fun _ _ _ h => h) (Or.inl ⟨by rfl, ?_⟩) hHeld ?_ ?_
          rotate_left
          · rintro w' ⟨s0, s1⟩
            go_simp
            with_reducible rfl
          rotate_left
          · simp only [Act.put, List.setIfInBounds_toArray, List.set_cons_zero, List.set_cons_succ, i64_w, i32_w, U1.out, U2.out]
            rfl
          refine pure_ (i := 2) (N := some 47) (v := ?_) (a' := ?_) (bm 21 7) rfl rfl (by kernel_rfl) (fun _ _ _ h => h) (Or.inl ⟨by rfl, ?_⟩) ?_ ?_
          rotate_left
          · intro w'
            go_simp
            with_reducible rfl
          rotate_left
          · simp only [Act.put, List.setIfInBounds_toArray, List.set_cons_zero, List.set_cons_succ, i64_w, i32_w, U1.out, U2.out]
            rfl
          refine pure_ (i := 3) (N := some 48) (v := ?_) (a' := ?_) (bm 21 15) rfl rfl (by kernel_rfl) (fun _ _ _ h => h) (Or.inl ⟨by rfl, ?_⟩) ?_ ?_
          rotate_left
          · intro w'
            go_simp
            with_reducible rfl
          rotate_left
          · simp only [Act.put, List.setIfInBounds_toArray, List.set_cons_zero, List.set_cons_succ, i64_w, i32_w, U1.out, U2.out]
            rfl
          refine pure_ (i := 4) (N := some 49) (v := ?_) (a' := ?_) (bm 21 31) rfl rfl (by kernel_rfl) (fun _ _ _ h => h) (Or.inl ⟨by rfl, ?_⟩) ?_ ?_
          rotate_left
          · intro w'
            go_simp
            with_reducible rfl
          rotate_left
          · simp only [Act.put, List.setIfInBounds_toArray, List.set_cons_zero, List.set_cons_succ, i64_w, i32_w, U1.out, U2.out]
            rfl
          refine pure_ (i := 5) (N := some 50) (v := ?_) (a' := ?_) (bm 21 63) rfl rfl (by kernel_rfl) (fun _ _ _ h => h) (Or.inl ⟨by rfl, ?_⟩) ?_ ?_
          rotate_left
          · intro w'
            go_simp
            with_reducible rfl
          rotate_left
          · simp only [Act.put, List.setIfInBounds_toArray, List.set_cons_zero, List.set_cons_succ, i64_w, i32_w, U1.out, U2.out]
            rfl
          refine pure_ (i := 6) (N := some 51) (v := ?_) (a' := ?_) (bm 21 127) rfl rfl (by kernel_rfl) (fun _ _ _ h => h) (Or.inl ⟨by rfl, ?_⟩) ?_ ?_
          rotate_left
          · intro w'
            go_simp
            with_reducible rfl
          rotate_left
          · simp only [Act.put, List.setIfInBounds_toArray, List.set_cons_zero, List.set_cons_succ, i64_w, i32_w, U1.out, U2.out]
            rfl
          refine take_ (i := 7) (N := some 52) (v := ?_) (a' := ?_) (bm 21 255) rfl rfl (by kernel_rfl) (fun _ _ _ h => h) (Or.inl ⟨by rfl, ?_⟩) hHeld ?_ ?_
          rotate_left
          · rintro w' ⟨s0, s1⟩
            go_simp
            with_reducible rfl
          rotate_left
          · simp only [Act.put, List.setIfInBounds_toArray, List.set_cons_zero, List.set_cons_succ, i64_w, i32_w, U1.out, U2.out]
            rfl
          refine pure_ (i := 8) (N := some 53) (v := ?_) (a' := ?_) (bm 21 511) rfl rfl (by kernel_rfl) (fun _ _ _ h => h) (Or.inl ⟨by rfl, ?_⟩) ?_ ?_
          rotate_left
          · intro w'
            go_simp
            with_reducible rfl
          rotate_left
          · simp only [Act.put, List.setIfInBounds_toArray, List.set_cons_zero, List.set_cons_succ, i64_w, i32_w, U1.out, U2.out]
            rfl
          refine pure_ (i := 9) (N := some 54) (v := ?_) (a' := ?_) (bm 21 1023) rfl rfl (by kernel_rfl) (fun _ _ _ h => h) (Or.inl ⟨by rfl, ?_⟩) ?_ ?_
          rotate_left
          · intro w'
            go_simp
            with_reducible rfl
          rotate_left
          · simp only [Act.put, List.setIfInBounds_toArray, List.set_cons_zero, List.set_cons_succ, i64_w, i32_w, U1.out, U2.out]
            rfl
          refine pure_ (i := 10) (N := some 55) (v := ?_) (a' := ?_) (bm 21 2047) rfl rfl (by kernel_rfl) (fun _ _ _ h => h) (Or.inl ⟨by rfl, ?_⟩) ?_ ?_
          rotate_left
          · intro w'
            go_simp
            with_reducible rfl
          rotate_left
          · simp only [Act.put, List.setIfInBounds_toArray, List.set_cons_zero, List.set_cons_succ, i64_w, i32_w, U1.out, U2.out]
            rfl
          refine pure_ (i := 11) (N := some 56) (v := ?_) (a' := ?_) (bm 21 4095) rfl rfl (by kernel_rfl) (fun _ _ _ h => h) (Or.inl ⟨by rfl, ?_⟩) ?_ ?_
          rotate_left
          · intro w'
            go_simp
            with_reducible rfl
          rotate_left
          · simp only [Act.put, List.setIfInBounds_toArray, List.set_cons_zero, List.set_cons_succ, i64_w, i32_w, U1.out, U2.out]
            rfl
          refine take_ (i := 12) (N := some 57) (v := ?_) (a' := ?_) (bm 21 8191) rfl rfl (by kernel_rfl) (fun _ _ _ h => h) (Or.inl ⟨by rfl, ?_⟩) hHeld ?_ ?_
          rotate_left
          · rintro w' ⟨s0, s1⟩
            go_simp
            with_reducible rfl
          rotate_left
          · simp only [Act.put, List.setIfInBounds_toArray, List.set_cons_zero, List.set_cons_succ, i64_w, i32_w, U1.out, U2.out]
            rfl
          refine pure_ (i := 13) (N := some 58) (v := ?_) (a' := ?_) (bm 21 16383) rfl rfl (by kernel_rfl) (fun _ _ _ h => h) (Or.inl ⟨by rfl, ?_⟩) ?_ ?_
          rotate_left
          · intro w'
            go_simp
            with_reducible rfl
          rotate_left
          · simp only [Act.put, List.setIfInBounds_toArray, List.set_cons_zero, List.set_cons_succ, i64_w, i32_w, U1.out, U2.out]
            rfl
          refine pure_ (i := 14) (N := some 59) (v := ?_) (a' := ?_) (bm 21 32767) rfl rfl (by kernel_rfl) (fun _ _ _ h => h) (Or.inl ⟨by rfl, ?_⟩) ?_ ?_
          rotate_left
          · intro w'
            go_simp
            with_reducible rfl
          rotate_left
          · simp only [Act.put, List.setIfInBounds_toArray, List.set_cons_zero, List.set_cons_succ, i64_w, i32_w, U1.out, U2.out]
            rfl
          refine pure_ (i := 15) (N := some 60) (v := ?_) (a' := ?_) (bm 21 65535) rfl rfl (by kernel_rfl) (fun _ _ _ h => h) (Or.inl ⟨by rfl, ?_⟩) ?_ ?_
          rotate_left
          · intro w'
            go_simp
            with_reducible rfl
          rotate_left
          · simp only [Act.put, List.setIfInBounds_toArray, List.set_cons_zero, List.set_cons_succ, i64_w, i32_w, U1.out, U2.out]
            rfl
          refine pure_ (i := 16) (N := some 61) (v := ?_) (a' := ?_) (bm 21 131071) rfl rfl (by kernel_rfl) (fun _ _ _ h => h) (Or.inl ⟨by rfl, ?_⟩) ?_ ?_
          rotate_left
          · intro w'
            go_simp
            with_reducible rfl
          rotate_left
          · simp only [Act.put, List.setIfInBounds_toArray, List.set_cons_zero, List.set_cons_succ, i64_w, i32_w, U1.out, U2.out]
            rfl
          refine one_ (i := 17) (N := some 62) (bm 21 262143) rfl rfl (by kernel_rfl) (by decide) (fun K hK => ?_)
          refine value_ (w1 := ?_) (v := ?_) (by rfl) rfl ?_ ?_
          rotate_left 2
          · go_simp
            constructor
            · rfl
            · rfl
          refine hK.out _ _ ⟨(World.cell?_alloc_lt _ _ _ (World.block_lt_of_cell? _ _ hH0.1)).trans hH0.1, (World.cell?_alloc_lt _ _ _ (World.block_lt_of_cell? _ _ hH0.2)).trans hH0.2⟩ (fun hHeld => ?_)
          clear hK K
          refine norm_ (a' := ?_) ?_ ?_
          rotate_left
          · show Act.put _ (some 62) _ = _
            simp only [Act.put, List.setIfInBounds_toArray, List.set_cons_zero, List.set_cons_succ, i64_w, i32_w, U1.out, U2.out]
            rfl
          refine one_ (i := 18) (N := some 63) (bm 21 524287) rfl rfl (by kernel_rfl) (by decide) (fun K hK => ?_)
          refine Kd.R_append_step k33 (w0 := V) w.heap.size (by rfl) (.tmp 46) (.tmp 62) 27 33 (.agg #[.int .i64 0, .string ⟨#[]⟩]) 24 (by rfl) Try.underlying27 info33 rfl (by decide) (by omega) (.slice A5 (slotsG l m).length c5) (slotsG l m) (slotG l m) [.int .i64 (5 + (m : Int)), .string (nmG (Go.bits .and .i64 x 15))] (fun _ => True) (fun _ => False) (by rfl) (by rfl) (by rw [← HX.out]; exact k33_mkM V _ _ (slotG l m)) (fun k_ hk_ => hk_.elim) (fun k_ hk_ => trivial) HG13.out.R (Below.refl _ _) HG13.out.b.size (by rw [slotsG_len]; omega) ?_
          intro v10 w10 ho10 hb10 hg10 hat10
          obtain ⟨A10, c10, hv10⟩ := Kd.R_slice ho10
          subst hv10
          have hn1 : some nb ≠ (Value.slice A5 (slotsG l m).length c5).ownBlock := Kd.R_ne HG13.out.R HG13.out.box (by decide)
          have hx10 := blk_grown HG13.out.box hg10 hn1
          have hfz := blk_frozen hx10 5
          have hcw10 := pw_cell_below (HG13.out.b.grown hg10 HG13.out.b.size (fun k_ hk_ => by have := Kd.R_base HG13.out.R k_ hk_; omega)) HCW.out
          have HEND : Hid (GBox w nb A10 c10 (slotsG l m ++ [slotG l m]) (w10.setCell ⟨nb, 5, none⟩ (.slice A10 (slotsG l m ++ [slotG l m]).length c10))) := Lib.hid ⟨blk_set hx10 5 _, Kd.R_set ho10 hx10 (by decide) 5 _, ((HG13.out.b.grown hg10 HG13.out.b.size (fun k_ hk_ => by have := Kd.R_base HG13.out.R k_ hk_; omega))).setCell (by exact HG13.out.nb) _, HG13.out.nb⟩
          refine hK.out _ _ ⟨(blk_cell hx10 5).trans rfl, hcw10⟩ (fun hHeld => ?_)
          clear hK K
          refine norm_ (a' := ?_) ?_ ?_
          rotate_left
          · show Act.put _ (some 63) _ = _
            simp only [Act.put, List.setIfInBounds_toArray, List.set_cons_zero, List.set_cons_succ, i64_w, i32_w, U1.out, U2.out]
            rfl
          refine pure_ (i := 19) (N := some 64) (v := ?_) (a' := ?_) (bm 21 1048575) rfl rfl (by kernel_rfl) (fun _ _ _ h => h) (Or.inl ⟨by rfl, ?_⟩) ?_ ?_
          rotate_left
          · intro w'
            go_simp
            with_reducible rfl
          rotate_left
          · simp only [Act.put, List.setIfInBounds_toArray, List.set_cons_zero, List.set_cons_succ, i64_w, i32_w, U1.out, U2.out]
            rfl
          refine last_ (i := 20) (N := none) (bm 21 2097151) rfl rfl (by kernel_rfl) (by decide) (fun K hK => ?_)
          refine skip_ (w1 := ?_) (by rfl) rfl ?_ ?_
          rotate_left
          · go_simp
            rfl
          refine hK.out _ _ ?_
          clear hK K
          refine done_ (by kernel_rfl) ?_
          clear hHeld hfz hx10 hn1 ho10 hb10 hg10 hat10 hcw10 hH0 HG13
          rw [show (slotsG l m ++ [slotG l m]).length = (slotsG l m).length + 1 by simp] at HEND
          go_wp2
          go_roundw
          case rel => exact ⟨m + 1, A10, c10, by omega, by go_num, by rw [slotsG_succ]; exact HEND, HA9⟩
          case measure => simp [intOf]; omega
    · obtain rfl : m = l.length := by omega
      clear hlt
      have HOKS := Lib.hid (slotsG_ok l l.length h20)
      have HNOD := Lib.hid (slotsG_nodup HA.out)
      have HLEN : Hid ((slotsG l l.length).length = l.length) := Lib.hid (slotsG_len _ _)
      clear HA
      obtain ⟨es, hes⟩ : ∃ es, slotsG l l.length = es := ⟨_, rfl⟩
      rw [hes] at HG HOKS HNOD HLEN
      clear hes
      have HSH := Lib.hid (short_names es (fun e he => (HOKS.out e he).2.2))
      have HFIT := Lib.hid (fit_nG (fun e he => (HOKS.out e he).2))
      have HALL := Lib.hid (gone_all es (fun e he => (HOKS.out e he).1))
      have HCN := Lib.hid (C_nG HG.out.node)
      have HGA := Lib.hid (HG.out.below (below_alloc (Below.refl wr.heap.size wr) (.cells #[.int .i64 1, .int .i64 2, .int .i64 0, .int .i64 0, .slice none 0 0, .slice A5 es.length c5] 29)))
      have c0 := blk_cell HG.out.box 0
      have c1 := blk_cell HG.out.box 1
      have c2 := blk_cell HG.out.box 2
      have c3 := blk_cell HG.out.box 3
      have c4 := blk_cell HG.out.box 4
      have c5' := blk_cell HG.out.box 5
      simp only [List.getElem?_toArray, List.getElem?_cons_zero, List.getElem?_cons_succ] at c0 c1 c2 c3 c4 c5'
      cases dir with
      | false =>
        go_wp2_with (first
          | (go_at_call 7; (with_reducible refine (new_nG_calls _ HCN.out HOKS.out HNOD.out).mono ?_); rintro e w3 ⟨g, rfl, hW, hb⟩; have HV := Lib.hid (WS.lower hW (Nat.le_trans HG.out.b.size (by simp))); have HG3 := Lib.hid (HGA.out.below hb); clear hW hb)
          | (go_at_call 10; (with_reducible refine (ok_nil HV.out HSH.out).mono ?_); rintro e w4 ⟨b, rfl, hb, hbl⟩; obtain rfl : b = true := hb.2 (gone_nil es); have HG4 := Lib.hid (HG3.out.below hbl); have HBA := Lib.hid (below_alloc (Below.refl w4.heap.size w4) (.cells #[.int .i64 1, .int .i64 2, .int .i64 0, .int .i64 0, .slice none 0 0, .slice A5 es.length c5] 29)); have HV4 := Lib.hid ((HV.out.below hbl).below HBA.out); have HCN4 := Lib.hid (C_nG HG4.out.node); have k0 := blk_cell HG4.out.box 0; have k1 := blk_cell HG4.out.box 1; have k2 := blk_cell HG4.out.box 2; have k3 := blk_cell HG4.out.box 3; have k4 := blk_cell HG4.out.box 4; have k5 := blk_cell HG4.out.box 5; simp only [List.getElem?_toArray, List.getElem?_cons_zero, List.getElem?_cons_succ] at k0 k1 k2 k3 k4 k5; clear hb hbl)
          | (go_at_call 10; (with_reducible refine (ok_one HV4.out HCN4.out HFIT.out HSH.out).mono ?_); rintro e w5 ⟨b, rfl, hb, hbl⟩; obtain rfl : b = true := hb.2 HALL.out; have HB5 := Lib.hid ((HG4.out.b.trans (HBA.out.mono HG4.out.b.size)).trans (hbl.mono (Nat.le_trans HG4.out.b.size HBA.out.size))); clear hb hbl))
        go_ret
        exact ⟨rfl, HB5.out⟩
      | true =>
        by_cases hgn : 0 ≤ gn ∧ gn < (l.length : Int)
        · obtain ⟨hgn0, hgn1⟩ := hgn
          obtain ⟨k, rfl⟩ : ∃ k : Nat, gn = (k : Int) := ⟨gn.toNat, by omega⟩
          have hkl : k < l.length := by omega
          have hki : (k : Int) < (es.length : Int) := by rw [HLEN.out]; exact hgn1
          have HONE := Lib.hid (gone_one es (fun e he => (HOKS.out e he).1) HNOD.out (k := k) (by rw [HLEN.out]; exact hkl) z33 rfl)
          go_upto_region 20 with (go_at_call 7; (with_reducible refine (new_nG_calls _ HCN.out HOKS.out HNOD.out).mono ?_); rintro e w4 ⟨g, rfl, hW, hb⟩; have HV := Lib.hid (WS.lower hW (Nat.le_trans HG.out.b.size (by simp))); have HG4 := Lib.hid (HGA.out.below hb); have HBA := Lib.hid (below_alloc (Below.refl w4.heap.size w4) (.cells #[.int .i64 1, .int .i64 2, .int .i64 0, .int .i64 0, .slice none 0 0, .slice A5 es.length c5] 29)); have HGB := Lib.hid (HG4.out.below HBA.out); have HMB := Lib.hid (blk_new w4 (.cells #[.int .i64 1, .int .i64 2, .int .i64 0, .int .i64 0, .slice none 0 0, .slice A5 es.length c5] 29)); have k0 := blk_cell HG4.out.box 0; have k1 := blk_cell HG4.out.box 1; have k2 := blk_cell HG4.out.box 2; have k3 := blk_cell HG4.out.box 3; have k4 := blk_cell HG4.out.box 4; have k5 := blk_cell HG4.out.box 5; have j5 := blk_cell HGB.out.box 5; simp only [List.getElem?_toArray, List.getElem?_cons_zero, List.getElem?_cons_succ] at k0 k1 k2 k3 k4 k5 j5; clear hW hb)
          clear HGA HCN c0 c1 c2 c3 c4 c5'
          have hesl : (([] : List S33).length + es.length) * 24 ≤ 140737488355328 := by have := HLEN.out; simp; omega
          generalize w4.alloc (.cells #[.int .i64 1, .int .i64 2, .int .i64 0, .int .i64 0, .slice none 0 0, .slice A5 es.length c5] 29) = W5 at *
          go_upto_region 21 with (at_builtin; refine Kd.R_append_rows k33 (Rr := k33.K W5) (w0 := w4) w4.heap.size rfl (.const (.slice none 0 0)) (.tmp 92) 27 33 (.agg #[.int .i64 0, .string ⟨#[]⟩]) 24 rfl Try.underlying27 info33 rfl (by decide) (by omega) (.slice none 0 0) [] es A5 es.length c5 (fun _ => True) (fun _ => False) rfl rfl (Kd.R_nil _ _ _ _ _) (Kd.R_reads' HGB.out.R).2.2 (fun x cs h => by rw [k33_open h]; exact k33_mkM _ _ _ _) (fun _ h => h.elim) (fun _ _ => trivial) HBA.out HBA.out.size hesl ?_; intro v1 w6 hown hb6 hg6 hat6; simp only [List.nil_append] at hown; obtain ⟨A6, c6, rfl⟩ := Kd.R_slice hown; have hM6 := blk_grown HMB.out hg6 (by simp [Value.ownBlock]); have f6 := blk_frozen hM6 5; have q6 := blk_cell hM6 5; simp only [List.getElem?_toArray, List.getElem?_cons_zero, List.getElem?_cons_succ] at q6; have HM6 := Lib.hid hM6; have HO6 := Lib.hid hown; have HB6 := Lib.hid hb6; clear hM6 hown hb6 hg6 hat6)
          obtain ⟨G, cap, hv, hG0, hG1, cellsG, hG2⟩ := Kd.R_form HO6.out (by omega)
          injection hv with hv1 _ hv2
          subst hv1 hv2
          have hneG : w4.heap.size ≠ G := blk_ne HM6.out hG2 (by decide)
          have hM7 := blk_set HM6.out 5 (.slice (some ⟨G, 0, none⟩) es.length c6)
          have hO7 : Kd.R k33 33 (w6.setCell ⟨w4.heap.size, 5, none⟩ (.slice (some ⟨G, 0, none⟩) es.length c6)) w4.heap.size (fun _ => True) (.slice (some ⟨G, 0, none⟩) es.length c6) es := Kd.R_set HO6.out HM6.out (by decide) 5 _
          have hB7 : Below w4.heap.size w4 (w6.setCell ⟨w4.heap.size, 5, none⟩ (.slice (some ⟨G, 0, none⟩) es.length c6)) := HB6.out.setCell (by exact Nat.le_refl _) _
          obtain ⟨cE, hcl, hME, hcc, hfr⟩ := Kd.R_elem hO7 z33 (k : Int) (by omega) hki
          have HM7 := Lib.hid hM7
          have HO7 := Lib.hid hO7
          have HB7 := Lib.hid hB7
          have HCC := Lib.hid hcc
          have HCL := Lib.hid hcl
          have m5 := blk_cell hM7 5
          simp only [Array.setIfInBounds, List.getElem?_toArray, List.getElem?_cons_zero, List.getElem?_cons_succ] at m5
          have HNE := Lib.hid hneG
          clear hM7 hO7 hB7 hcc hfr hME hcl hneG
          go_upto_region 22 with (refine Kd.R_store k33 (w0 := w4) w4.heap.size rfl rfl 33 (.tmp 99) (.tmp 98) rfl 33 (g := G) (n := es.length) (cap := c6) (o' := k * 2) (k : Int) 0 es z33 (.agg #[.int .i64 0, .string ⟨#[]⟩]) [.int .i64 0, .string ⟨#[]⟩] cE (fun _ => True) (fun _ => False) rfl (by rw [Int.toNat_natCast]; rfl) rfl rfl (by kernel_rfl) (by intro q hq; simp only [List.mem_cons, List.not_mem_nil, or_false] at hq; rcases hq with rfl | rfl <;> rfl) HO7.out (by omega) hki HCL.out HCC.out (by decide) (by have : cE.drop (0 + 2) = [] := List.drop_eq_nil_of_le (by rw [HCL.out]; decide); show k33.M _ _ _ _ (cE.take 0 ++ [.int .i64 0, .string ⟨#[]⟩] ++ cE.drop (0 + 2)); rw [this]; exact k33_mkM _ _ _ z33) (fun _ h => h.elim) HB7.out ?_; intro w8 ho8 hb8 hg8; have HM8 := Lib.hid (blk_grown HM7.out hg8 (fun e => HNE.out (Option.some.inj e))); have HO8 := Lib.hid ho8; have HB8 := Lib.hid hb8; clear ho8 hb8 hg8)
          have HG8 := Lib.hid (HG4.out.below HB8.out)
          have HV8 := Lib.hid (HV.out.below HB8.out)
          have HN8 : Hid (Node w8 (nG (es.set k z33)) none 0 (some ⟨G, 0, none⟩) c6) := Lib.hid (by
            have hr := Kd.R_reads' HO8.out
            rw [Int.toNat_natCast] at hr
            exact ⟨Nat.le_refl _, by show (es.set k z33).length ≤ c6; rw [List.length_set]; exact hr.2.1, Kd.C_nil _ _, hr.2.2⟩)
          have HCM : Hid (Kd.C k29 (w8.alloc (.cells #[.int .i64 1, .int .i64 2, .int .i64 0, .int .i64 0, .slice none 0 0, .slice (some ⟨G, 0, none⟩) es.length c6] 29)) (some ⟨w8.heap.size, 0, none⟩) [nG (es.set k z33)].length [nG (es.set k z33)]) := Lib.hid (by
            have := C_nG HN8.out
            rw [List.length_set] at this
            exact this)
          have HFM : Hid (NodeFit (nG (es.set k z33))) := Lib.hid (fit_nG (fun e he => by
            rcases List.mem_or_eq_of_mem_set he with he | rfl
            · exact (HOKS.out e he).2
            · exact ⟨by unfold I64 z33; decide, by decide⟩))
          have HBB := Lib.hid (below_alloc (Below.refl w8.heap.size w8) (.cells #[.int .i64 1, .int .i64 2, .int .i64 0, .int .i64 0, .slice none 0 0, .slice (some ⟨G, 0, none⟩) es.length c6] 29))
          have HV9 := Lib.hid (HV8.out.below HBB.out)
          have HG9 := Lib.hid (HG8.out.below HBB.out)
          have m0 := blk_cell HM8.out 0
          have m1 := blk_cell HM8.out 1
          have m2 := blk_cell HM8.out 2
          have m3 := blk_cell HM8.out 3
          have m4 := blk_cell HM8.out 4
          have m6 := blk_cell HM8.out 5
          replace m0 := m0.trans rfl
          clear m5 k0 k1 k2 k3 k4 k5 j5
          simp only [List.setIfInBounds_toArray, List.set_cons_succ, List.set_cons_zero, List.getElem?_toArray, List.getElem?_cons_zero, List.getElem?_cons_succ] at m0 m1 m2 m3 m4 m6
          go_wp2_with (first
            | (go_at_call 10; (with_reducible refine (ok_one HV9.out HCM.out HFM.out HSH.out).mono ?_); rintro e w10 ⟨b, rfl, hb, hbl⟩; obtain rfl : b = false := (by cases b; rfl; exact absurd (hb.1 rfl) HONE.out); have HG10 := Lib.hid (HG9.out.below hbl); have HBC := Lib.hid (below_alloc (Below.refl w10.heap.size w10) (.cells #[.int .i64 1, .int .i64 2, .int .i64 0, .int .i64 0, .slice none 0 0, .slice A5 es.length c5] 29)); have HV10 := Lib.hid ((HV9.out.below hbl).below HBC.out); have HCN10 := Lib.hid (C_nG HG10.out.node); have k0 := blk_cell HG10.out.box 0; have k1 := blk_cell HG10.out.box 1; have k2 := blk_cell HG10.out.box 2; have k3 := blk_cell HG10.out.box 3; have k4 := blk_cell HG10.out.box 4; have k5 := blk_cell HG10.out.box 5; simp only [List.getElem?_toArray, List.getElem?_cons_zero, List.getElem?_cons_succ] at k0 k1 k2 k3 k4 k5; clear hb hbl)
            | (go_at_call 10; (with_reducible refine (ok_one HV10.out HCN10.out HFIT.out HSH.out).mono ?_); rintro e w11 ⟨b, rfl, hb, hbl⟩; obtain rfl : b = true := hb.2 HALL.out; have HB11 := Lib.hid ((HG10.out.b.trans (HBC.out.mono HG10.out.b.size)).trans (hbl.mono (Nat.le_trans HG10.out.b.size HBC.out.size))); clear hb hbl))
          go_ret
          exact ⟨rfl, HB11.out⟩
        · by_cases hg0 : gn < 0
          · have e1 : ¬ (0 : Int) ≤ gn := by omega
            clear hgn
            go_wp2_with (first
              | (go_at_call 7; (with_reducible refine (new_nG_calls _ HCN.out HOKS.out HNOD.out).mono ?_); rintro e w4 ⟨g, rfl, hW, hb⟩; have HV := Lib.hid (WS.lower hW (Nat.le_trans HG.out.b.size (by simp))); have HG4 := Lib.hid (HGA.out.below hb); have HBA := Lib.hid (below_alloc (Below.refl w4.heap.size w4) (.cells #[.int .i64 1, .int .i64 2, .int .i64 0, .int .i64 0, .slice none 0 0, .slice A5 es.length c5] 29)); have HV4 := Lib.hid (HV.out.below HBA.out); have HCN4 := Lib.hid (C_nG HG4.out.node); have k0 := blk_cell HG4.out.box 0; have k1 := blk_cell HG4.out.box 1; have k2 := blk_cell HG4.out.box 2; have k3 := blk_cell HG4.out.box 3; have k4 := blk_cell HG4.out.box 4; have k5 := blk_cell HG4.out.box 5; simp only [List.getElem?_toArray, List.getElem?_cons_zero, List.getElem?_cons_succ] at k0 k1 k2 k3 k4 k5; clear hW hb)
              | (go_at_call 10; (with_reducible refine (ok_one HV4.out HCN4.out HFIT.out HSH.out).mono ?_); rintro e w5 ⟨b, rfl, hb, hbl⟩; obtain rfl : b = true := hb.2 HALL.out; have HB5 := Lib.hid ((HG4.out.b.trans (HBA.out.mono HG4.out.b.size)).trans (hbl.mono (Nat.le_trans HG4.out.b.size HBA.out.size))); clear hb hbl))
            go_ret
            exact ⟨rfl, HB5.out⟩
          · have e1 : (l.length : Int) ≤ gn := by omega
            have e2 : (0 : Int) ≤ gn := by omega
            clear hgn hg0
            go_wp2_with (first
              | (go_at_call 7; (with_reducible refine (new_nG_calls _ HCN.out HOKS.out HNOD.out).mono ?_); rintro e w4 ⟨g, rfl, hW, hb⟩; have HV := Lib.hid (WS.lower hW (Nat.le_trans HG.out.b.size (by simp))); have HG4 := Lib.hid (HGA.out.below hb); have HBA := Lib.hid (below_alloc (Below.refl w4.heap.size w4) (.cells #[.int .i64 1, .int .i64 2, .int .i64 0, .int .i64 0, .slice none 0 0, .slice A5 es.length c5] 29)); have HV4 := Lib.hid (HV.out.below HBA.out); have HCN4 := Lib.hid (C_nG HG4.out.node); have k0 := blk_cell HG4.out.box 0; have k1 := blk_cell HG4.out.box 1; have k2 := blk_cell HG4.out.box 2; have k3 := blk_cell HG4.out.box 3; have k4 := blk_cell HG4.out.box 4; have k5 := blk_cell HG4.out.box 5; simp only [List.getElem?_toArray, List.getElem?_cons_zero, List.getElem?_cons_succ] at k0 k1 k2 k3 k4 k5; clear hW hb)
              | (go_at_call 10; (with_reducible refine (ok_one HV4.out HCN4.out HFIT.out HSH.out).mono ?_); rintro e w5 ⟨b, rfl, hb, hbl⟩; obtain rfl : b = true := hb.2 HALL.out; have HB5 := Lib.hid ((HG4.out.b.trans (HBA.out.mono HG4.out.b.size)).trans (hbl.mono (Nat.le_trans HG4.out.b.size HBA.out.size))); clear hb hbl))
            go_ret
            exact ⟨rfl, HB5.out⟩
end Go.Proofs.Ytnnnakgdmhmpmaa.Given
