/- super.Head: what it answers, for every geometry, group and rows of bits. -/
import Derived.Test.YthlpcfjnpagokaaPHeadFnsx4
import Derived.Test.YthlpcfjnpagokaaLit
namespace Go.Proofs.Ythlpcfjnpagokaa.Given
open Go.RowKit Go.Proofs.YthlpcfjnpagokaaW.PrintWords Go.Proofs.YthlpcfjnpagokaaW.PrintLast Go.Proofs.YthlpcfjnpagokaaBase Go.Proofs.Ythlpcfjnpagokaa.PNum Go.Proofs.Ythlpcfjnpagokaa.PCheck Go.Proofs.Ythlpcfjnpagokaa.PHeadFns
set_option linter.unusedVariables false
set_option linter.unusedSimpArgs false

theorem nums_splice (xs ys : List Int) (off : Nat) : splice (nums .u8 xs) off (nums .u8 ys) = nums .u8 (splice xs off ys) := by
  simp [splice, nums, List.map_append, List.map_take, List.map_drop]
def super_Head.f (k : Nat) (a0_0 a0_1 a0_2 a1 : Int) (l2 l3 : List Int) : Option (List Int × Int) :=
  (geom_Head.f k a0_0 a0_1 a0_2 a1).bind fun t => if t.2 = true then
    (super_number_int.f k a1 2).bind fun nb => (super_row.f k l2 (wrap64 (a0_1 * 16)) 8).bind fun r1 => (super_row.f k l3 a0_2 (wrap64 (Int.tdiv (wrap64 (a0_2 + 7)) 8))).bind fun r2 =>
      if nb.length = 2 ∧ r1.length = 8 ∧ r2.length ≤ 960 then some ([67, 71] ++ nb ++ List.replicate 12 0 ++ r1 ++ List.replicate 40 0 ++ r2 ++ List.replicate (960 - r2.length) 0, 0) else none
  else some ([], 1)
theorem super_Head.mono : ∀ a0 a1 a2 a3 a4 a5 k, LeO (super_Head.f k a0 a1 a2 a3 a4 a5) (super_Head.f (k + 1) a0 a1 a2 a3 a4 a5) := by
  intro a0 a1 a2 a3 a4 a5 k
  unfold super_Head.f
  repeat' first
      | (with_reducible exact geom_Head.mono _ _ _ _ _)
      | (with_reducible exact super_number_int.mono _ _ _)
      | (with_reducible exact super_row.mono _ _ _ _)
      | (with_reducible exact LeO.refl _)
      | (with_reducible exact LeO.none _)
      | (with_reducible refine LeO.ite ?_ ?_)
      | (with_reducible refine LeO.bind ?_ (fun _ => ?_))

set_option maxRecDepth 100000 in
set_option maxHeartbeats 4000000 in
theorem super_Head.calls (k : Nat) (a0_0 a0_1 a0_2 a1 : Int) (A2 : Option Addr) (c2 : Nat) (l2 : List Int) (A3 : Option Addr) (c3 : Nat) (l3 : List Int) (r1 : List Int) (r2 : Int) (w : World) (hr2 : Kd.C (Kd.int .u8) w A2 l2.length l2) (hc2 : l2.length ≤ c2) (hr3 : Kd.C (Kd.int .u8) w A3 l3.length l3) (hc3 : l3.length ≤ c3) (h : super_Head.f k a0_0 a0_1 a0_2 a1 l2 l3 = some (r1, r2)) :
    Calls Try.prog 13 #[.agg #[.int .i64 a0_0, .int .i64 a0_1, .int .i64 a0_2], .int .i64 a1, .slice A2 l2.length c2, .slice A3 l3.length c3] w fun e w' => ∃ v0_ : Value, e = .returned (.tuple #[v0_, .int .i64 r2]) ∧ Kd.R (Kd.int .u8) 5 w' w.heap.size (fun _ => True) v0_ r1 ∧ Below w.heap.size w w' := by
  unfold super_Head.f at h
  obtain ⟨⟨t0, t1⟩, hh, h⟩ := Option.bind_eq_some_iff.1 h
  have HH := Lib.hid hh
  clear hh
  have HR2 := Lib.hid hr2
  have HR3 := Lib.hid hr3
  have HC2 := Lib.hid hc2
  have HC3 := Lib.hid hc3
  clear hr2 hr3 hc2 hc3
  cases t1 with
  | false =>
    obtain ⟨rfl, rfl⟩ : [] = r1 ∧ 1 = r2 := by simpa using h
    clear h
    go_enter Try.func13, Try.ntmps13
    go_wp2_with (go_at_call 25; refine (geom_Head.calls k _ _ _ _ t0 false _ HH.out).mono ?_; rintro e w1 ⟨rfl, hd⟩)
    go_ret2
    exact ⟨_, rfl, Kd.R_nil _ _ _ _ _, ((Below.refl w.heap.size w).alloc (Nat.le_refl _) _).trans (hd.mono (by simp))⟩
  | true =>
    simp only [if_true] at h
    obtain ⟨nb, HNB, q1, HQ1, q2, HQ2, HL, HRES, rfl⟩ : ∃ nb, Hid (super_number_int.f k a1 2 = some nb) ∧ ∃ q1, Hid (super_row.f k l2 (wrap64 (a0_1 * 16)) 8 = some q1) ∧ ∃ q2, Hid (super_row.f k l3 a0_2 (wrap64 (Int.tdiv (wrap64 (a0_2 + 7)) 8)) = some q2) ∧ Hid (nb.length = 2 ∧ q1.length = 8 ∧ q2.length ≤ 960) ∧ Hid ([67, 71] ++ nb ++ List.replicate 12 0 ++ q1 ++ List.replicate 40 0 ++ q2 ++ List.replicate (960 - q2.length) 0 = r1) ∧ r2 = 0 := by
      obtain ⟨nb, hnb, h1⟩ := Option.bind_eq_some_iff.1 h
      obtain ⟨q1, hq1, h2⟩ := Option.bind_eq_some_iff.1 h1
      obtain ⟨q2, hq2, h3⟩ := Option.bind_eq_some_iff.1 h2
      split at h3
      case isFalse => cases h3
      rename_i hlen
      obtain ⟨hres, e2⟩ : _ = r1 ∧ 0 = r2 := by simpa only [Option.some.injEq, Prod.mk.injEq] using h3
      exact ⟨nb, Lib.hid hnb, q1, Lib.hid hq1, q2, Lib.hid hq2, Lib.hid hlen, Lib.hid hres, e2.symm⟩
    clear h
    have hmk := make1024
    go_enter Try.func13, Try.ntmps13
    go_wp2_with (first | (go_at_call 25; refine (geom_Head.calls k _ _ _ _ t0 true _ HH.out).mono ?_; rintro e w1 ⟨rfl, hd⟩; have hbx := (hd.block w.heap.size (by simp)).trans (blk_new w _); have q0 := blk_cell hbx 0; have q1 := blk_cell hbx 1; have q2 := blk_cell hbx 2; simp only [List.getElem?_toArray, List.getElem?_cons_zero, List.getElem?_cons_succ] at q0 q1 q2) | (go_at_call 26; refine (super_counts.calls _ _ _ _ _ _ rfl).mono ?_; rintro e w2 ⟨rfl, hd2⟩) | ((refine wpList_copy_string rfl (.tmp 29) (.const (.string ⟨#[67, 71]⟩)) 26 9 rfl 5 Try.underlying26 (by kernel_rfl) w2.heap.size 0 1024 1024 ⟨#[67, 71]⟩ rfl rfl Z1024 5 (heap_alloc_new _ _) (by decide) (by unfold Z1024; rw [size_madeCells]; decide) ?_); intro w3 hw3))
    have hB2 : Below w.heap.size w w2 := ((Below.refl w.heap.size w).alloc (Nat.le_refl _) (.cells #[.int .i64 a0_0, .int .i64 a0_1, .int .i64 a0_2] 23)).trans ((hd.mono (by simp)).trans (hd2.mono (by have := hd.size; simp at this; omega)))
    obtain ⟨B, hBB⟩ : ∃ B, B = w2.heap.size := ⟨_, rfl⟩
    have hF : w3.heap[B]? = some (.cells (nums .u8 ([67, 71] ++ List.replicate 1022 0)).toArray 5 (0, 0)) ∧ Below w.heap.size w w3 := by
      rw [hw3, hBB]
      refine ⟨?_, below_setRow (hB2.alloc hB2.size _) hB2.size _⟩
      rw [setRow_heap _ _ Z1024 _ _ _ (heap_alloc_new _ _)]
      congr 2
      have h0 : (⟨#[67, 71]⟩ : ByteArray).size = 2 := rfl
      rw [Z1024_nums, h0, List.take_zero, List.nil_append]
      simp only [nums, List.map_replicate, List.drop_replicate, List.map_append]
      rfl
    have hBle : w.heap.size ≤ B := by rw [hBB]; exact hB2.size
    rw [← hBB]
    refine gen_world (fun W => W.heap[B]? = some (.cells (nums .u8 ([67, 71] ++ List.replicate 1022 0)).toArray 5 (0, 0)) ∧ Below w.heap.size w W) hF ?_
    obtain ⟨L1, hL1⟩ : ∃ L, L = [67, 71] ++ List.replicate 1022 (0 : Int) := ⟨_, rfl⟩
    rw [← hL1]
    have HL1 := Lib.hid hL1
    clear hL1 hF hw3 hBB hB2 hd hd2 hbx q0 q1 q2
    rintro W ⟨hW, hBW⟩
    have HLl : Hid (L1.length = 1024) := Lib.hid (by rw [HL1.out]; simp)
    go_region_held3 (fun V => Below w.heap.size w V) (first | exact below_drew hBW | exact hS4.2 | exact hb5) (first | (go_at_call 19; refine (super_number_int.calls k a1 2 nb _ HNB.out).mono ?_; rintro e w4 ⟨v4, rfl, ho4, hb4⟩; obtain ⟨A4, d4, rfl⟩ := Kd.R_slice ho4; have hS4 : w4.heap[B]? = some (.cells (nums .u8 L1).toArray 5 (0, 0)) ∧ Below w.heap.size w w4 := ⟨(hb4.block B (blk_lt hW)).trans hW, (below_drew hBW).trans (hb4.mono (below_drew hBW).size)⟩) | (refine step_copy_splice rfl (.tmp 32) (.tmp 34) 26 26 rfl 5 Try.underlying26 (by kernel_rfl) _ _ _ _ _ _ rfl rfl B 2 (nums .u8 L1) 5 hS4.1 (nums .u8 nb) (by have h7 := HL.out.1; simp only [nums, List.length_map, h7]; rfl) (fun hp => ⟨rfl, C_cells (Kd.R_reads' ho4).2.2 (by have := HL.out.1; omega)⟩) (by have h7 := HL.out.1; have := HLl.out; simp only [nums, List.length_map, h7, this]; omega) nums_one w.heap.size w hS4.2 hBle ?_; intro w5 hg5 hb5))
    have hBW2 : Below w.heap.size w w5 := by assumption
    have hW2 := hg5.out
    rw [nums_splice] at hW2
    have HLln : Hid ((splice L1 2 nb).length = 1024) := Lib.hid (by have := HLl.out; have := HL.out; rw [length_splice _ _ _ (by omega)]; exact HLl.out)
    obtain ⟨L2, hL2⟩ : ∃ L, L = splice L1 2 nb := ⟨_, rfl⟩
    rw [← hL2] at HLln hW2
    have HL2 := Lib.hid hL2
    clear hL2 hg5
    go_wp2_with fail
    go_region_held3 (fun V => Below w.heap.size w V) (first | exact below_drew hBW2 | exact hS6.2 | exact hb6) (first | (go_at_call 27; refine (super_row.calls k A2 c2 l2 (wrap64 (a0_1 * 16)) 8 q1 _ (Kd.C_below HR2.out (below_drew hBW2)) HC2.out HQ1.out).mono ?_; rintro e v6w ⟨v6, rfl, ho6, hc6⟩; obtain ⟨A6, d6, rfl⟩ := Kd.R_slice ho6; have hS6 : v6w.heap[B]? = some (.cells (nums .u8 L2).toArray 5 (0, 0)) ∧ Below w.heap.size w v6w := ⟨(hc6.block B (blk_lt hW2)).trans hW2, (below_drew hBW2).trans (hc6.mono (below_drew hBW2).size)⟩) | (refine step_copy_splice rfl (.tmp 37) (.tmp 40) 26 26 rfl 5 Try.underlying26 (by kernel_rfl) _ _ _ _ _ _ rfl rfl B 16 (nums .u8 L2) 5 hS6.1 (nums .u8 q1) (by have h7 := HL.out.2.1; simp only [nums, List.length_map, h7]; rfl) (fun hp => ⟨rfl, C_cells (Kd.R_reads' ho6).2.2 (by simpa [nums] using hp)⟩) (by have h7 := HL.out; have := HLln.out; simp only [nums, List.length_map, this]; omega) nums_one w.heap.size w hS6.2 hBle ?_; intro w6 hg6 hb6))
    have hBW3 : Below w.heap.size w w6 := by assumption
    have hW3 := hg6.out
    rw [nums_splice] at hW3
    have HLlnn : Hid ((splice L2 16 q1).length = 1024) := Lib.hid (by have := HLln.out; have := HL.out; rw [length_splice _ _ _ (by omega)]; exact HLln.out)
    obtain ⟨L3, hL3⟩ : ∃ L, L = splice L2 16 q1 := ⟨_, rfl⟩
    rw [← hL3] at HLlnn hW3
    have HL3 := Lib.hid hL3
    clear hL3 hg6
    go_wp2_with fail
    go_region_held3 (fun V => Below w.heap.size w V) (first | exact below_drew hBW3 | exact hS7.2 | exact hb7) (first | (go_at_call 27; simp only [i64_w]; refine (super_row.calls k A3 c3 l3 a0_2 (wrap64 (Int.tdiv (wrap64 (a0_2 + 7)) 8)) q2 _ (Kd.C_below HR3.out (below_drew hBW3)) HC3.out HQ2.out).mono ?_; rintro e v7w ⟨v7, rfl, ho7, hc7⟩; obtain ⟨A7, d7, rfl⟩ := Kd.R_slice ho7; have hS7 : v7w.heap[B]? = some (.cells (nums .u8 L3).toArray 5 (0, 0)) ∧ Below w.heap.size w v7w := ⟨(hc7.block B (blk_lt hW3)).trans hW3, (below_drew hBW3).trans (hc7.mono (below_drew hBW3).size)⟩) | (refine step_copy_splice rfl (.tmp 43) (.tmp 49) 26 26 rfl 5 Try.underlying26 (by kernel_rfl) _ _ _ _ _ _ rfl rfl B 64 (nums .u8 L3) 5 hS7.1 (nums .u8 q2) (by have h7 := HL.out.2.2; simp only [nums, List.length_map]; exact (Nat.min_eq_left h7).symm) (fun hp => ⟨rfl, C_cells (Kd.R_reads' ho7).2.2 (by simpa [nums] using hp)⟩) (by have h7 := HL.out; have := HLlnn.out; simp only [nums, List.length_map, this]; omega) nums_one w.heap.size w hS7.2 hBle ?_; intro w7 hg7 hb7))
    have hB7' : Below w.heap.size w w7 := by assumption
    have hG7 := hg7.out
    rw [nums_splice] at hG7
    go_wp2
    go_ret2
    have e : splice L3 64 q2 = r1 := by
      obtain ⟨l1, l2, l3⟩ := HL.out
      have f1 : L2 = [67, 71] ++ nb ++ List.replicate 1020 0 := by
        rw [HL2.out, HL1.out]
        unfold splice
        have a1 : List.take 2 ([67, 71] ++ List.replicate 1022 (0 : Int)) = [67, 71] := by simp
        have a2 : List.drop (2 + nb.length) ([67, 71] ++ List.replicate 1022 (0 : Int)) = List.replicate 1020 0 := by
          rw [List.drop_append, List.drop_eq_nil_of_le (by simp), List.nil_append, List.drop_replicate, l1]
          rfl
        rw [a1, a2]
        simp only [List.append_assoc]
      have f2 : L3 = [67, 71] ++ nb ++ List.replicate 12 0 ++ q1 ++ List.replicate 1000 0 := by
        rw [HL3.out, f1]
        unfold splice
        have hl : ([67, 71] ++ nb : List Int).length = 4 := by simp [l1]
        have a1 : List.take 16 ([67, 71] ++ nb ++ List.replicate 1020 (0 : Int)) = [67, 71] ++ nb ++ List.replicate 12 0 := by
          rw [List.take_append, List.take_of_length_le (by omega), hl, List.take_replicate]
          rfl
        have a2 : List.drop (16 + q1.length) ([67, 71] ++ nb ++ List.replicate 1020 (0 : Int)) = List.replicate 1000 0 := by
          rw [List.drop_append, List.drop_eq_nil_of_le (by omega), hl, l2, List.drop_replicate]
          rfl
        rw [a1, a2]
        simp only [List.append_assoc]
      rw [f2, ← HRES.out]
      unfold splice
      have hl : ([67, 71] ++ nb ++ List.replicate 12 0 ++ q1 : List Int).length = 24 := by simp [l1, l2]
      have a1 : List.take 64 ([67, 71] ++ nb ++ List.replicate 12 0 ++ q1 ++ List.replicate 1000 (0 : Int)) = [67, 71] ++ nb ++ List.replicate 12 0 ++ q1 ++ List.replicate 40 0 := by
        rw [List.take_append, List.take_of_length_le (by omega), hl, List.take_replicate]
        rfl
      have a2 : List.drop (64 + q2.length) ([67, 71] ++ nb ++ List.replicate 12 0 ++ q1 ++ List.replicate 1000 (0 : Int)) = List.replicate (960 - q2.length) 0 := by
        rw [List.drop_append, List.drop_eq_nil_of_le (by omega), hl, List.drop_replicate, List.nil_append]
        congr 1
        omega
      rw [a1, a2]
      simp only [List.append_assoc]
    rw [e] at hG7
    have hl : r1.length = 1024 := by
      rw [← e, length_splice _ _ _ (by have := HLlnn.out; have := HL.out; omega)]
      exact HLlnn.out
    have hRR := R_of_block (k := .u8) (w := w7) (B := B) (e := 5) (base := w.heap.size) (ok := fun _ => True) (xs := r1) hG7 hBle trivial (by rw [hl]; simp [maxLen])
    rw [hl] at hRR
    exact ⟨_, rfl, hRR, hB7'⟩
end Go.Proofs.Ythlpcfjnpagokaa.Given
