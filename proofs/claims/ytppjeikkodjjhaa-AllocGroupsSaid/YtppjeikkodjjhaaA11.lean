/- AllocGroups answers true. -/
import Derived.Test.YtppjeikkodjjhaaA10
namespace Go.Proofs.Ytppjeikkodjjhaa.Given
open Go.RowKit Go.Shelf Go.Proofs.YtppjeikkodjjhaaW.PrintWords Go.Proofs.YtppjeikkodjjhaaW.PrintLast Go.Proofs.YtppjeikkodjjhaaW.PrintMore Go.Proofs.YtppjeikkodjjhaaBase Go.Proofs.Ytppjeikkodjjhaa.PGeo Go.Proofs.Ytppjeikkodjjhaa.PGet Go.Proofs.Ytppjeikkodjjhaa.PWith
set_option linter.unusedVariables false
set_option linter.unusedSimpArgs false

theorem rdata_is {gr i d : Int} {n q : Nat} (h : Fine gr i d) (hn : gr = (n : Int)) (hq : d = (q : Int)) {k : Nat} (hk : k < n * q) : lockgateref1_Data.f gr i d (k : Int) = some (dataAt i q k, true) := by
  obtain ⟨r, h1, h2⟩ := data_same gr i d (k : Int) 11 (by omega)
  rw [data_is h hn hq hk] at h1
  rw [h2, ← h1]
theorem gN_fine {gr i d : Int} {n : Nat} (h : Fine gr i d) (hn : gr = (n : Int)) : gN gr i d = n := by unfold gN; rw [if_pos h, hn]; rfl
/-- an allocator of n groups, newer than B; its geometry's box -/
def GrI (w : World) (B g n : Nat) (f k m : Nat) (W : World) : Prop :=
  (∃ li ld, IsAA (B + 1) (fun j => B + 1 ≤ j ∧ j < W.heap.size) W g (n : Int) 1 8 n 16 8 li ld ∧ RotS li (n * 16) (f * 16) k ∧ RotS ld (n * 8) (f * 8) m) ∧
    W.heap[B]? = some (.cells #[.int .i64 (n : Int), .int .i64 1, .int .i64 8] 24 (0, 0)) ∧ Below w.heap.size w W ∧ w.heap.size ≤ B ∧ B < W.heap.size

set_option maxRecDepth 100000 in
set_option maxHeartbeats 2000000 in
theorem groups_main (n f : Nat) (h1 : 1 ≤ n) (h8 : n ≤ 8) (hf : f < n) (w : World) :
    Calls Try.prog 3 #[.int .i64 (n : Int), .int .i64 (f : Int)] w fun e w' => e = .returned (.bool true) ∧ Below w.heap.size w w' := by
  have t1 : decide ((n : Int) < 1) = false := decide_eq_false (by omega)
  have t2 : decide ((n : Int) > 8) = false := decide_eq_false (by omega)
  have t3 : decide ((f : Int) < 0) = false := decide_eq_false (by omega)
  have t4 : decide ((f : Int) ≥ (n : Int)) = false := decide_eq_false (by omega)
  have t5 : decide (n ≤ f) = false := decide_eq_false (by omega)
  have hfine : Fine (n : Int) 1 8 := ⟨by omega, by omega, by omega, by omega, by omega, by omega⟩
  have hgn : gN (n : Int) 1 8 = n := gN_fine hfine rfl
  have HGN := Lib.hid hgn
  have HFN := Lib.hid hfine
  clear hgn hfine
  go_enter Try.func3, Try.ntmps3
  go_wp2_with (first | (go_at_call 7; refine (alive_calls _).mono ?_; rintro e w1 ⟨rfl, hb⟩; have HB1 := Lib.hid hb; clear hb) | (go_at_call 8; refine (newA (n : Int) 1 8 _).mono ?_; rintro e w2 ⟨g, rfl, hA, hb⟩; rw [HGN.out] at hA; have HA2 := Lib.hid hA; have HB2 := Lib.hid hb; clear hA hb))
  have hst : GrI w w1.heap.size g n f 0 0 w2 := by
    have hA := HA2.out
    have hb := HB2.out
    rw [World.size_alloc] at hA hb
    refine ⟨⟨_, _, hA, RotS.new _ _, RotS.new _ _⟩, (hb.block _ (by omega)).trans (blk_new w1 _), (HB1.out.alloc HB1.out.size _).trans (hb.mono (by have := HB1.out.size; omega)), HB1.out.size, ?_⟩
    have := hb.size
    rw [World.size_alloc] at this
    omega
  have HST := Lib.hid hst
  clear hst HA2 HB2
  go_loopw [8] (fun iv wr => ∃ k : Nat, k ≤ n * 16 ∧ iv = .int .i64 (k : Int) ∧ Hid (GrI w w1.heap.size g n f k 0 wr)) (fun iv _ => n * 16 - (intOf iv).toNat)
  case atStart => exact ⟨0, Nat.zero_le _, rfl, HST⟩
  case round =>
    clear HST
    obtain ⟨k, hk, rfl, HG⟩ := hrel
    by_cases hlt : k < n * 16
    · obtain ⟨⟨li, ld, hA, hli, hld⟩, hbx, hbw, hwB, hBl⟩ := HG.out
      obtain ⟨hnx, hli'⟩ := hli.next hf (by omega) hlt
      obtain ⟨v, hv⟩ : ∃ v, (f * 16 + k) % (n * 16) = v := ⟨_, rfl⟩
      have hv1 : v < n * 16 := by rw [← hv]; exact Nat.mod_lt _ (by omega)
      have hm1 : (16 * (f : Int) + (k : Int)) % (16 * (n : Int)) = (v : Int) := by rw [← hv]; simp [Int.mul_comm]
      have hm2 : Int.tmod (16 * (f : Int) + (k : Int)) (16 * (n : Int)) = (v : Int) := by rw [Int.tmod_eq_emod_of_nonneg (by omega)]; exact hm1
      rw [hv] at hnx hli'
      have HNX := Lib.hid hnx
      have HLI := Lib.hid hli'
      have HA := Lib.hid hA
      have HLD := Lib.hid hld
      have HBX := Lib.hid hbx
      have HBW := Lib.hid hbw
      have HWB := Lib.hid hwB
      have HBL := Lib.hid hBl
      have hlti : (k : Int) < 16 * (n : Int) := by omega
      have hv2 : (v : Int) ≤ 127 := by omega
      have hv3 : (0 : Int) ≤ (v : Int) := by omega
      clear hnx hli' hA hli hld hbx hbw hwB hBl hv HG
      go_wp2_with (first | (go_at_call 9; refine (inodeA (f : Int) HA.out (fun j hj => hj.2) HBL.out).mono ?_; rintro e w3 ⟨rfl, hA3, ho⟩; rw [HNX.out] at hA3 ⊢; dsimp only [optI, setO, Option.isSome] at hA3 ⊢; have HA3 := Lib.hid hA3; have HO := Lib.hid ho; clear hA3 ho))
      go_roundw
      case rel =>
        refine ⟨k + 1, by omega, by go_num, Lib.hid ⟨⟨_, _, HA3.out.mono (fun j hj => ⟨by rcases hj.1 with h | h; exact h.1; exact Nat.le_trans HBL.out h, hj.2⟩), HLI.out, HLD.out⟩, HO.out.blk HBX.out (fun h => by omega), Off.keepB HBW.out HO.out (fun j hj => by have := HWB.out; omega) HBW.out.size, HWB.out, Nat.lt_of_lt_of_le HBL.out HO.out.size⟩⟩
      case measure => simp [intOf]; omega
    · obtain rfl : k = n * 16 := by omega
      have hge : ¬ ((n * 16 : Nat) : Int) < 16 * (n : Int) := by omega
      go_wp2
      go_loopw [11] (fun iv wr => ∃ m : Nat, m ≤ n * 8 ∧ iv = .int .i64 (m : Int) ∧ Hid (GrI w w1.heap.size g n f (n * 16) m wr)) (fun iv _ => n * 8 - (intOf iv).toNat)
      case atStart => exact ⟨0, Nat.zero_le _, rfl, HG⟩
      case round =>
        clear HG hge hlt hk
        rename_i wq
        obtain ⟨m, hm, rfl, HG⟩ := hrel
        by_cases hlt : m < n * 8
        · obtain ⟨⟨li, ld, hA, hli, hld⟩, hbx, hbw, hwB, hBl⟩ := HG.out
          obtain ⟨hnx, hld'⟩ := hld.next hf (by omega) hlt
          obtain ⟨v, hv⟩ : ∃ v, (f * 8 + m) % (n * 8) = v := ⟨_, rfl⟩
          have hv1 : v < n * 8 := by rw [← hv]; exact Nat.mod_lt _ (by omega)
          have hm1 : (8 * (f : Int) + (m : Int)) % (8 * (n : Int)) = (v : Int) := by rw [← hv]; simp [Int.mul_comm]
          have hm2 : Int.tmod (8 * (f : Int) + (m : Int)) (8 * (n : Int)) = (v : Int) := by rw [Int.tmod_eq_emod_of_nonneg (by omega)]; exact hm1
          rw [hv] at hnx hld'
          have hdt := rdata_is HFN.out rfl rfl (q := 8) hv1
          have HDT := Lib.hid hdt
          obtain ⟨y, hy⟩ : ∃ y : Int, dataAt 1 8 v = y := ⟨_, rfl⟩
          have HY := Lib.hid hy
          have HNX := Lib.hid hnx
          have HLD := Lib.hid hld'
          have HA := Lib.hid hA
          have HLI := Lib.hid hli
          have HBX := Lib.hid hbx
          have HBW := Lib.hid hbw
          have HWB := Lib.hid hwB
          have HBL := Lib.hid hBl
          have hlti : (m : Int) < 8 * (n : Int) := by omega
          clear hnx hld' hA hli hld hbx hbw hwB hBl hv HG hdt hy hm1
          have HM2 := Lib.hid hm2
          clear hm2
          go_wp2_with (first | (go_at_call 10; refine (blockA (f : Int) HA.out (fun j hj => hj.2) HBL.out).mono ?_; rintro e w3 ⟨rfl, hA3, ho⟩; rw [HNX.out] at hA3 ⊢; dsimp only [optD, setO, Option.isSome] at hA3 ⊢; rw [HY.out]; have HA3 := Lib.hid hA3; have HO := Lib.hid ho; clear hA3 ho))
          have HBX3 := Lib.hid (HO.out.blk HBX.out (fun h => by omega))
          have hS0 : w3.drew.cell? ⟨w1.heap.size, 0, none⟩ = some (.int .i64 (n : Int)) ∧ w3.drew.cell? ⟨w1.heap.size, 1, none⟩ = some (.int .i64 1) ∧ w3.drew.cell? ⟨w1.heap.size, 2, none⟩ = some (.int .i64 8) := ⟨(blk_cell HBX3.out 0).trans rfl, (blk_cell HBX3.out 1).trans rfl, (blk_cell HBX3.out 2).trans rfl⟩
          have U1 : Hid (wrap64 (8 * (f : Int)) = 8 * (f : Int)) := Lib.hid (by unfold wrap64; omega)
          have U2 : Hid (wrap64 (8 * (f : Int) + (m : Int)) = 8 * (f : Int) + (m : Int)) := Lib.hid (by unfold wrap64; omega)
          have U3 : Hid (wrap64 (8 * (n : Int)) = 8 * (n : Int)) := Lib.hid (by unfold wrap64; omega)
          have hn0 : ¬ (8 * (n : Int) = 0) := by omega
          refine start_ (n := 14) (S := fun w' => w'.cell? ⟨w1.heap.size, 0, none⟩ = some (.int .i64 (n : Int)) ∧ w'.cell? ⟨w1.heap.size, 1, none⟩ = some (.int .i64 1) ∧ w'.cell? ⟨w1.heap.size, 2, none⟩ = some (.int .i64 8)) (ds := []) #[false, false, false, false, false, false, false, false, false, false, false, false, false, false] (by kernel_rfl) rfl rfl hS0 (fun hHeld => ?_)
          refine take_ (i := 0) (N := some 80) (v := ?_) (a' := ?_) #[true, false, false, false, false, false, false, false, false, false, false, false, false, false] rfl rfl (by kernel_rfl) (fun _ _ _ h => h) (Or.inl ⟨by rfl, ?_⟩) hHeld ?_ ?_
          rotate_left
          · rintro w' ⟨s0, s1, s2⟩
            go_simp
            with_reducible rfl
          rotate_left
          · simp only [Act.put, List.setIfInBounds_toArray, List.set_cons_zero, List.set_cons_succ, i64_w, i32_w, U1.out, U2.out, U3.out, HM2.out]
            rfl
          refine pure_ (i := 1) (N := some 81) (v := ?_) (a' := ?_) #[true, true, false, false, false, false, false, false, false, false, false, false, false, false] rfl rfl (by kernel_rfl) (fun _ _ _ h => h) (Or.inl ⟨by rfl, ?_⟩) ?_ ?_
          rotate_left
          · intro w'
            go_simp
            with_reducible rfl
          rotate_left
          · simp only [Act.put, List.setIfInBounds_toArray, List.set_cons_zero, List.set_cons_succ, i64_w, i32_w, U1.out, U2.out, U3.out, HM2.out]
            rfl
          refine pure_ (i := 2) (N := some 82) (v := ?_) (a' := ?_) #[true, true, true, false, false, false, false, false, false, false, false, false, false, false] rfl rfl (by kernel_rfl) (fun _ _ _ h => h) (Or.inl ⟨by rfl, ?_⟩) ?_ ?_
          rotate_left
          · intro w'
            go_simp
            with_reducible rfl
          rotate_left
          · simp only [Act.put, List.setIfInBounds_toArray, List.set_cons_zero, List.set_cons_succ, i64_w, i32_w, U1.out, U2.out, U3.out, HM2.out]
            rfl
          refine pure_ (i := 3) (N := some 83) (v := ?_) (a' := ?_) #[true, true, true, true, false, false, false, false, false, false, false, false, false, false] rfl rfl (by kernel_rfl) (fun _ _ _ h => h) (Or.inl ⟨by rfl, ?_⟩) ?_ ?_
          rotate_left
          · intro w'
            go_simp
            with_reducible rfl
          rotate_left
          · simp only [Act.put, List.setIfInBounds_toArray, List.set_cons_zero, List.set_cons_succ, i64_w, i32_w, U1.out, U2.out, U3.out, HM2.out]
            rfl
          refine pure_ (i := 4) (N := some 84) (v := ?_) (a' := ?_) #[true, true, true, true, true, false, false, false, false, false, false, false, false, false] rfl rfl (by kernel_rfl) (fun _ _ _ h => h) (Or.inl ⟨by rfl, ?_⟩) ?_ ?_
          rotate_left
          · intro w'
            go_simp
            with_reducible rfl
          rotate_left
          · simp only [Act.put, List.setIfInBounds_toArray, List.set_cons_zero, List.set_cons_succ, i64_w, i32_w, U1.out, U2.out, U3.out, HM2.out]
            rfl
          refine pure_ (i := 5) (N := some 85) (v := ?_) (a' := ?_) #[true, true, true, true, true, true, false, false, false, false, false, false, false, false] rfl rfl (by kernel_rfl) (fun _ _ _ h => h) (Or.inl ⟨by rfl, ?_⟩) ?_ ?_
          rotate_left
          · intro w'
            go_simp
            with_reducible rfl
          rotate_left
          · simp only [Act.put, List.setIfInBounds_toArray, List.set_cons_zero, List.set_cons_succ, i64_w, i32_w, U1.out, U2.out, U3.out, HM2.out]
            rfl
          refine pure_ (i := 6) (N := some 86) (v := ?_) (a' := ?_) #[true, true, true, true, true, true, true, false, false, false, false, false, false, false] rfl rfl (by kernel_rfl) (fun _ _ _ h => h) (Or.inl ⟨by rfl, ?_⟩) ?_ ?_
          rotate_left
          · intro w'
            go_simp
            with_reducible rfl
          rotate_left
          · simp only [Act.put, List.setIfInBounds_toArray, List.set_cons_zero, List.set_cons_succ, i64_w, i32_w, U1.out, U2.out, U3.out, HM2.out]
            rfl
          refine pure_ (i := 7) (N := some 87) (v := ?_) (a' := ?_) #[true, true, true, true, true, true, true, true, false, false, false, false, false, false] rfl rfl (by kernel_rfl) (fun _ _ _ h => h) (Or.inl ⟨by rfl, ?_⟩) ?_ ?_
          rotate_left
          · intro w'
            go_simp
            with_reducible rfl
          rotate_left
          · simp only [Act.put, List.setIfInBounds_toArray, List.set_cons_zero, List.set_cons_succ, i64_w, i32_w, U1.out, U2.out, U3.out, HM2.out]
            rfl
          refine one_ (i := 8) (N := some 88) #[true, true, true, true, true, true, true, true, true, false, false, false, false, false] rfl rfl (by kernel_rfl) (by decide) (fun K hK => ?_)
          refine goes_ Try.func11 (by kernel_rfl) rfl #[.agg #[.int .i64 (n : Int), .int .i64 1, .int .i64 8], .int .i64 (v : Int)] (by rfl) rfl rfl (by (try simp only [List.map_toArray, List.map_cons, List.map_nil]); first | done | rfl) ?_
          refine (lockgateref1_Data.calls (n : Int) 1 8 _ _ _ _ HDT.out).mono ?_
          rintro e w5 ⟨rfl, hb5⟩
          rw [show dataAt 1 8 v = y from HY.out]
          have hS1 := And.intro (pw_cell_below hb5 hS0.1) (And.intro (pw_cell_below hb5 hS0.2.1) (pw_cell_below hb5 hS0.2.2))
          have HB5 := Lib.hid hb5
          clear hb5
          refine ⟨_, rfl, hK.out _ _ hS1 (fun hHeld => ?_)⟩
          clear hK K
          refine norm_ (a' := ?_) ?_ ?_
          rotate_left
          · show Act.put _ (some 88) _ = _
            simp only [Act.put, List.setIfInBounds_toArray, List.set_cons_zero, List.set_cons_succ, i64_w, i32_w, U1.out, U2.out, U3.out, HM2.out]
            rfl
          refine pure_ (i := 9) (N := some 79) (v := ?_) (a' := ?_) #[true, true, true, true, true, true, true, true, true, true, false, false, false, false] rfl rfl (by kernel_rfl) (fun _ _ _ h => h) (Or.inl ⟨by rfl, ?_⟩) ?_ ?_
          rotate_left
          · intro w'
            go_simp
            with_reducible rfl
          rotate_left
          · simp only [Act.put, List.setIfInBounds_toArray, List.set_cons_zero, List.set_cons_succ, i64_w, i32_w, U1.out, U2.out, U3.out, HM2.out]
            rfl
          refine pure_ (i := 10) (N := some 89) (v := ?_) (a' := ?_) #[true, true, true, true, true, true, true, true, true, true, true, false, false, false] rfl rfl (by kernel_rfl) (fun _ _ _ h => h) (Or.inl ⟨by rfl, ?_⟩) ?_ ?_
          rotate_left
          · intro w'
            go_simp
            with_reducible rfl
          rotate_left
          · simp only [Act.put, List.setIfInBounds_toArray, List.set_cons_zero, List.set_cons_succ, i64_w, i32_w, U1.out, U2.out, U3.out, HM2.out]
            rfl
          refine pure_ (i := 11) (N := some 90) (v := ?_) (a' := ?_) #[true, true, true, true, true, true, true, true, true, true, true, true, false, false] rfl rfl (by kernel_rfl) (fun _ _ _ h => h) (Or.inl ⟨by rfl, ?_⟩) ?_ ?_
          rotate_left
          · intro w'
            go_simp
            with_reducible rfl
          rotate_left
          · simp only [Act.put, List.setIfInBounds_toArray, List.set_cons_zero, List.set_cons_succ, i64_w, i32_w, U1.out, U2.out, U3.out, HM2.out]
            rfl
          refine pure_ (i := 12) (N := some 14) (v := ?_) (a' := ?_) #[true, true, true, true, true, true, true, true, true, true, true, true, true, false] rfl rfl (by kernel_rfl) (fun _ _ _ h => h) (Or.inl ⟨by rfl, ?_⟩) ?_ ?_
          rotate_left
          · intro w'
            go_simp
            with_reducible rfl
          rotate_left
          · simp only [Act.put, List.setIfInBounds_toArray, List.set_cons_zero, List.set_cons_succ, i64_w, i32_w, U1.out, U2.out, U3.out, HM2.out]
            rfl
          refine pure_ (i := 13) (N := some 15) (v := ?_) (a' := ?_) #[true, true, true, true, true, true, true, true, true, true, true, true, true, true] rfl rfl (by kernel_rfl) (fun _ _ _ h => h) (Or.inl ⟨by rfl, ?_⟩) ?_ ?_
          rotate_left
          · intro w'
            go_simp
            with_reducible rfl
          rotate_left
          · simp only [Act.put, List.setIfInBounds_toArray, List.set_cons_zero, List.set_cons_succ, i64_w, i32_w, U1.out, U2.out, U3.out, HM2.out]
            rfl
          refine done_ (by kernel_rfl) ?_
          have hB35 : Below w3.heap.size w3 w5 := (below_drew (Below.refl _ w3)).trans HB5.out
          have hz35 := hB35.size
          have HB35 := Lib.hid hB35
          have HZ35 := Lib.hid hz35
          clear hB35 hz35
          go_wp2
          go_roundw
          case rel =>
            refine ⟨m + 1, by omega, by go_num, Lib.hid ⟨⟨_, _, (HA3.out.below HB35.out).mono (fun j hj => ⟨by rcases hj.1 with h | h; exact h.1; exact Nat.le_trans HBL.out h, Nat.lt_of_lt_of_le hj.2 HZ35.out⟩), HLI.out, HLD.out⟩, (HB35.out.block _ (blk_lt HBX3.out)).trans HBX3.out, (Off.keepB HBW.out HO.out (fun j hj => by have := HWB.out; omega) HBW.out.size).trans (HB35.out.mono (Nat.le_trans HBW.out.size HO.out.size)), HWB.out, Nat.lt_of_lt_of_le (blk_lt HBX3.out) HZ35.out⟩⟩
          case measure => simp [intOf]; omega
        · obtain rfl : m = n * 8 := by omega
          have hge : ¬ ((n * 8 : Nat) : Int) < 8 * (n : Int) := by omega
          go_wp2
          go_ret
          exact ⟨rfl, HG.out.2.2.1⟩
set_option maxRecDepth 100000 in
set_option maxHeartbeats 2000000 in
theorem groups_calls (a b : Int) (w : World) : Calls Try.prog 3 #[.int .i64 a, .int .i64 b] w fun e w' => e = .returned (.bool true) ∧ Below w.heap.size w w' := by
  by_cases h0 : a < 1
  · have t0 : decide (a < 1) = true := decide_eq_true h0
    go_enter Try.func3, Try.ntmps3
    go_wp2_with (first | (go_at_call 7; refine (alive_calls _).mono ?_; rintro e w1 ⟨rfl, hb⟩; have HB1 := Lib.hid hb; clear hb))
    go_ret
    exact ⟨rfl, HB1.out⟩
  have t0 : decide (a < 1) = false := decide_eq_false h0
  by_cases h1 : a > 8
  · have t1 : decide (a > 8) = true := decide_eq_true h1
    go_enter Try.func3, Try.ntmps3
    go_wp2_with (first | (go_at_call 7; refine (alive_calls _).mono ?_; rintro e w1 ⟨rfl, hb⟩; have HB1 := Lib.hid hb; clear hb))
    go_ret
    exact ⟨rfl, HB1.out⟩
  have t1 : decide (a > 8) = false := decide_eq_false h1
  by_cases h2 : b < 0
  · have t2 : decide (b < 0) = true := decide_eq_true h2
    go_enter Try.func3, Try.ntmps3
    go_wp2_with (first | (go_at_call 7; refine (alive_calls _).mono ?_; rintro e w1 ⟨rfl, hb⟩; have HB1 := Lib.hid hb; clear hb))
    go_ret
    exact ⟨rfl, HB1.out⟩
  have t2 : decide (b < 0) = false := decide_eq_false h2
  by_cases h3 : b ≥ a
  · have t3 : decide (b ≥ a) = true := decide_eq_true h3
    go_enter Try.func3, Try.ntmps3
    go_wp2_with (first | (go_at_call 7; refine (alive_calls _).mono ?_; rintro e w1 ⟨rfl, hb⟩; have HB1 := Lib.hid hb; clear hb))
    go_ret
    exact ⟨rfl, HB1.out⟩
  have t3 : decide (b ≥ a) = false := decide_eq_false h3
  clear t0 t1 t2 t3
  obtain ⟨n, rfl⟩ : ∃ n : Nat, a = n := ⟨a.toNat, by omega⟩
  obtain ⟨f, rfl⟩ : ∃ n : Nat, b = n := ⟨b.toNat, by omega⟩
  exact groups_main n f (by omega) (by omega) (by omega) w
theorem groups_row (a b : Int) (w : World) (_ : (Lit.int .i64 a).wf = true) (_ : (Lit.int .i64 b).wf = true) : Calls Try.prog 3 #[.int .i64 a, .int .i64 b] w fun e w' => e = .returned (.bool true) ∧ Below w.heap.size w w' := groups_calls a b w
end Go.Proofs.Ytppjeikkodjjhaa.Given
