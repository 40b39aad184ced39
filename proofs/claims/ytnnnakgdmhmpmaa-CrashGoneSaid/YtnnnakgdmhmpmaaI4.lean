/- (*Watch).Part: a file's block has these bytes from now on. -/
import Derived.Test.YtnnnakgdmhmpmaaI2
import Derived.WalkSpells
namespace Go.Proofs.Ytnnnakgdmhmpmaa.Given
open Go.RowKit Go.Proofs.YtnnnakgdmhmpmaaW.PrintWords Go.Proofs.YtnnnakgdmhmpmaaW.PrintLast Go.Proofs.YtnnnakgdmhmpmaaW.PrintMore Go.Proofs.YtnnnakgdmhmpmaaBase
set_option linter.unusedVariables false
set_option linter.unusedSimpArgs false

theorem blk_max (xs : List Int) : (blk xs).size ≤ maxLen := by
  have h := blkL_len xs
  have : (blk xs).size = 1024 := by
    unfold blk strOfNums
    simp only [ByteArray.size, List.size_toArray, List.length_map]
    exact h
  rw [this]
  decide

/-- a row of numbers that is read abides the turn of a map -/
theorem C_skip {k : IntKind} {W W' : World} {b : Nat} {A : Option Addr} {n : Nat} {xs : List Int} (h : Kd.C (Kd.int k) W A n xs) (hg : W.grownBy W' (some b)) {P : Program} {kt : TypeId} {l : List (Value × Value)} (hM : MapAt P kt W b l) : Kd.C (Kd.int k) W' A n xs := by
  obtain ⟨es, clock, hb, _⟩ := hM
  obtain ⟨h1, h2, h3⟩ := Kd.reads_of_C (d := (0 : Int)) h
  refine Kd.C_of_reads (d := (0 : Int)) ⟨h1, h2, fun h0 => ?_⟩
  obtain ⟨ad, rfl, hc⟩ := h3 h0
  refine ⟨ad, rfl, fun j hj => ?_⟩
  have h4 := hc j hj
  have hne : (ad.add j).block ≠ b := by
    intro e
    unfold World.cell? at h4
    rw [e, hb] at h4
    cases h4
  exact (World.cell?_of_block (hg.block _ (World.block_lt_of_cell? W _ h4) (fun e => hne (Option.some.inj e)))).trans h4

/-- what is behind the look: the block's bytes are among those that were -/
theorem IsW.held {base : Nat} {V V7 : World} {g bn bp pb : Nat} {N : List (NS × Nat × Nat)} {Q1 Q2 : List (PS × Nat)} {x : PS} (h : IsW base V g bn bp N (Q1 ++ (x, pb) :: Q2)) (hb7 : Below V.heap.size V V7) {s : ByteArray} (hs : s.size ≤ maxLen) :
    ∃ V3, (Instr.mapUpdate 56 (.map (some pb)) (.string s) (.bool true)).run Try.prog V7 = .ok () V3 ∧
      IsW base V3 g bn bp N (Q1 ++ ({ x with ever := addS x.ever s }, pb) :: Q2) ∧ Below base V7 V3 ∧ KeepC V7 V3 := by
  have h7 := h.below hb7
  have hM := h7.hq (x, pb) (by simp)
  obtain ⟨V3, hrun, hM3, hg3, hs3⟩ := putS hM hs
  have hmem : pb ∈ bls g bn bp N (Q1 ++ (x, pb) :: Q2) := by rw [blsQ_mid]; simp
  refine ⟨V3, hrun, ?_, ?_, KeepC.of_map hM hg3⟩
  · refine h7.updQ (y := { x with ever := addS x.ever s }) rfl rfl hM3 (fun b hb h1 => ?_)
    exact hg3.block b hb (fun e => h1 (Option.some.inj e))
  · exact (Below.refl base V7).grown hg3 (Nat.le_trans (h7.lo pb hmem) (Nat.le_of_lt hM.lt)) (fun k e => by cases e; exact h7.lo pb hmem)

set_option maxRecDepth 100000 in
set_option maxHeartbeats 1000000 in
theorem part_hit {base : Nat} {w : World} {g bn bp pb : Nat} {N : List (NS × Nat × Nat)} {Q1 Q2 : List (PS × Nat)} {x : PS} (h : IsW base w g bn bp N (Q1 ++ (x, pb) :: Q2)) {i a : Int} (hd : x.ino = i) (hs : x.pos = a) {A : Option Addr} {c : Nat} {b : List Int} (hC : Kd.C (Kd.int .u8) w A b.length b) (hlb : b.length ≤ 9223372036854775807) :
    Calls Try.prog 11 #[.pointer (some ⟨g, 0, none⟩), .int .i64 i, .int .i64 a, .slice A b.length c] w fun e w' => e = .returned (.tuple #[]) ∧
      IsW base w' g bn bp N (Q1 ++ ({ x with ever := addS x.ever (blk b) }, pb) :: Q2) ∧ Below base w w' ∧ KeepC w w' := by
  have hmem : (keyP i a, Value.map (some pb)) ∈ (Q1 ++ (x, pb) :: Q2).map entP := by rw [← hd, ← hs]; simp [entP]
  obtain ⟨kl, hkl⟩ := h.hp.keyed hmem
  have hI1 : IsW base (w.alloc (.cells #[.int .i64 i, .int .i64 a] 55)).drew g bn bp N (Q1 ++ (x, pb) :: Q2) := h.below (below_drew (below_alloc (Below.refl _ _) _))
  have HB : Hid (Below base w (w.alloc (.cells #[.int .i64 i, .int .i64 a] 55)).drew) := Lib.hid (below_drew ((Below.refl base w).alloc (Nat.le_trans (h.lo g (by simp [bls])) (Nat.le_of_lt (blk_lt h.hg))) _))
  have HKC : Hid (KeepC w (w.alloc (.cells #[.int .i64 i, .int .i64 a] 55)).drew) := Lib.hid (KeepC.of_below (below_drew (below_alloc (Below.refl _ _) _)))
  have hl := hI1.hp.look_hit law55 Try.underlying43 hkl hmem false
  have HS := Lib.hid (And.intro (blk_cell hI1.hg 1) (And.intro (blk_cell (blk_new w (.cells #[.int .i64 i, .int .i64 a] 55)) 0) (And.intro (blk_cell (blk_new w (.cells #[.int .i64 i, .int .i64 a] 55)) 1) hl)))
  have HK : Hid ((w.alloc (.cells #[.int .i64 i, .int .i64 a] 55)).drew.heap[w.heap.size]? = some (.cells #[.int .i64 i, .int .i64 a] 55 (0, 0))) := Lib.hid (blk_new w (.cells #[.int .i64 i, .int .i64 a] 55))
  have HI1 := Lib.hid hI1
  have HC : Hid (Kd.C (Kd.int .u8) (w.alloc (.cells #[.int .i64 i, .int .i64 a] 55)).drew A b.length b) := Lib.hid (Kd.C_below hC (below_drew (below_alloc (Below.refl _ _) _)))
  have HKL := Lib.hid hkl
  have HMEM := Lib.hid hmem
  have heq := fun (w : World) (m : Option Nat) => run_eql_map_nil (P := Try.prog) w 56 9 4 m Try.underlying56
  clear hI1 hl hmem hkl h hd hs hC
  go_enter Try.func11, Try.ntmps11
  go_wp2
  refine start_ (n := 7) (S := fun W => W.cell? ⟨g, 1, none⟩ = some (.map (some bp)) ∧ W.cell? ⟨w.heap.size, 0, none⟩ = some (.int .i64 i) ∧ W.cell? ⟨w.heap.size, 1, none⟩ = some (.int .i64 a) ∧ (Instr.lookup 43 (.map (some bp)) (.agg #[.int .i64 i, .int .i64 a]) false).run Try.prog W = .ok (.map (some pb)) W) (ds := []) #[false, false, false, false, false, false, false] (by kernel_rfl) rfl rfl HS.out (fun hHeld => ?_)
  clear HS
  generalize (w.alloc (.cells #[.int .i64 i, .int .i64 a] 55)).drew = V at *
  refine pure_ (i := 0) (N := some 12) (v := ?_) (a' := ?_) (bm 7 1) rfl rfl (by kernel_rfl) (fun _ _ _ h => h) (Or.inl ⟨by rfl, ?_⟩) ?_ ?_
  rotate_left
  · intro w'
    go_simp
    with_reducible rfl
  rotate_left
  · simp only [Act.put, List.setIfInBounds_toArray, List.set_cons_zero, List.set_cons_succ, i64_w, i32_w]
    rfl
  refine pure_ (i := 1) (N := some 13) (v := ?_) (a' := ?_) (bm 7 3) rfl rfl (by kernel_rfl) (fun _ _ _ h => h) (Or.inl ⟨by rfl, ?_⟩) ?_ ?_
  rotate_left
  · intro w'
    go_simp
    with_reducible rfl
  rotate_left
  · simp only [Act.put, List.setIfInBounds_toArray, List.set_cons_zero, List.set_cons_succ, i64_w, i32_w]
    rfl
  refine pure_ (i := 2) (N := some 14) (v := ?_) (a' := ?_) (bm 7 7) rfl rfl (by kernel_rfl) (fun _ _ _ h => h) (Or.inl ⟨by rfl, ?_⟩) ?_ ?_
  rotate_left
  · intro w'
    go_simp
    with_reducible rfl
  rotate_left
  · simp only [Act.put, List.setIfInBounds_toArray, List.set_cons_zero, List.set_cons_succ, i64_w, i32_w]
    rfl
  refine take_ (i := 3) (N := some 15) (v := ?_) (a' := ?_) (bm 7 15) rfl rfl (by kernel_rfl) (fun _ _ _ h => h) (Or.inl ⟨by rfl, ?_⟩) hHeld ?_ ?_
  rotate_left
  · rintro w' ⟨s0, s1, s2, s3⟩
    go_simp
    with_reducible rfl
  rotate_left
  · simp only [Act.put, List.setIfInBounds_toArray, List.set_cons_zero, List.set_cons_succ, i64_w, i32_w]
    rfl
  refine take_ (i := 4) (N := some 16) (v := ?_) (a' := ?_) (bm 7 31) rfl rfl (by kernel_rfl) (fun _ _ _ h => h) (Or.inl ⟨by rfl, ?_⟩) hHeld ?_ ?_
  rotate_left
  · rintro w' ⟨s0, s1, s2, s3⟩
    go_simp
    with_reducible rfl
  rotate_left
  · simp only [Act.put, List.setIfInBounds_toArray, List.set_cons_zero, List.set_cons_succ, i64_w, i32_w]
    rfl
  refine take_ (i := 5) (N := some 17) (v := ?_) (a' := ?_) (bm 7 63) rfl rfl (by kernel_rfl) (fun _ _ _ h => h) (Or.inl ⟨by rfl, ?_⟩) hHeld ?_ ?_
  rotate_left
  · rintro w' ⟨s0, s1, s2, s3⟩
    go_simp
    with_reducible rfl
  rotate_left
  · simp only [Act.put, List.setIfInBounds_toArray, List.set_cons_zero, List.set_cons_succ, i64_w, i32_w]
    rfl
  refine pure_ (i := 6) (N := some 18) (v := ?_) (a' := ?_) (bm 7 127) rfl rfl (by kernel_rfl) (fun _ _ _ h => h) (Or.inl ⟨by rfl, ?_⟩) ?_ ?_
  rotate_left
  · intro w'
    go_simp
    with_reducible rfl
  rotate_left
  · simp only [Act.put, List.setIfInBounds_toArray, List.set_cons_zero, List.set_cons_succ, i64_w, i32_w]
    rfl
  refine done_ (by kernel_rfl) ?_
  clear hHeld
  go_wp2
  have HT : Hid (V.drew.cell? ⟨g, 1, none⟩ = some (.map (some bp)) ∧ V.drew.cell? ⟨w.heap.size, 0, none⟩ = some (.int .i64 i) ∧ V.drew.cell? ⟨w.heap.size, 1, none⟩ = some (.int .i64 a) ∧ (Instr.lookup 43 (.map (some bp)) (.agg #[.int .i64 i, .int .i64 a]) false).run Try.prog V.drew = .ok (.map (some pb)) V.drew) := Lib.hid ⟨blk_cell HI1.out.hg 1, blk_cell HK.out 0, blk_cell HK.out 1, (HI1.out.below (below_drew (Below.refl _ V))).hp.look_hit law55 Try.underlying43 HKL.out HMEM.out false⟩
  have HI6 := Lib.hid (HI1.out.below (below_drew (Below.refl _ V)))
  have HC6 := Lib.hid (Kd.C_below HC.out (below_drew (Below.refl _ V)))
  have HB6 : Hid (Below base w V.drew) := Lib.hid (below_drew HB.out)
  have HKC6 := Lib.hid (HKC.out.trans (KeepC.of_below (below_drew (Below.refl _ V))))
  clear HK HI1 HC HB HKC
  refine start_ (n := 9) (S := fun W => W.cell? ⟨g, 1, none⟩ = some (.map (some bp)) ∧ W.cell? ⟨w.heap.size, 0, none⟩ = some (.int .i64 i) ∧ W.cell? ⟨w.heap.size, 1, none⟩ = some (.int .i64 a) ∧ (Instr.lookup 43 (.map (some bp)) (.agg #[.int .i64 i, .int .i64 a]) false).run Try.prog W = .ok (.map (some pb)) W) (ds := [8]) #[false, false, false, false, false, false, false, false, false] (by kernel_rfl) rfl rfl HT.out (fun hHeld => ?_)
  generalize V.drew = V6 at *
  refine pure_ (i := 0) (N := some 27) (v := ?_) (a' := ?_) (bm 9 1) rfl rfl (by kernel_rfl) (fun _ _ _ h => h) (Or.inl ⟨by rfl, ?_⟩) ?_ ?_
  rotate_left
  · intro w'
    go_simp
    with_reducible rfl
  rotate_left
  · simp only [Act.put, List.setIfInBounds_toArray, List.set_cons_zero, List.set_cons_succ, i64_w, i32_w]
    rfl
  refine pure_ (i := 1) (N := some 28) (v := ?_) (a' := ?_) (bm 9 3) rfl rfl (by kernel_rfl) (fun _ _ _ h => h) (Or.inl ⟨by rfl, ?_⟩) ?_ ?_
  rotate_left
  · intro w'
    go_simp
    with_reducible rfl
  rotate_left
  · simp only [Act.put, List.setIfInBounds_toArray, List.set_cons_zero, List.set_cons_succ, i64_w, i32_w]
    rfl
  refine pure_ (i := 2) (N := some 29) (v := ?_) (a' := ?_) (bm 9 7) rfl rfl (by kernel_rfl) (fun _ _ _ h => h) (Or.inl ⟨by rfl, ?_⟩) ?_ ?_
  rotate_left
  · intro w'
    go_simp
    with_reducible rfl
  rotate_left
  · simp only [Act.put, List.setIfInBounds_toArray, List.set_cons_zero, List.set_cons_succ, i64_w, i32_w]
    rfl
  refine take_ (i := 3) (N := some 30) (v := ?_) (a' := ?_) (bm 9 15) rfl rfl (by kernel_rfl) (fun _ _ _ h => h) (Or.inl ⟨by rfl, ?_⟩) hHeld ?_ ?_
  rotate_left
  · rintro w' ⟨s0, s1, s2, s3⟩
    go_simp
    with_reducible rfl
  rotate_left
  · simp only [Act.put, List.setIfInBounds_toArray, List.set_cons_zero, List.set_cons_succ, i64_w, i32_w]
    rfl
  refine take_ (i := 4) (N := some 31) (v := ?_) (a' := ?_) (bm 9 31) rfl rfl (by kernel_rfl) (fun _ _ _ h => h) (Or.inl ⟨by rfl, ?_⟩) hHeld ?_ ?_
  rotate_left
  · rintro w' ⟨s0, s1, s2, s3⟩
    go_simp
    with_reducible rfl
  rotate_left
  · simp only [Act.put, List.setIfInBounds_toArray, List.set_cons_zero, List.set_cons_succ, i64_w, i32_w]
    rfl
  refine take_ (i := 5) (N := some 32) (v := ?_) (a' := ?_) (bm 9 63) rfl rfl (by kernel_rfl) (fun _ _ _ h => h) (Or.inl ⟨by rfl, ?_⟩) hHeld ?_ ?_
  rotate_left
  · rintro w' ⟨s0, s1, s2, s3⟩
    go_simp
    with_reducible rfl
  rotate_left
  · simp only [Act.put, List.setIfInBounds_toArray, List.set_cons_zero, List.set_cons_succ, i64_w, i32_w]
    rfl
  refine pure_ (i := 6) (N := some 33) (v := ?_) (a' := ?_) (bm 9 127) rfl rfl (by kernel_rfl) (fun _ _ _ h => h) (Or.inl ⟨by rfl, ?_⟩) ?_ ?_
  rotate_left
  · intro w'
    go_simp
    with_reducible rfl
  rotate_left
  · simp only [Act.put, List.setIfInBounds_toArray, List.set_cons_zero, List.set_cons_succ, i64_w, i32_w]
    rfl
  refine one_ (i := 7) (N := some 34) (bm 9 255) rfl rfl (by kernel_rfl) (by decide) (fun K hK => ?_)
  refine goes_ Try.func14 (by kernel_rfl) rfl #[.slice A b.length c] (by rfl) rfl rfl (by (try simp only [List.map_toArray, List.map_cons, List.map_nil]); first | done | rfl) ?_
  refine (block_calls A c b V6 HC6.out hlb).mono ?_
  rintro e V7 ⟨rfl, hb7⟩
  obtain ⟨V8, hrun8, hI8, hb8, hk8⟩ := HI6.out.held hb7 (blk_max b)
  have HKC8 := Lib.hid ((KeepC.of_below hb7).trans hk8)
  have hI7 := HI6.out.below hb7
  have hHeld1 := (show _ ∧ _ ∧ _ ∧ _ from ⟨pw_cell_below hb7 hHeld.1, pw_cell_below hb7 hHeld.2.1, pw_cell_below hb7 hHeld.2.2.1, hI7.hp.look_hit law55 Try.underlying43 HKL.out HMEM.out false⟩)
  have HI8 := Lib.hid hI8
  have HB8 := Lib.hid ((hb7.mono (Nat.le_trans (HI6.out.lo g (by simp [bls])) (Nat.le_of_lt (blk_lt HI6.out.hg)))).trans hb8)
  clear hI8 hb8 hI7 hb7 hk8
  refine ⟨_, rfl, hK.out _ _ hHeld1 (fun hHeld => ?_)⟩
  clear hK K
  refine norm_ (a' := ?_) ?_ ?_
  rotate_left
  · show Act.put _ (some 34) _ = _
    simp only [Act.put, List.setIfInBounds_toArray, List.set_cons_zero, List.set_cons_succ, i64_w, i32_w]
    rfl
  refine last_ (i := 8) (N := none) (bm 9 511) rfl rfl (by kernel_rfl) (by decide) (fun K hK => ?_)
  refine skip_ (w1 := ?_) (by rfl) rfl ?_ ?_
  rotate_left
  · go_simp
    rfl
  refine hK.out _ _ ?_
  clear hK K
  refine done_ (by kernel_rfl) ?_
  go_wp2
  go_end0
  exact ⟨rfl, HI8.out, HB6.out.trans HB8.out, HKC6.out.trans HKC8.out⟩

theorem zero56 (w : World) : (zeroValue 56).run Try.prog w = .ok (.map none) w := by kernel_rfl

set_option maxRecDepth 100000 in
set_option maxHeartbeats 1000000 in
theorem part_miss {base : Nat} {w : World} {g bn bp : Nat} {N : List (NS × Nat × Nat)} {Q : List (PS × Nat)} (h : IsW base w g bn bp N Q) {i a : Int} (hd : I64 i) (hs : I64 a) (hno : ∀ y ∈ Q, ¬ (y.1.ino = i ∧ y.1.pos = a)) {A : Option Addr} {c : Nat} {b : List Int} (hC : Kd.C (Kd.int .u8) w A b.length b) (hlb : b.length ≤ 9223372036854775807) :
    Calls Try.prog 11 #[.pointer (some ⟨g, 0, none⟩), .int .i64 i, .int .i64 a, .slice A b.length c] w fun e w' => e = .returned (.tuple #[]) ∧
      (∃ pb, IsW base w' g bn bp N (Q ++ [(⟨i, a, addS [blk []] (blk b)⟩, pb)])) ∧ Below base w w' ∧ KeepC w w' := by
  obtain ⟨kl, hkl⟩ := key55 hd hs
  have hmiss : ∀ p ∈ Q.map entP, p.1 ≠ keyP i a := by
    intro p hp e
    obtain ⟨y, hy, rfl⟩ := List.mem_map.1 hp
    exact hno y hy (keyP_inj e)
  have hbase : base ≤ w.heap.size := Nat.le_trans (h.lo g (by simp [bls])) (Nat.le_of_lt (blk_lt h.hg))
  have hI1 : IsW base (w.alloc (.cells #[.int .i64 i, .int .i64 a] 55)).drew g bn bp N Q := h.below (below_drew (below_alloc (Below.refl _ _) _))
  have HB : Hid (Below base w (w.alloc (.cells #[.int .i64 i, .int .i64 a] 55)).drew) := Lib.hid (below_drew ((Below.refl base w).alloc hbase _))
  have HKC : Hid (KeepC w (w.alloc (.cells #[.int .i64 i, .int .i64 a] 55)).drew) := Lib.hid (KeepC.of_below (below_drew (below_alloc (Below.refl _ _) _)))
  have hl := hI1.hp.look_miss law55 Try.underlying43 (zero56 _) hkl hmiss false
  have HK : Hid ((w.alloc (.cells #[.int .i64 i, .int .i64 a] 55)).drew.heap[w.heap.size]? = some (.cells #[.int .i64 i, .int .i64 a] 55 (0, 0))) := Lib.hid (blk_new w (.cells #[.int .i64 i, .int .i64 a] 55))
  have HS := Lib.hid (And.intro (blk_cell hI1.hg 1) (And.intro (blk_cell HK.out 0) (And.intro (blk_cell HK.out 1) hl)))
  have HC : Hid (Kd.C (Kd.int .u8) (w.alloc (.cells #[.int .i64 i, .int .i64 a] 55)).drew A b.length b) := Lib.hid (Kd.C_below hC (below_drew (below_alloc (Below.refl _ _) _)))
  have HI1 := Lib.hid hI1
  have HKL := Lib.hid hkl
  have HMS := Lib.hid hmiss
  have heq := fun (w : World) (m : Option Nat) => run_eql_map_nil (P := Try.prog) w 56 9 4 m Try.underlying56
  have hmk := fun w => @run_makeMap Try.prog w
  clear hI1 hl hkl hmiss h hd hs hno hC
  go_enter Try.func11, Try.ntmps11
  go_wp2
  refine start_ (n := 7) (S := fun W => W.cell? ⟨g, 1, none⟩ = some (.map (some bp)) ∧ W.cell? ⟨w.heap.size, 0, none⟩ = some (.int .i64 i) ∧ W.cell? ⟨w.heap.size, 1, none⟩ = some (.int .i64 a) ∧ (Instr.lookup 43 (.map (some bp)) (.agg #[.int .i64 i, .int .i64 a]) false).run Try.prog W = .ok (.map none) W) (ds := []) #[false, false, false, false, false, false, false] (by kernel_rfl) rfl rfl HS.out (fun hHeld => ?_)
  clear HS
  generalize (w.alloc (.cells #[.int .i64 i, .int .i64 a] 55)).drew = V at *
  refine pure_ (i := 0) (N := some 12) (v := ?_) (a' := ?_) (bm 7 1) rfl rfl (by kernel_rfl) (fun _ _ _ h => h) (Or.inl ⟨by rfl, ?_⟩) ?_ ?_
  rotate_left
  · intro w'
    go_simp
    with_reducible rfl
  rotate_left
  · simp only [Act.put, List.setIfInBounds_toArray, List.set_cons_zero, List.set_cons_succ, i64_w, i32_w]
    rfl
  refine pure_ (i := 1) (N := some 13) (v := ?_) (a' := ?_) (bm 7 3) rfl rfl (by kernel_rfl) (fun _ _ _ h => h) (Or.inl ⟨by rfl, ?_⟩) ?_ ?_
  rotate_left
  · intro w'
    go_simp
    with_reducible rfl
  rotate_left
  · simp only [Act.put, List.setIfInBounds_toArray, List.set_cons_zero, List.set_cons_succ, i64_w, i32_w]
    rfl
  refine pure_ (i := 2) (N := some 14) (v := ?_) (a' := ?_) (bm 7 7) rfl rfl (by kernel_rfl) (fun _ _ _ h => h) (Or.inl ⟨by rfl, ?_⟩) ?_ ?_
  rotate_left
  · intro w'
    go_simp
    with_reducible rfl
  rotate_left
  · simp only [Act.put, List.setIfInBounds_toArray, List.set_cons_zero, List.set_cons_succ, i64_w, i32_w]
    rfl
  refine take_ (i := 3) (N := some 15) (v := ?_) (a' := ?_) (bm 7 15) rfl rfl (by kernel_rfl) (fun _ _ _ h => h) (Or.inl ⟨by rfl, ?_⟩) hHeld ?_ ?_
  rotate_left
  · rintro w' ⟨s0, s1, s2, s3⟩
    go_simp
    with_reducible rfl
  rotate_left
  · simp only [Act.put, List.setIfInBounds_toArray, List.set_cons_zero, List.set_cons_succ, i64_w, i32_w]
    rfl
  refine take_ (i := 4) (N := some 16) (v := ?_) (a' := ?_) (bm 7 31) rfl rfl (by kernel_rfl) (fun _ _ _ h => h) (Or.inl ⟨by rfl, ?_⟩) hHeld ?_ ?_
  rotate_left
  · rintro w' ⟨s0, s1, s2, s3⟩
    go_simp
    with_reducible rfl
  rotate_left
  · simp only [Act.put, List.setIfInBounds_toArray, List.set_cons_zero, List.set_cons_succ, i64_w, i32_w]
    rfl
  refine take_ (i := 5) (N := some 17) (v := ?_) (a' := ?_) (bm 7 63) rfl rfl (by kernel_rfl) (fun _ _ _ h => h) (Or.inl ⟨by rfl, ?_⟩) hHeld ?_ ?_
  rotate_left
  · rintro w' ⟨s0, s1, s2, s3⟩
    go_simp
    with_reducible rfl
  rotate_left
  · simp only [Act.put, List.setIfInBounds_toArray, List.set_cons_zero, List.set_cons_succ, i64_w, i32_w]
    rfl
  refine pure_ (i := 6) (N := some 18) (v := ?_) (a' := ?_) (bm 7 127) rfl rfl (by kernel_rfl) (fun _ _ _ h => h) (Or.inl ⟨by rfl, ?_⟩) ?_ ?_
  rotate_left
  · intro w'
    go_simp
    with_reducible rfl
  rotate_left
  · simp only [Act.put, List.setIfInBounds_toArray, List.set_cons_zero, List.set_cons_succ, i64_w, i32_w]
    rfl
  refine done_ (by kernel_rfl) ?_
  clear hHeld
  go_wp2
  have HSV : Hid (V.drew.cell? ⟨g, 1, none⟩ = some (.map (some bp)) ∧ V.drew.cell? ⟨w.heap.size, 0, none⟩ = some (.int .i64 i) ∧ V.drew.cell? ⟨w.heap.size, 1, none⟩ = some (.int .i64 a)) := Lib.hid ⟨blk_cell HI1.out.hg 1, blk_cell HK.out 0, blk_cell HK.out 1⟩
  have HC := Lib.hid (Kd.C_below HC.out (below_drew (Below.refl _ V)))
  refine start_ (n := 10) (S := fun W => W.cell? ⟨g, 1, none⟩ = some (.map (some bp)) ∧ W.cell? ⟨w.heap.size, 0, none⟩ = some (.int .i64 i) ∧ W.cell? ⟨w.heap.size, 1, none⟩ = some (.int .i64 a)) (ds := [9]) #[false, false, false, false, false, false, false, false, false, false] (by kernel_rfl) rfl rfl HSV.out (fun hHeld => ?_)
  have HI2 := Lib.hid (HI1.out.below (below_drew (Below.refl _ V)))
  have HS0 : Hid (V.drew.cell? ⟨g, 1, none⟩ = some (.map (some bp)) ∧ V.drew.cell? ⟨w.heap.size, 0, none⟩ = some (.int .i64 i) ∧ V.drew.cell? ⟨w.heap.size, 1, none⟩ = some (.int .i64 a)) := Lib.hid HSV.out
  have HK2 : Hid (V.drew.heap[w.heap.size]? = some (.cells #[.int .i64 i, .int .i64 a] 55 (0, 0))) := Lib.hid HK.out
  have HB2 : Hid (Below base w V.drew) := Lib.hid (below_drew HB.out)
  have hlow : base ≤ V.drew.heap.size := Nat.le_trans (HI1.out.lo g (by simp [bls])) (Nat.le_of_lt (blk_lt HI1.out.hg))
  have HKC := Lib.hid (HKC.out.trans (KeepC.of_below (below_drew (Below.refl _ V))))
  clear HI1 HK HB HSV
  generalize V.drew = V1 at *
  refine pure_ (i := 0) (N := some 19) (v := ?_) (a' := ?_) (bm 10 1) rfl rfl (by kernel_rfl) (fun _ _ _ h => h) (Or.inl ⟨by rfl, ?_⟩) ?_ ?_
  rotate_left
  · intro w'
    go_simp
    with_reducible rfl
  rotate_left
  · simp only [Act.put, List.setIfInBounds_toArray, List.set_cons_zero, List.set_cons_succ, i64_w, i32_w]
    rfl
  refine pure_ (i := 1) (N := some 20) (v := ?_) (a' := ?_) (bm 10 3) rfl rfl (by kernel_rfl) (fun _ _ _ h => h) (Or.inl ⟨by rfl, ?_⟩) ?_ ?_
  rotate_left
  · intro w'
    go_simp
    with_reducible rfl
  rotate_left
  · simp only [Act.put, List.setIfInBounds_toArray, List.set_cons_zero, List.set_cons_succ, i64_w, i32_w]
    rfl
  refine pure_ (i := 2) (N := some 21) (v := ?_) (a' := ?_) (bm 10 7) rfl rfl (by kernel_rfl) (fun _ _ _ h => h) (Or.inl ⟨by rfl, ?_⟩) ?_ ?_
  rotate_left
  · intro w'
    go_simp
    with_reducible rfl
  rotate_left
  · simp only [Act.put, List.setIfInBounds_toArray, List.set_cons_zero, List.set_cons_succ, i64_w, i32_w]
    rfl
  refine take_ (i := 3) (N := some 22) (v := ?_) (a' := ?_) (bm 10 15) rfl rfl (by kernel_rfl) (fun _ _ _ h => h) (Or.inl ⟨by rfl, ?_⟩) hHeld ?_ ?_
  rotate_left
  · rintro w' ⟨s0, s1, s2⟩
    go_simp
    with_reducible rfl
  rotate_left
  · simp only [Act.put, List.setIfInBounds_toArray, List.set_cons_zero, List.set_cons_succ, i64_w, i32_w]
    rfl
  refine take_ (i := 4) (N := some 23) (v := ?_) (a' := ?_) (bm 10 31) rfl rfl (by kernel_rfl) (fun _ _ _ h => h) (Or.inl ⟨by rfl, ?_⟩) hHeld ?_ ?_
  rotate_left
  · rintro w' ⟨s0, s1, s2⟩
    go_simp
    with_reducible rfl
  rotate_left
  · simp only [Act.put, List.setIfInBounds_toArray, List.set_cons_zero, List.set_cons_succ, i64_w, i32_w]
    rfl
  refine join_ (σ := Nat) 3 (bm 10 127) (fun s => [(24, .map (some s)), (25, .string (blk []))]) (fun s W => MapAt Try.prog 9 W s [] ∧ V1.heap.size ≤ s ∧ Below V1.heap.size V1 W) ?_ ?_
  rotate_left
  · intro hcont
    refine two_ (i := 5) (j := 6) (Ni := some 24) (Nj := some 25) (bm 10 63) (bm 10 95) rfl rfl rfl rfl (by kernel_rfl) (by decide) (by decide) (fun K hK => ?_) (fun K hK => ?_)
    · refine value_ (w1 := V1.alloc (.map #[] 0)) (v := .map (some V1.heap.size)) (by rfl) rfl (by go_simp) ?_
      have hbA : Below V1.heap.size V1 (V1.alloc (.map #[] 0)) := below_alloc (Below.refl _ _) _
      refine hK.out _ _ ⟨pw_cell_below hbA HS0.out.1, pw_cell_below hbA HS0.out.2.1, pw_cell_below hbA HS0.out.2.2⟩ (fun hHeld => ?_)
      clear hK K
      refine one_ (i := 6) (N := some 25) (bm 10 127) rfl rfl (by kernel_rfl) (by decide) (fun K hK => ?_)
      refine goes_ Try.func14 (by kernel_rfl) rfl #[.slice none 0 0] (by rfl) rfl rfl (by (try simp only [List.map_toArray, List.map_cons, List.map_nil]); first | done | rfl) ?_
      refine (block_calls none 0 [] _ (Kd.C_nil _ _) (by simp)).mono ?_
      rintro e W9 ⟨rfl, hb9⟩
      have hbB := hbA.trans (hb9.mono hbA.size)
      refine ⟨_, rfl, hK.out _ _ ⟨pw_cell_below hbB HS0.out.1, pw_cell_below hbB HS0.out.2.1, pw_cell_below hbB HS0.out.2.2⟩ (fun hHeld => ?_)⟩
      clear hK K
      exact norm_ (by rfl) (hcont V1.heap.size W9 ⟨(MapAt.new V1).kept (grown_of_below hb9 none) (by simp), Nat.le_refl _, hbB⟩)
    · refine goes_ Try.func14 (by kernel_rfl) rfl #[.slice none 0 0] (by rfl) rfl rfl (by (try simp only [List.map_toArray, List.map_cons, List.map_nil]); first | done | rfl) ?_
      refine (block_calls none 0 [] _ (Kd.C_nil _ _) (by simp)).mono ?_
      rintro e W9 ⟨rfl, hb9⟩
      refine ⟨_, rfl, hK.out _ _ ⟨pw_cell_below hb9 HS0.out.1, pw_cell_below hb9 HS0.out.2.1, pw_cell_below hb9 HS0.out.2.2⟩ (fun hHeld => ?_)⟩
      clear hK K
      refine one_ (i := 5) (N := some 24) (bm 10 127) rfl rfl (by kernel_rfl) (by decide) (fun K hK => ?_)
      refine value_ (w1 := W9.alloc (.map #[] 0)) (v := .map (some W9.heap.size)) (by rfl) rfl (by go_simp) ?_
      have hbB : Below V1.heap.size V1 (W9.alloc (.map #[] 0)) := hb9.alloc hb9.size _
      refine hK.out _ _ ⟨pw_cell_below hbB HS0.out.1, pw_cell_below hbB HS0.out.2.1, pw_cell_below hbB HS0.out.2.2⟩ (fun hHeld => ?_)
      clear hK K
      exact norm_ (by rfl) (hcont W9.heap.size _ ⟨MapAt.new W9, hb9.size, hbB⟩)
  rintro pb W2 ⟨hM2, hle2, hb2⟩
  obtain ⟨W3, hrun3, hM3, hg3, hs3⟩ := putS (l := []) hM2 (s := blk []) (blk_max _)
  have hb3 : Below V1.heap.size V1 W3 := hb2.grown hg3 hb2.size (fun k e => by cases e; exact hle2)
  have hHeld1 := (show _ ∧ _ ∧ _ from ⟨pw_cell_below hb3 HS0.out.1, pw_cell_below hb3 HS0.out.2.1, pw_cell_below hb3 HS0.out.2.2⟩)
  have hI3 := HI2.out.below hb3
  obtain ⟨W4, hrun4, hM4, hg4, hs4⟩ := hI3.hp.put_miss law55 Try.underlying43 (key := keyP i a) (.map (some pb)) HKL.out HMS.out
  unfold keyP at hrun4
  have hpb : pb ≠ bp := fun e => by have := HI2.out.hp.lt; omega
  have hI4 : IsW base W4 g bn bp N (Q ++ [(⟨i, a, [blk []]⟩, pb)]) := by
    refine HI2.out.newQ hM4 ?_ hle2 hlow ?_
    · have : MapAt Try.prog 9 W3 pb ([blk []].map onS) := by simpa [addS] using hM3
      exact this.kept hg4 (fun e => hpb (Option.some.inj e))
    · intro b hb hbn
      exact (hg4.block b (Nat.lt_of_lt_of_le hb hb3.size) (fun e => hbn (Option.some.inj e))).trans (hb3.block b hb)
  have hb4 : Below base V1 W4 := (hb3.mono hlow).grown hg4 (Nat.le_trans hlow hb3.size) (fun k e => by cases e; exact HI2.out.lo bp (by simp [bls]))
  have HC4 := Lib.hid (C_skip (Kd.C_below HC.out hb3) hg4 hI3.hp)
  have HKC4 := Lib.hid ((HKC.out.trans (KeepC.of_below hb3)).trans (KeepC.of_map hI3.hp hg4))
  have HI4 := Lib.hid hI4
  have HB4 := Lib.hid (HB2.out.trans hb4)
  have HK4 : Hid (W4.heap[w.heap.size]? = some (.cells #[.int .i64 i, .int .i64 a] 55 (0, 0))) := Lib.hid ((hg4.block _ (Nat.lt_of_lt_of_le (blk_lt HK2.out) hb3.size) (fun e => hI3.hp.ne_cells (hb3.block _ (blk_lt HK2.out) |>.trans HK2.out) (Option.some.inj e))).trans (hb3.block _ (blk_lt HK2.out) |>.trans HK2.out))
  clear hI4 hb4 hI3 hM4 hg4 hs4 hM3 hg3 hs3 hb2 hM2 hb3 hle2 hpb HK2 HB2 HI2 HS0 HC HKC
  refine norm_ (a' := ?_) ?_ ?_
  rotate_left
  · simp only [putAll, Act.put, List.setIfInBounds_toArray, List.set_cons_zero, List.set_cons_succ]
    rfl
  refine one_ (i := 7) (N := none) (bm 10 255) rfl rfl (by kernel_rfl) (by decide) (fun K hK => ?_)
  refine skip_ (w1 := ?_) (by rfl) rfl ?_ ?_
  rotate_left
  · go_simp
    rfl
  refine hK.out _ _ hHeld1 (fun hHeld => ?_)
  clear hK K
  refine pure_ (i := 8) (N := some 26) (v := ?_) (a' := ?_) (bm 10 511) rfl rfl (by kernel_rfl) (fun _ _ _ h => h) (Or.inl ⟨by rfl, ?_⟩) ?_ ?_
  rotate_left
  · intro w'
    go_simp
    with_reducible rfl
  rotate_left
  · simp only [Act.put, List.setIfInBounds_toArray, List.set_cons_zero, List.set_cons_succ, i64_w, i32_w]
    rfl
  refine last_ (i := 9) (N := none) (bm 10 1023) rfl rfl (by kernel_rfl) (by decide) (fun K hK => ?_)
  refine skip_ (w1 := ?_) (by rfl) rfl ?_ ?_
  rotate_left
  · go_simp
    rfl
  refine hK.out _ _ ?_
  clear hK K
  refine done_ (by kernel_rfl) ?_
  clear hHeld hHeld1 hrun3 hrun4
  go_wp2
  have HMEM : Hid ((keyP i a, Value.map (some pb)) ∈ (Q ++ [((⟨i, a, [blk []]⟩ : PS), pb)]).map entP) := Lib.hid (by simp [entP])
  have HT : Hid (W4.drew.cell? ⟨g, 1, none⟩ = some (.map (some bp)) ∧ W4.drew.cell? ⟨w.heap.size, 0, none⟩ = some (.int .i64 i) ∧ W4.drew.cell? ⟨w.heap.size, 1, none⟩ = some (.int .i64 a) ∧ (Instr.lookup 43 (.map (some bp)) (.agg #[.int .i64 i, .int .i64 a]) false).run Try.prog W4.drew = .ok (.map (some pb)) W4.drew) := Lib.hid ⟨blk_cell HI4.out.hg 1, blk_cell HK4.out 0, blk_cell HK4.out 1, (HI4.out.below (below_drew (Below.refl _ W4))).hp.look_hit law55 Try.underlying43 HKL.out HMEM.out false⟩
  have HI6 := Lib.hid (HI4.out.below (below_drew (Below.refl _ W4)))
  have HC6 := Lib.hid (Kd.C_below HC4.out (below_drew (Below.refl _ W4)))
  have HB6 : Hid (Below base w W4.drew) := Lib.hid (below_drew HB4.out)
  have HKC6 := Lib.hid (HKC4.out.trans (KeepC.of_below (below_drew (Below.refl _ W4))))
  clear HK4 HI4 HC4 HB4 HKC4
  refine start_ (n := 9) (S := fun W => W.cell? ⟨g, 1, none⟩ = some (.map (some bp)) ∧ W.cell? ⟨w.heap.size, 0, none⟩ = some (.int .i64 i) ∧ W.cell? ⟨w.heap.size, 1, none⟩ = some (.int .i64 a) ∧ (Instr.lookup 43 (.map (some bp)) (.agg #[.int .i64 i, .int .i64 a]) false).run Try.prog W = .ok (.map (some pb)) W) (ds := [8]) #[false, false, false, false, false, false, false, false, false] (by kernel_rfl) rfl rfl HT.out (fun hHeld => ?_)
  generalize W4.drew = V6 at *
  refine pure_ (i := 0) (N := some 27) (v := ?_) (a' := ?_) (bm 9 1) rfl rfl (by kernel_rfl) (fun _ _ _ h => h) (Or.inl ⟨by rfl, ?_⟩) ?_ ?_
  rotate_left
  · intro w'
    go_simp
    with_reducible rfl
  rotate_left
  · simp only [Act.put, List.setIfInBounds_toArray, List.set_cons_zero, List.set_cons_succ, i64_w, i32_w]
    rfl
  refine pure_ (i := 1) (N := some 28) (v := ?_) (a' := ?_) (bm 9 3) rfl rfl (by kernel_rfl) (fun _ _ _ h => h) (Or.inl ⟨by rfl, ?_⟩) ?_ ?_
  rotate_left
  · intro w'
    go_simp
    with_reducible rfl
  rotate_left
  · simp only [Act.put, List.setIfInBounds_toArray, List.set_cons_zero, List.set_cons_succ, i64_w, i32_w]
    rfl
  refine pure_ (i := 2) (N := some 29) (v := ?_) (a' := ?_) (bm 9 7) rfl rfl (by kernel_rfl) (fun _ _ _ h => h) (Or.inl ⟨by rfl, ?_⟩) ?_ ?_
  rotate_left
  · intro w'
    go_simp
    with_reducible rfl
  rotate_left
  · simp only [Act.put, List.setIfInBounds_toArray, List.set_cons_zero, List.set_cons_succ, i64_w, i32_w]
    rfl
  refine take_ (i := 3) (N := some 30) (v := ?_) (a' := ?_) (bm 9 15) rfl rfl (by kernel_rfl) (fun _ _ _ h => h) (Or.inl ⟨by rfl, ?_⟩) hHeld ?_ ?_
  rotate_left
  · rintro w' ⟨s0, s1, s2, s3⟩
    go_simp
    with_reducible rfl
  rotate_left
  · simp only [Act.put, List.setIfInBounds_toArray, List.set_cons_zero, List.set_cons_succ, i64_w, i32_w]
    rfl
  refine take_ (i := 4) (N := some 31) (v := ?_) (a' := ?_) (bm 9 31) rfl rfl (by kernel_rfl) (fun _ _ _ h => h) (Or.inl ⟨by rfl, ?_⟩) hHeld ?_ ?_
  rotate_left
  · rintro w' ⟨s0, s1, s2, s3⟩
    go_simp
    with_reducible rfl
  rotate_left
  · simp only [Act.put, List.setIfInBounds_toArray, List.set_cons_zero, List.set_cons_succ, i64_w, i32_w]
    rfl
  refine take_ (i := 5) (N := some 32) (v := ?_) (a' := ?_) (bm 9 63) rfl rfl (by kernel_rfl) (fun _ _ _ h => h) (Or.inl ⟨by rfl, ?_⟩) hHeld ?_ ?_
  rotate_left
  · rintro w' ⟨s0, s1, s2, s3⟩
    go_simp
    with_reducible rfl
  rotate_left
  · simp only [Act.put, List.setIfInBounds_toArray, List.set_cons_zero, List.set_cons_succ, i64_w, i32_w]
    rfl
  refine pure_ (i := 6) (N := some 33) (v := ?_) (a' := ?_) (bm 9 127) rfl rfl (by kernel_rfl) (fun _ _ _ h => h) (Or.inl ⟨by rfl, ?_⟩) ?_ ?_
  rotate_left
  · intro w'
    go_simp
    with_reducible rfl
  rotate_left
  · simp only [Act.put, List.setIfInBounds_toArray, List.set_cons_zero, List.set_cons_succ, i64_w, i32_w]
    rfl
  refine one_ (i := 7) (N := some 34) (bm 9 255) rfl rfl (by kernel_rfl) (by decide) (fun K hK => ?_)
  refine goes_ Try.func14 (by kernel_rfl) rfl #[.slice A b.length c] (by rfl) rfl rfl (by (try simp only [List.map_toArray, List.map_cons, List.map_nil]); first | done | rfl) ?_
  refine (block_calls A c b V6 HC6.out hlb).mono ?_
  rintro e V7 ⟨rfl, hb7⟩
  obtain ⟨V8, hrun8, hI8, hb8, hk8⟩ := HI6.out.held hb7 (blk_max b)
  have HKC8 := Lib.hid ((KeepC.of_below hb7).trans hk8)
  have hI7 := HI6.out.below hb7
  have hHeld1 := (show _ ∧ _ ∧ _ ∧ _ from ⟨pw_cell_below hb7 hHeld.1, pw_cell_below hb7 hHeld.2.1, pw_cell_below hb7 hHeld.2.2.1, hI7.hp.look_hit law55 Try.underlying43 HKL.out HMEM.out false⟩)
  have HI8 := Lib.hid hI8
  have HB8 := Lib.hid ((hb7.mono (Nat.le_trans (HI6.out.lo g (by simp [bls])) (Nat.le_of_lt (blk_lt HI6.out.hg)))).trans hb8)
  clear hI8 hb8 hI7 hb7 hk8
  refine ⟨_, rfl, hK.out _ _ hHeld1 (fun hHeld => ?_)⟩
  clear hK K
  refine norm_ (a' := ?_) ?_ ?_
  rotate_left
  · show Act.put _ (some 34) _ = _
    simp only [Act.put, List.setIfInBounds_toArray, List.set_cons_zero, List.set_cons_succ, i64_w, i32_w]
    rfl
  refine last_ (i := 8) (N := none) (bm 9 511) rfl rfl (by kernel_rfl) (by decide) (fun K hK => ?_)
  refine skip_ (w1 := ?_) (by rfl) rfl ?_ ?_
  rotate_left
  · go_simp
    rfl
  refine hK.out _ _ ?_
  clear hK K
  refine done_ (by kernel_rfl) ?_
  go_wp2
  go_end0
  exact ⟨rfl, ⟨pb, HI8.out⟩, HB6.out.trans HB8.out, HKC6.out.trans HKC8.out⟩

/-- a file's block has these bytes from now on -/
theorem part_calls {base : Nat} {w : World} {g : Nat} {N : List NS} {Q : List PS} (h : WS base w g N Q) {i a : Int} (hd : I64 i) (hs : I64 a) {A : Option Addr} {c : Nat} {b : List Int} (hC : Kd.C (Kd.int .u8) w A b.length b) (hlb : b.length ≤ 9223372036854775807) :
    Calls Try.prog 11 #[.pointer (some ⟨g, 0, none⟩), .int .i64 i, .int .i64 a, .slice A b.length c] w fun e w' => e = .returned (.tuple #[]) ∧ WS base w' g N (partS Q i a (blk b)) ∧ Below base w w' ∧ KeepC w w' := by
  obtain ⟨bn, bp, N', Q', hI, rfl, rfl⟩ := h
  rcases find_Q Q' i a with ⟨N1, x, N2, rfl, rfl, rfl, hno⟩ | hno
  · obtain ⟨x, pb⟩ := x
    refine (part_hit hI rfl rfl hC hlb).mono ?_
    rintro e w' ⟨rfl, hI2, hb, hk⟩
    refine ⟨rfl, ⟨bn, bp, _, _, hI2, rfl, ?_⟩, hb, hk⟩
    rw [List.map_append, List.map_cons, List.map_append, List.map_cons, partS_hit]
    intro y hy
    obtain ⟨z, hz, rfl⟩ := List.mem_map.1 hy
    exact hno z hz
  · refine (part_miss hI hd hs hno hC hlb).mono ?_
    rintro e w' ⟨rfl, ⟨pb, hI2⟩, hb, hk⟩
    refine ⟨rfl, ⟨bn, bp, _, _, hI2, rfl, ?_⟩, hb, hk⟩
    rw [partS_miss, List.map_append]
    · rfl
    · intro y hy
      obtain ⟨z, hz, rfl⟩ := List.mem_map.1 hy
      exact hno z hz
end Go.Proofs.Ytnnnakgdmhmpmaa.Given
