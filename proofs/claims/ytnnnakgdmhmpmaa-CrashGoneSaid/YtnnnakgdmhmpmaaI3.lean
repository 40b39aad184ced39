/- (*Watch).Entry: a name names an inode from now on. -/
import Derived.Test.YtnnnakgdmhmpmaaI2
namespace Go.Proofs.Ytnnnakgdmhmpmaa.Given
open Go.RowKit Go.Proofs.YtnnnakgdmhmpmaaW.PrintWords Go.Proofs.YtnnnakgdmhmpmaaW.PrintLast Go.Proofs.YtnnnakgdmhmpmaaW.PrintMore Go.Proofs.YtnnnakgdmhmpmaaBase
set_option linter.unusedVariables false
set_option linter.unusedSimpArgs false

/-- what is behind the look: the number is stored, and is among those that were -/
theorem IsW.named {base : Nat} {V : World} {g bn bp xb mb : Nat} {N1 N2 : List (NS × Nat × Nat)} {Q : List (PS × Nat)} {x : NS} (h : IsW base V g bn bp (N1 ++ (x, xb, mb) :: N2) Q) {i : Int} (hi : I64 i) :
    ∃ V3, (Instr.mapUpdate 49 (.map (some mb)) (.int .i64 i) (.bool true)).run Try.prog (V.setCell ⟨xb, 0, none⟩ (.int .i64 i)) = .ok () V3 ∧
      IsW base V3 g bn bp (N1 ++ ({ x with now := i, ever := addI x.ever i }, xb, mb) :: N2) Q ∧ Below base V V3 ∧ KeepC V V3 := by
  have hx := h.hx (x, xb, mb) (by simp)
  have hne : xb ≠ mb := hx.map.ne_cells hx.blk
  have hM : MapAt Try.prog 3 (V.setCell ⟨xb, 0, none⟩ (.int .i64 i)) mb (x.ever.map onI) := hx.map.move (Below.heap_setCell V ⟨xb, 0, none⟩ _ mb (fun e => hne e.symm))
  obtain ⟨V3, hrun, hM3, hg3, hs3⟩ := putI hM hi
  have hlo := h.lo
  have hmem : xb ∈ bls g bn bp (N1 ++ (x, xb, mb) :: N2) Q ∧ mb ∈ bls g bn bp (N1 ++ (x, xb, mb) :: N2) Q := by rw [bls_mid]; simp
  have hb2 := blk_set hx.blk 0 (.int .i64 i)
  have hsz : (V.setCell ⟨xb, 0, none⟩ (.int .i64 i)).heap.size = V.heap.size := by simp [World.setCell]
  refine ⟨V3, hrun, ?_, ?_, (KeepC.set hx.blk 0 _).trans (KeepC.of_map hM hg3)⟩
  · refine h.updN (y := { x with now := i, ever := addI x.ever i }) rfl rfl ⟨?_, hM3, hi⟩ (.inl rfl) (hlo mb hmem.2) (fun b hb h1 h2 => ?_)
    · exact (hg3.block xb (by rw [hsz]; exact blk_lt hx.blk) (fun e => hne (Option.some.inj e))).trans hb2
    · exact (hg3.block b (by rw [hsz]; exact hb) (fun e => h2 (Option.some.inj e))).trans (Below.heap_setCell V ⟨xb, 0, none⟩ _ b h1)
  · have h1 : Below base V (V.setCell ⟨xb, 0, none⟩ (.int .i64 i)) := (Below.refl base V).setCell (by exact hlo xb hmem.1) _
    exact h1.grown hg3 (Nat.le_trans (hlo mb hmem.2) (Nat.le_of_lt hM.lt)) (fun k e => by cases e; exact hlo mb hmem.2)

set_option maxRecDepth 100000 in
set_option maxHeartbeats 1000000 in
theorem entry_hit {base : Nat} {w : World} {g bn bp xb mb : Nat} {N1 N2 : List (NS × Nat × Nat)} {Q : List (PS × Nat)} {x : NS} (h : IsW base w g bn bp (N1 ++ (x, xb, mb) :: N2) Q) {d : Int} {s : ByteArray} (hd : x.dir = d) (hs : x.nm = s) {i : Int} (hi : I64 i) :
    Calls Try.prog 9 #[.pointer (some ⟨g, 0, none⟩), .int .i64 d, .string s, .int .i64 i] w fun e w' => e = .returned (.tuple #[]) ∧
      IsW base w' g bn bp (N1 ++ ({ x with now := i, ever := addI x.ever i }, xb, mb) :: N2) Q ∧ Below base w w' ∧ KeepC w w' := by
  have hmem : (keyN d s, Value.pointer (some ⟨xb, 0, none⟩)) ∈ (N1 ++ (x, xb, mb) :: N2).map entN := by rw [← hd, ← hs]; simp [entN]
  obtain ⟨kl, hkl⟩ := h.hn.keyed hmem
  have hI1 : IsW base (w.alloc (.cells #[.int .i64 d, .string s] 47)).drew g bn bp (N1 ++ (x, xb, mb) :: N2) Q := h.below (below_drew (below_alloc (Below.refl _ _) _))
  have HB : Hid (Below base w (w.alloc (.cells #[.int .i64 d, .string s] 47)).drew) := Lib.hid (below_drew ((Below.refl base w).alloc (Nat.le_trans (h.lo g (by simp [bls])) (Nat.le_of_lt (blk_lt h.hg))) _))
  have HKC : Hid (KeepC w (w.alloc (.cells #[.int .i64 d, .string s] 47)).drew) := Lib.hid (KeepC.of_below (below_drew (below_alloc (Below.refl _ _) _)))
  have hl := hI1.hn.look_hit law47 Try.underlying42 hkl hmem false
  have HS := Lib.hid (And.intro (blk_cell hI1.hg 0) (And.intro (blk_cell (blk_new w (.cells #[.int .i64 d, .string s] 47)) 0) (And.intro (blk_cell (blk_new w (.cells #[.int .i64 d, .string s] 47)) 1) hl)))
  have HI1 := Lib.hid hI1
  clear hI1 hl hmem hkl h hd hs
  go_enter Try.func9, Try.ntmps9
  go_wp2
  refine start_ (n := 7) (S := fun W => W.cell? ⟨g, 0, none⟩ = some (.map (some bn)) ∧ W.cell? ⟨w.heap.size, 0, none⟩ = some (.int .i64 d) ∧ W.cell? ⟨w.heap.size, 1, none⟩ = some (.string s) ∧ (Instr.lookup 42 (.map (some bn)) (.agg #[.int .i64 d, .string s]) false).run Try.prog W = .ok (.pointer (some ⟨xb, 0, none⟩)) W) (ds := []) #[false, false, false, false, false, false, false] (by kernel_rfl) rfl rfl HS.out (fun hHeld => ?_)
  clear HS
  generalize (w.alloc (.cells #[.int .i64 d, .string s] 47)).drew = V at *
  refine pure_ (i := 0) (N := some 13) (v := ?_) (a' := ?_) (bm 7 1) rfl rfl (by kernel_rfl) (fun _ _ _ h => h) (Or.inl ⟨by rfl, ?_⟩) ?_ ?_
  rotate_left
  · intro w'
    go_simp
    with_reducible rfl
  rotate_left
  · simp only [Act.put, List.setIfInBounds_toArray, List.set_cons_zero, List.set_cons_succ, i64_w, i32_w]
    rfl
  refine pure_ (i := 1) (N := some 14) (v := ?_) (a' := ?_) (bm 7 3) rfl rfl (by kernel_rfl) (fun _ _ _ h => h) (Or.inl ⟨by rfl, ?_⟩) ?_ ?_
  rotate_left
  · intro w'
    go_simp
    with_reducible rfl
  rotate_left
  · simp only [Act.put, List.setIfInBounds_toArray, List.set_cons_zero, List.set_cons_succ, i64_w, i32_w]
    rfl
  refine pure_ (i := 2) (N := some 15) (v := ?_) (a' := ?_) (bm 7 7) rfl rfl (by kernel_rfl) (fun _ _ _ h => h) (Or.inl ⟨by rfl, ?_⟩) ?_ ?_
  rotate_left
  · intro w'
    go_simp
    with_reducible rfl
  rotate_left
  · simp only [Act.put, List.setIfInBounds_toArray, List.set_cons_zero, List.set_cons_succ, i64_w, i32_w]
    rfl
  refine take_ (i := 3) (N := some 16) (v := ?_) (a' := ?_) (bm 7 15) rfl rfl (by kernel_rfl) (fun _ _ _ h => h) (Or.inl ⟨by rfl, ?_⟩) hHeld ?_ ?_
  rotate_left
  · rintro w' ⟨s0, s1, s2, s3⟩
    go_simp
    with_reducible rfl
  rotate_left
  · simp only [Act.put, List.setIfInBounds_toArray, List.set_cons_zero, List.set_cons_succ, i64_w, i32_w]
    rfl
  refine take_ (i := 4) (N := some 17) (v := ?_) (a' := ?_) (bm 7 31) rfl rfl (by kernel_rfl) (fun _ _ _ h => h) (Or.inl ⟨by rfl, ?_⟩) hHeld ?_ ?_
  rotate_left
  · rintro w' ⟨s0, s1, s2, s3⟩
    go_simp
    with_reducible rfl
  rotate_left
  · simp only [Act.put, List.setIfInBounds_toArray, List.set_cons_zero, List.set_cons_succ, i64_w, i32_w]
    rfl
  refine take_ (i := 5) (N := some 18) (v := ?_) (a' := ?_) (bm 7 63) rfl rfl (by kernel_rfl) (fun _ _ _ h => h) (Or.inl ⟨by rfl, ?_⟩) hHeld ?_ ?_
  rotate_left
  · rintro w' ⟨s0, s1, s2, s3⟩
    go_simp
    with_reducible rfl
  rotate_left
  · simp only [Act.put, List.setIfInBounds_toArray, List.set_cons_zero, List.set_cons_succ, i64_w, i32_w]
    rfl
  refine pure_ (i := 6) (N := some 9) (v := ?_) (a' := ?_) (bm 7 127) rfl rfl (by kernel_rfl) (fun _ _ _ h => h) (Or.inl ⟨by rfl, ?_⟩) ?_ ?_
  rotate_left
  · intro w'
    go_simp
    with_reducible rfl
  rotate_left
  · simp only [Act.put, List.setIfInBounds_toArray, List.set_cons_zero, List.set_cons_succ, i64_w, i32_w]
    rfl
  refine done_ (by kernel_rfl) ?_
  clear hHeld
  obtain ⟨V3, hrun, hI3, hb3, hk3⟩ := HI1.out.named hi
  have HK3 := Lib.hid hk3
  have hx := HI1.out.hx (x, xb, mb) (by simp)
  have c0 := blk_cell hx.blk 0
  have c1 := blk_cell hx.blk 1
  have f0 := blk_frozen hx.blk 0
  simp only [List.getElem?_toArray, List.getElem?_cons_zero, List.getElem?_cons_succ] at c0 c1
  have HI3 := Lib.hid hI3
  have HB3 := Lib.hid hb3
  clear hI3 hb3 hx hk3
  go_wp2
  go_end0
  exact ⟨rfl, HI3.out, HB.out.trans HB3.out, HKC.out.trans HK3.out⟩

theorem zero48 (w : World) : (zeroValue 48).run Try.prog w = .ok (.pointer none) w := by kernel_rfl

set_option maxRecDepth 100000 in
set_option maxHeartbeats 1000000 in
theorem entry_miss {base : Nat} {w : World} {g bn bp : Nat} {N : List (NS × Nat × Nat)} {Q : List (PS × Nat)} (h : IsW base w g bn bp N Q) {d : Int} {s : ByteArray} (hd : I64 d) (hs : s.size ≤ maxLen) (hno : ∀ y ∈ N, ¬ (y.1.dir = d ∧ y.1.nm = s)) {i : Int} (hi : I64 i) :
    Calls Try.prog 9 #[.pointer (some ⟨g, 0, none⟩), .int .i64 d, .string s, .int .i64 i] w fun e w' => e = .returned (.tuple #[]) ∧
      (∃ xb mb, IsW base w' g bn bp (N ++ [(⟨d, s, i, addI [0] i⟩, xb, mb)]) Q) ∧ Below base w w' ∧ KeepC w w' := by
  obtain ⟨kl, hkl⟩ := key47 hd hs
  have hmiss : ∀ p ∈ N.map entN, p.1 ≠ keyN d s := by
    intro p hp e
    obtain ⟨y, hy, rfl⟩ := List.mem_map.1 hp
    exact hno y hy (keyN_inj e)
  have hbase : base ≤ w.heap.size := Nat.le_trans (h.lo g (by simp [bls])) (Nat.le_of_lt (blk_lt h.hg))
  have hI1 : IsW base (w.alloc (.cells #[.int .i64 d, .string s] 47)).drew g bn bp N Q := h.below (below_drew (below_alloc (Below.refl _ _) _))
  have HB : Hid (Below base w (w.alloc (.cells #[.int .i64 d, .string s] 47)).drew) := Lib.hid (below_drew ((Below.refl base w).alloc hbase _))
  have HKC : Hid (KeepC w (w.alloc (.cells #[.int .i64 d, .string s] 47)).drew) := Lib.hid (KeepC.of_below (below_drew (below_alloc (Below.refl _ _) _)))
  have hl := hI1.hn.look_miss law47 Try.underlying42 (zero48 _) hkl hmiss false
  have HK : Hid ((w.alloc (.cells #[.int .i64 d, .string s] 47)).drew.heap[w.heap.size]? = some (.cells #[.int .i64 d, .string s] 47 (0, 0))) := Lib.hid (blk_new w (.cells #[.int .i64 d, .string s] 47))
  have HS := Lib.hid (And.intro (blk_cell hI1.hg 0) (And.intro (blk_cell HK.out 0) (And.intro (blk_cell HK.out 1) hl)))
  have HI1 := Lib.hid hI1
  have HKL := Lib.hid hkl
  have HMS := Lib.hid hmiss
  clear hI1 hl hkl hmiss h hd hs hno
  go_enter Try.func9, Try.ntmps9
  go_wp2
  refine start_ (n := 7) (S := fun W => W.cell? ⟨g, 0, none⟩ = some (.map (some bn)) ∧ W.cell? ⟨w.heap.size, 0, none⟩ = some (.int .i64 d) ∧ W.cell? ⟨w.heap.size, 1, none⟩ = some (.string s) ∧ (Instr.lookup 42 (.map (some bn)) (.agg #[.int .i64 d, .string s]) false).run Try.prog W = .ok (.pointer none) W) (ds := []) #[false, false, false, false, false, false, false] (by kernel_rfl) rfl rfl HS.out (fun hHeld => ?_)
  clear HS
  generalize (w.alloc (.cells #[.int .i64 d, .string s] 47)).drew = V at *
  refine pure_ (i := 0) (N := some 13) (v := ?_) (a' := ?_) (bm 7 1) rfl rfl (by kernel_rfl) (fun _ _ _ h => h) (Or.inl ⟨by rfl, ?_⟩) ?_ ?_
  rotate_left
  · intro w'
    go_simp
    with_reducible rfl
  rotate_left
  · simp only [Act.put, List.setIfInBounds_toArray, List.set_cons_zero, List.set_cons_succ, i64_w, i32_w]
    rfl
  refine pure_ (i := 1) (N := some 14) (v := ?_) (a' := ?_) (bm 7 3) rfl rfl (by kernel_rfl) (fun _ _ _ h => h) (Or.inl ⟨by rfl, ?_⟩) ?_ ?_
  rotate_left
  · intro w'
    go_simp
    with_reducible rfl
  rotate_left
  · simp only [Act.put, List.setIfInBounds_toArray, List.set_cons_zero, List.set_cons_succ, i64_w, i32_w]
    rfl
  refine pure_ (i := 2) (N := some 15) (v := ?_) (a' := ?_) (bm 7 7) rfl rfl (by kernel_rfl) (fun _ _ _ h => h) (Or.inl ⟨by rfl, ?_⟩) ?_ ?_
  rotate_left
  · intro w'
    go_simp
    with_reducible rfl
  rotate_left
  · simp only [Act.put, List.setIfInBounds_toArray, List.set_cons_zero, List.set_cons_succ, i64_w, i32_w]
    rfl
  refine take_ (i := 3) (N := some 16) (v := ?_) (a' := ?_) (bm 7 15) rfl rfl (by kernel_rfl) (fun _ _ _ h => h) (Or.inl ⟨by rfl, ?_⟩) hHeld ?_ ?_
  rotate_left
  · rintro w' ⟨s0, s1, s2, s3⟩
    go_simp
    with_reducible rfl
  rotate_left
  · simp only [Act.put, List.setIfInBounds_toArray, List.set_cons_zero, List.set_cons_succ, i64_w, i32_w]
    rfl
  refine take_ (i := 4) (N := some 17) (v := ?_) (a' := ?_) (bm 7 31) rfl rfl (by kernel_rfl) (fun _ _ _ h => h) (Or.inl ⟨by rfl, ?_⟩) hHeld ?_ ?_
  rotate_left
  · rintro w' ⟨s0, s1, s2, s3⟩
    go_simp
    with_reducible rfl
  rotate_left
  · simp only [Act.put, List.setIfInBounds_toArray, List.set_cons_zero, List.set_cons_succ, i64_w, i32_w]
    rfl
  refine take_ (i := 5) (N := some 18) (v := ?_) (a' := ?_) (bm 7 63) rfl rfl (by kernel_rfl) (fun _ _ _ h => h) (Or.inl ⟨by rfl, ?_⟩) hHeld ?_ ?_
  rotate_left
  · rintro w' ⟨s0, s1, s2, s3⟩
    go_simp
    with_reducible rfl
  rotate_left
  · simp only [Act.put, List.setIfInBounds_toArray, List.set_cons_zero, List.set_cons_succ, i64_w, i32_w]
    rfl
  refine pure_ (i := 6) (N := some 9) (v := ?_) (a' := ?_) (bm 7 127) rfl rfl (by kernel_rfl) (fun _ _ _ h => h) (Or.inl ⟨by rfl, ?_⟩) ?_ ?_
  rotate_left
  · intro w'
    go_simp
    with_reducible rfl
  rotate_left
  · simp only [Act.put, List.setIfInBounds_toArray, List.set_cons_zero, List.set_cons_succ, i64_w, i32_w]
    rfl
  refine done_ (by kernel_rfl) ?_
  clear hHeld
  obtain ⟨V2, hrun2, hM2, hg2, hs2⟩ := putI (l := []) (i := 0) (MapAt.new V) (by unfold I64; omega)
  have hb2 : Below V.heap.size V V2 := ((Below.refl _ V).alloc (Nat.le_refl _) _).grown hg2 (by simp) (fun k e => by cases e; exact Nat.le_refl _)
  have hb4 : Below V.heap.size V (V2.alloc (.cells #[.int .i64 0, .map (some V.heap.size)] 51)).drew := below_drew (hb2.alloc hb2.size _)
  have hI4 := HI1.out.below hb4
  obtain ⟨V5, hrun5, hM5, hg5, hs5⟩ := hI4.hn.put_miss law47 Try.underlying42 (key := keyN d s) (.pointer (some ⟨V2.heap.size, 0, none⟩)) HKL.out HMS.out
  unfold keyN at hrun5
  have hxb := blk_new V2 (.cells #[.int .i64 0, .map (some V.heap.size)] 51)
  simp only [World.size_alloc] at hs2
  have hszV : V2.heap.size = V.heap.size + 1 := hs2
  have hne : ∀ b, some b = some bn → b < V.heap.size := fun b e => by cases e; exact HI1.out.hn.lt
  have hI5 : IsW base V5 g bn bp (N ++ [(⟨d, s, 0, [0]⟩, V2.heap.size, V.heap.size)]) Q := by
    refine HI1.out.newN hM5 ⟨?_, ?_, (by unfold I64; decide : I64 0)⟩ (by omega) (Nat.le_refl _) (by omega) (Nat.le_trans (HI1.out.lo g (by simp [bls])) (Nat.le_of_lt (blk_lt HI1.out.hg))) ?_
    · exact (hg5.block _ (by exact blk_lt hxb) (fun e => by have := hne _ e; omega)).trans hxb
    · have : MapAt Try.prog 3 (V2.alloc (.cells #[.int .i64 0, .map (some V.heap.size)] 51)).drew V.heap.size ([0].map onI) := (hM2.alloc _).drew
      exact this.kept hg5 (fun e => by have := hne _ e; omega)
    · intro b hb hbn
      exact (hg5.block b (Nat.lt_of_lt_of_le hb hb4.size) (fun e => hbn (Option.some.inj e))).trans (hb4.block b hb)
  have hb5 : Below base V V5 := (hb4.mono (Nat.le_trans (HI1.out.lo g (by simp [bls])) (Nat.le_of_lt (blk_lt HI1.out.hg)))).grown hg5 (Nat.le_trans (Nat.le_trans (HI1.out.lo g (by simp [bls])) (Nat.le_of_lt (blk_lt HI1.out.hg))) hb4.size) (fun k e => by cases e; exact HI1.out.lo bn (by simp [bls]))
  obtain ⟨V6, hrun6, hI6, hb6, hk6⟩ := hI5.named hi
  have HKC6 := Lib.hid (((HKC.out.trans (KeepC.of_below hb4)).trans (KeepC.of_map hI4.hn hg5)).trans hk6)
  have hx := hI5.hx (⟨d, s, 0, [0]⟩, V2.heap.size, V.heap.size) (by simp)
  have c0 := blk_cell hx.blk 0
  have c1 := blk_cell hx.blk 1
  have f0 := blk_frozen hx.blk 0
  simp only [List.getElem?_toArray, List.getElem?_cons_zero, List.getElem?_cons_succ] at c0 c1
  have HS2 := Lib.hid (And.intro (blk_cell hI4.hg 0) (And.intro (blk_cell (hb4.block _ (blk_lt HK.out) |>.trans HK.out) 0) (blk_cell (hb4.block _ (blk_lt HK.out) |>.trans HK.out) 1)))
  have HI6 := Lib.hid hI6
  have HB6 := Lib.hid (HB.out.trans (hb5.trans hb6))
  have hmk := fun w => @run_makeMap Try.prog w
  clear HKC hk6 hI6 hb6 hb5 hI5 hx hI4 hb4 hb2 hM5 hg5 hs5 hM2 hg2 hs2 hne hxb HI1 HK HKL HMS HB hszV
  go_wp2
  refine start_ (n := 7) (S := fun W => W.cell? ⟨g, 0, none⟩ = some (.map (some bn)) ∧ W.cell? ⟨w.heap.size, 0, none⟩ = some (.int .i64 d) ∧ W.cell? ⟨w.heap.size, 1, none⟩ = some (.string s)) (ds := [6]) #[false, false, false, false, false, false, false] (by kernel_rfl) rfl rfl HS2.out (fun hHeld => ?_)
  clear HS2
  generalize (V2.alloc (.cells #[.int .i64 0, .map (some V.heap.size)] 51)).drew = V4 at *
  refine pure_ (i := 0) (N := some 25) (v := ?_) (a' := ?_) (bm 7 1) rfl rfl (by kernel_rfl) (fun _ _ _ h => h) (Or.inl ⟨by rfl, ?_⟩) ?_ ?_
  rotate_left
  · intro w'
    go_simp
    with_reducible rfl
  rotate_left
  · simp only [Act.put, List.setIfInBounds_toArray, List.set_cons_zero, List.set_cons_succ, i64_w, i32_w]
    rfl
  refine pure_ (i := 1) (N := some 26) (v := ?_) (a' := ?_) (bm 7 3) rfl rfl (by kernel_rfl) (fun _ _ _ h => h) (Or.inl ⟨by rfl, ?_⟩) ?_ ?_
  rotate_left
  · intro w'
    go_simp
    with_reducible rfl
  rotate_left
  · simp only [Act.put, List.setIfInBounds_toArray, List.set_cons_zero, List.set_cons_succ, i64_w, i32_w]
    rfl
  refine pure_ (i := 2) (N := some 27) (v := ?_) (a' := ?_) (bm 7 7) rfl rfl (by kernel_rfl) (fun _ _ _ h => h) (Or.inl ⟨by rfl, ?_⟩) ?_ ?_
  rotate_left
  · intro w'
    go_simp
    with_reducible rfl
  rotate_left
  · simp only [Act.put, List.setIfInBounds_toArray, List.set_cons_zero, List.set_cons_succ, i64_w, i32_w]
    rfl
  refine take_ (i := 3) (N := some 28) (v := ?_) (a' := ?_) (bm 7 15) rfl rfl (by kernel_rfl) (fun _ _ _ h => h) (Or.inl ⟨by rfl, ?_⟩) hHeld ?_ ?_
  rotate_left
  · rintro w' ⟨s0, s1, s2⟩
    go_simp
    with_reducible rfl
  rotate_left
  · simp only [Act.put, List.setIfInBounds_toArray, List.set_cons_zero, List.set_cons_succ, i64_w, i32_w]
    rfl
  refine take_ (i := 4) (N := some 29) (v := ?_) (a' := ?_) (bm 7 31) rfl rfl (by kernel_rfl) (fun _ _ _ h => h) (Or.inl ⟨by rfl, ?_⟩) hHeld ?_ ?_
  rotate_left
  · rintro w' ⟨s0, s1, s2⟩
    go_simp
    with_reducible rfl
  rotate_left
  · simp only [Act.put, List.setIfInBounds_toArray, List.set_cons_zero, List.set_cons_succ, i64_w, i32_w]
    rfl
  refine pure_ (i := 5) (N := some 30) (v := ?_) (a' := ?_) (bm 7 63) rfl rfl (by kernel_rfl) (fun _ _ _ h => h) (Or.inl ⟨by rfl, ?_⟩) ?_ ?_
  rotate_left
  · intro w'
    go_simp
    with_reducible rfl
  rotate_left
  · simp only [Act.put, List.setIfInBounds_toArray, List.set_cons_zero, List.set_cons_succ, i64_w, i32_w]
    rfl
  refine last_ (i := 6) (N := none) (bm 7 127) rfl rfl (by kernel_rfl) (by decide) (fun K hK => ?_)
  refine skip_ (w1 := ?_) (by rfl) rfl ?_ ?_
  rotate_left
  · go_simp
    rfl
  refine hK.out _ _ ?_
  clear hK K
  refine done_ (by kernel_rfl) ?_
  clear hHeld
  go_wp2
  go_end0
  exact ⟨rfl, ⟨_, _, HI6.out⟩, HB6.out, HKC6.out⟩

/-- a name names an inode from now on -/
theorem entry_calls {base : Nat} {w : World} {g : Nat} {N : List NS} {Q : List PS} (h : WS base w g N Q) {d : Int} {s : ByteArray} (hd : I64 d) (hs : s.size ≤ maxLen) {i : Int} (hi : I64 i) :
    Calls Try.prog 9 #[.pointer (some ⟨g, 0, none⟩), .int .i64 d, .string s, .int .i64 i] w fun e w' => e = .returned (.tuple #[]) ∧ WS base w' g (entS N d s i) Q ∧ Below base w w' ∧ KeepC w w' := by
  obtain ⟨bn, bp, N', Q', hI, rfl, rfl⟩ := h
  rcases find_N N' d s with ⟨N1, x, N2, rfl, rfl, rfl, hno⟩ | hno
  · obtain ⟨x, xb, mb⟩ := x
    refine (entry_hit hI rfl rfl hi).mono ?_
    rintro e w' ⟨rfl, hI2, hb, hk⟩
    refine ⟨rfl, ⟨bn, bp, _, _, hI2, ?_, rfl⟩, hb, hk⟩
    rw [List.map_append, List.map_cons, List.map_append, List.map_cons, entS_hit]
    intro y hy
    obtain ⟨z, hz, rfl⟩ := List.mem_map.1 hy
    exact hno z hz
  · refine (entry_miss hI hd hs hno hi).mono ?_
    rintro e w' ⟨rfl, ⟨xb, mb, hI2⟩, hb, hk⟩
    refine ⟨rfl, ⟨bn, bp, _, _, hI2, ?_, rfl⟩, hb, hk⟩
    rw [entS_miss, List.map_append]
    · rfl
    · intro y hy
      obtain ⟨z, hz, rfl⟩ := List.mem_map.1 hy
      exact hno z hz
end Go.Proofs.Ytnnnakgdmhmpmaa.Given
