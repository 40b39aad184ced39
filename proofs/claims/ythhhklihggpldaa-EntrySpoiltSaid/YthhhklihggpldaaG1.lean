/- entry.Name and entry.Pack: what each answers, for every argument. -/
import Derived.Test.YthhhklihggpldaaShelf
import Derived.Test.YthhhklihggpldaaBase
import Derived.Lib.Hide
namespace Go.Proofs.Ythhhklihggpldaa.Given
open Go.RowKit Go.Proofs.YthhhklihggpldaaW.PrintWords Go.Proofs.YthhhklihggpldaaBase
set_option linter.unusedVariables false
set_option linter.unusedSimpArgs false

/-- may an entry have this name? -/
def nameOk (s : ByteArray) : Bool := (!s.toList.isEmpty) && (decide ((s.size : Int) ≤ 27)) && (decide (Lib.indexByte s.data.toList 0 < 0)) && (decide (Lib.indexByte s.data.toList 47 < 0))
def entry_Name.f (a0 : ByteArray) : Option (Bool) := some (nameOk a0)

set_option maxHeartbeats 400000 in
theorem entry_Name.calls (a0 : ByteArray) (r : Bool) (w : World) (h : entry_Name.f a0 = some r) :
    Calls Try.prog 10 #[.string a0] w fun e w' => e = .returned (.bool r) ∧ Drawn0 w w' := by
  obtain rfl : nameOk a0 = r := by simpa [entry_Name.f] using h
  clear h
  by_cases h1 : a0.toList = []
  · have h1' : a0.toList.isEmpty = true := by simp [h1]
    go_enter Try.func10, Try.ntmps10
    go_wp2
    go_ret
    exact ⟨by simp [nameOk, h1], Drawn0.refl w⟩
  · have h1' : a0.toList.isEmpty = false := by simpa using h1
    have h1'' : (!a0.toList.isEmpty) = true := by simp [h1']
    by_cases h2 : (a0.size : Int) ≤ 27
    · go_enter Try.func10, Try.ntmps10
      go_wp2_with (go_at_call 20; refine (Try.strings_IndexByte _ _ _).mono ?_; rintro e w' ⟨rfl, rfl⟩)
      all_goals
        go_ret
        refine ⟨ret_bool ?_, Drawn0.refl _⟩
        first
          | (have hq : Lib.indexByte a0.data.toList 0 < 0 := by assumption
             simp [nameOk, h1', h2, hq])
          | (have hq : ¬ (Lib.indexByte a0.data.toList 0 < 0) := by omega
             simp [nameOk, hq])
    · go_enter Try.func10, Try.ntmps10
      go_wp2
      go_ret
      have h2' : ¬ (a0.size : Int) ≤ 27 := by omega
      exact ⟨ret_bool (by simp [nameOk, h2']), Drawn0.refl w⟩

def entry_Pack.f (a0_0 : Int) (a0_1 : ByteArray) : Option (List Int × Int) :=
  if a0_0 = 0 ∧ a0_1.toList = [] then some (List.replicate 32 0, 0)
  else if 0 < a0_0 ∧ a0_0 < 4294967296 ∧ nameOk a0_1 = true then
    some ([a0_0 % 256, a0_0 / 256 % 256, a0_0 / 65536 % 256, a0_0 / 16777216 % 256, (a0_1.size : Int) % 256] ++ bytesOf a0_1 ++ List.replicate (27 - a0_1.size) 0, 0)
  else some ([], 1)

def Z32 : Array Value := (nums .u8 (List.replicate 32 0)).toArray
theorem make32 (w : World) : (Instr.makeSlice 23 (.int .i64 32) (.int .i64 32)).run Try.prog w = .ok (.slice (some ⟨w.heap.size, 0, none⟩) 32 32) (w.alloc (.cells Z32 5)) := by kernel_rfl

set_option maxHeartbeats 1000000 in
theorem entry_Pack.calls (a0_0 : Int) (a0_1 : ByteArray) (r1 : List Int) (r2 : Int) (w : World) (h : entry_Pack.f a0_0 a0_1 = some (r1, r2)) :
    Calls Try.prog 9 #[.agg #[.int .i64 a0_0, .string a0_1]] w fun e w' => ∃ v0_ : Value, e = .returned (.tuple #[v0_, .int .i64 r2]) ∧ Kd.R (Kd.int .u8) 5 w' w.heap.size (fun _ => True) v0_ r1 ∧ Below w.heap.size w w' := by
  have hmk := make32
  by_cases h0 : a0_0 = 0 ∧ a0_1.toList = []
  · rw [entry_Pack.f, if_pos h0] at h
    obtain ⟨rfl, rfl⟩ : List.replicate 32 0 = r1 ∧ 0 = r2 := by simpa using h
    obtain ⟨rfl, h1⟩ := h0
    have h1' : a0_1.toList.isEmpty = true := by simp [h1]
    clear h h1
    go_enter Try.func9, Try.ntmps9
    go_wp2
    go_ret2
    have hb1 := ((Below.refl w.heap.size w).alloc (Nat.le_refl _) (.cells #[.int .i64 0, .string a0_1] 28)).alloc (by simp) (.cells Z32 5)
    exact ⟨_, rfl, R_of_block (xs := List.replicate 32 0) (B := w.heap.size + 1) (by rw [← World.size_alloc w (.cells #[.int .i64 0, .string a0_1] 28)]; exact heap_alloc_new _ (.cells Z32 5)) (by omega) trivial (by simp [maxLen]), hb1⟩
  · rw [entry_Pack.f, if_neg h0] at h
    by_cases h1 : 0 < a0_0 ∧ a0_0 < 4294967296 ∧ nameOk a0_1 = true
    · rw [if_pos h1] at h
      obtain ⟨hr1, rfl⟩ : _ = r1 ∧ 0 = r2 := by simpa only [Option.some.injEq, Prod.mk.injEq] using h
      clear h
      obtain ⟨g1, g2, g3⟩ := h1
      have h2 : (a0_0 == 0) = false := by simp; omega
      have h7 : (a0_0 / 4294967296 != 0) = false := by simp; omega
      have hsz : a0_1.size ≤ 27 := by
        simp only [nameOk, Bool.and_eq_true, decide_eq_true_eq] at g3
        omega
      have HR := Lib.hid hr1
      have HN := Lib.hid g3
      clear hr1 g3 h0
      go_enter Try.func9, Try.ntmps9
      go_wp2_with (go_at_call 10; refine (entry_Name.calls _ true _ (by rw [entry_Name.f, HN.out])).mono ?_; rintro e w' ⟨rfl, hd⟩; obtain ⟨nd, rfl⟩ := hd.out)
      refine wp_loop_rounds 5 ?_
      iterate 5 (rw [rounds_succ]; go_wp2)
      refine gen_world (fun W => (∃ cur, W.heap[w.heap.size + 1]? = some (.cells cur 5 (0, 0)) ∧ cur = (nums .u8 ([a0_0 % 256, a0_0 / 256 % 256, a0_0 / 65536 % 256, a0_0 / 16777216 % 256, (a0_1.size : Int) % 256] ++ List.replicate 27 0)).toArray) ∧ W.cell? ⟨w.heap.size, 1, none⟩ = some (.string a0_1) ∧ Below w.heap.size w W) ⟨⟨_, blk_set (blk_set (blk_set (blk_set (blk_set (blk_drewN (g := w.heap.size + 1) (o := .cells Z32 5) (by rw [← World.size_alloc w (.cells #[.int .i64 a0_0, .string a0_1] 28)]; exact heap_alloc_new _ (.cells Z32 5)) nd) _ _) _ _) _ _) _ _) _ _, ?_⟩, ?_, ?_⟩ ?_
      · have e5 : (a0_1.size : Int) % 256 = a0_1.size := by omega
        rw [e5]
        simp [Z32, nums]
        omega
      · go_simp
      · exact ((((((below_drewN (((Below.refl w.heap.size w).alloc (Nat.le_refl _) (.cells #[.int .i64 a0_0, .string a0_1] 28)).alloc (by simp) (.cells Z32 5)) nd).setCell (p := ⟨w.heap.size + 1, 0, none⟩) (Nat.le_succ _) _).setCell (p := ⟨w.heap.size + 1, 1, none⟩) (Nat.le_succ _) _).setCell (p := ⟨w.heap.size + 1, 2, none⟩) (Nat.le_succ _) _).setCell (p := ⟨w.heap.size + 1, 3, none⟩) (Nat.le_succ _) _).setCell (p := ⟨w.heap.size + 1, 4, none⟩) (Nat.le_succ _) _)
      · rintro W ⟨⟨cur, hg, hcur⟩, hc, hb⟩
        go_region_held3 (fun W => W.cell? ⟨w.heap.size, 1, none⟩ = some (.string a0_1)) (first | exact hc | exact (cell_setRow_other _ _ _ _ (Nat.ne_of_lt (Nat.lt_succ_self _))).trans hc) (refine step_copy_string rfl (.tmp 51) (.tmp 53) 23 9 rfl 5 Try.underlying23 (by kernel_rfl) (w.heap.size + 1) 5 27 27 a0_1 rfl rfl cur 5 hg hsz (by rw [hcur]; simp [nums]; omega) ?_)
        go_wp2
        go_ret2
        have hr := HR.out
        have hlen : r1.length = 32 := by
          rw [← hr]
          simp [bytesOf_length]
          omega
        have hrow : (cur.toList.take 5 ++ Lib.strCells a0_1 ++ cur.toList.drop (5 + a0_1.size)).toArray = (nums .u8 r1).toArray := by
          rw [← hr, hcur]
          simp only [nums_append]
          have e1 : nums .u8 (bytesOf a0_1) = Lib.strCells a0_1 := by simp [nums, bytesOf, Lib.strCells]
          rw [e1, Nat.add_comm 5]
          simp [nums]
          show List.drop a0_1.size (List.replicate 27 (Value.int IntKind.u8 0)) = _
          rw [List.drop_replicate]
        rw [hrow]
        refine ⟨.slice (some ⟨w.heap.size + 1, 0, none⟩) 32 32, rfl, ?_, below_setRow (below_drew hb) (Nat.le_succ _) _⟩
        have := R_of_block (k := .u8) (w := W.drew.setRow (w.heap.size + 1) (nums .u8 r1).toArray) (B := w.heap.size + 1) (e := 5) (base := w.heap.size) (ok := fun _ => True) (xs := r1) (setRow_heap _ _ cur _ _ _ hg) (by omega) trivial (by rw [hlen]; simp [maxLen])
        rw [hlen] at this
        exact this
    · rw [if_neg h1] at h
      obtain ⟨rfl, rfl⟩ : [] = r1 ∧ 1 = r2 := by simpa using h
      clear h
      by_cases h2 : a0_0 = 0
      · subst h2
        have h3 : a0_1.toList.isEmpty = false := by simpa using h0
        go_enter Try.func9, Try.ntmps9
        go_wp2
        go_ret2
        have hb1 := ((Below.refl w.heap.size w).alloc (Nat.le_refl _) (.cells #[.int .i64 0, .string a0_1] 28)).alloc (by simp) (.cells Z32 5)
        exact ⟨_, rfl, Kd.R_nil _ _ _ _ _, hb1⟩
      · have h3 : (a0_0 == 0) = false := by simpa using h2
        by_cases h4 : a0_0 ≤ 0
        · go_enter Try.func9, Try.ntmps9
          go_wp2
          go_ret2
          have hb1 := ((Below.refl w.heap.size w).alloc (Nat.le_refl _) (.cells #[.int .i64 a0_0, .string a0_1] 28)).alloc (by simp) (.cells Z32 5)
          exact ⟨_, rfl, Kd.R_nil _ _ _ _ _, hb1⟩
        · by_cases h5 : a0_0 < 4294967296
          · have h6 : nameOk a0_1 = false := by simpa [h5, show 0 < a0_0 by omega] using h1
            have h7 : (a0_0 / 4294967296 != 0) = false := by simp; omega
            go_enter Try.func9, Try.ntmps9
            go_wp2_with (go_at_call 10; refine (entry_Name.calls _ false _ (by rw [entry_Name.f, h6])).mono ?_; rintro e w' ⟨rfl, hd⟩; obtain ⟨nd, rfl⟩ := hd.out)
            go_ret2
            have hb1 := below_drewN (((Below.refl w.heap.size w).alloc (Nat.le_refl _) (.cells #[.int .i64 a0_0, .string a0_1] 28)).alloc (by simp) (.cells Z32 5)) nd
            exact ⟨_, rfl, Kd.R_nil _ _ _ _ _, hb1⟩
          · have h7 : (a0_0 / 4294967296 != 0) = true := by simp; omega
            go_enter Try.func9, Try.ntmps9
            go_wp2
            go_ret2
            have hb1 := ((Below.refl w.heap.size w).alloc (Nat.le_refl _) (.cells #[.int .i64 a0_0, .string a0_1] 28)).alloc (by simp) (.cells Z32 5)
            exact ⟨_, rfl, Kd.R_nil _ _ _ _ _, hb1⟩
end Go.Proofs.Ythhhklihggpldaa.Given
