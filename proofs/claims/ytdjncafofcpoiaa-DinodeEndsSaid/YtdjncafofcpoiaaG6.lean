/- lockgatelaw5's example: it holds. -/
import Derived.Test.YtdjncafofcpoiaaG5
namespace Go.Proofs.Ytdjncafofcpoiaa.Given
open Go.RowKit Go.Proofs.YtdjncafofcpoiaaW.PrintWords Go.Proofs.YtdjncafofcpoiaaW.PrintLast Go.Proofs.YtdjncafofcpoiaaW.PrintMore Go.Proofs.YtdjncafofcpoiaaBase Go.Proofs.Ytdjncafofcpoiaa.PDFns Go.Proofs.Ytdjncafofcpoiaa.PEqual
set_option linter.unusedVariables false
set_option linter.unusedSimpArgs false
attribute [local go_sem ↓] zero24 build24

theorem Read_any (A0 : Option Addr) (c0 n : Nat) (l : List Int) (w : World) (hl : l.length = n) (hC : Kd.C (Kd.int .u8) w A0 n l) (hc : n ≤ c0) (hb : Bytes l) : Calls Try.prog 12 #[.slice A0 n c0] w (ReadP l w) := by
  by_cases h : n = 64
  · subst h; exact Read_long A0 c0 l w hC hc hb hl
  · subst hl; exact Read_short A0 c0 l w h
theorem Read_yes (A0 : Option Addr) (c0 n : Nat) (l : List Int) (w : World) (x : Ino) (hl : l.length = n) (hC : Kd.C (Kd.int .u8) w A0 n l) (hc : n ≤ c0) (hb : Bytes l) (hx : isI l = true) (he : readI l = x) : Calls Try.prog 12 #[.slice A0 n c0] w fun e w' => e = .returned (.tuple #[.agg x.cells, .int .i64 0]) ∧ Below w.heap.size w w' := by
  refine (Read_any A0 c0 n l w hl hC hc hb).mono ?_
  rintro e w' ⟨rfl, h⟩
  rw [hx, ← he]
  exact ⟨rfl, h⟩
theorem Read_no (A0 : Option Addr) (c0 n : Nat) (l : List Int) (w : World) (hl : l.length = n) (hC : Kd.C (Kd.int .u8) w A0 n l) (hc : n ≤ c0) (hb : Bytes l) (hx : isI l = false) : Calls Try.prog 12 #[.slice A0 n c0] w fun e w' => e = .returned (.tuple #[.agg Ino.zero.cells, .int .i64 5]) ∧ Below w.heap.size w w' := by
  refine (Read_any A0 c0 n l w hl hC hc hb).mono ?_
  rintro e w' ⟨rfl, h⟩
  rw [hx]
  exact ⟨rfl, h⟩
theorem isI_zeros : isI (List.replicate 64 0) = true := by decide +kernel
theorem isI_one : isI ((List.replicate 64 0).set 60 1) = false := by decide +kernel
theorem readI_zeros : readI (List.replicate 64 0) = Ino.zero := by decide +kernel
theorem zeros_rng : Bytes (List.replicate 64 0) := by
  intro x hx
  have := (List.mem_replicate.1 hx).2
  omega
def Z64 : Array Value := madeCells #[.int .u8 0] (64 * 1)
theorem made_nums (v : Value) (n : Nat) : (madeCells #[v] n).toList = List.replicate n v := by
  have h : ∀ i : Nat, (#[v])[i % (#[v] : Array Value).size]! = v := fun i => by simp [Nat.mod_one]
  unfold madeCells
  rw [Array.toList_map, List.eq_replicate_iff]
  refine ⟨by simp, fun b hb => ?_⟩
  obtain ⟨i, _, rfl⟩ := List.mem_map.1 hb
  exact h i
theorem Z64_nums : Z64 = (nums .u8 (List.replicate 64 0)).toArray := by
  apply Array.ext'
  unfold Z64
  rw [made_nums, nums, List.map_replicate]
theorem make64 (w : World) : (Instr.makeSlice 26 (.int .i64 64) (.int .i64 64)).run Try.prog w = .ok (.slice (some ⟨w.heap.size, 0, none⟩) 64 64) (w.alloc (.cells Z64 5)) := by
  obtain ⟨i0, hi, hzz⟩ := Option.map_eq_some_iff.1 info5
  simp only [Prod.mk.injEq] at hzz
  obtain ⟨hz0, hz1, hz2⟩ := hzz
  have := run_make (P := Try.prog) w 26 5 i0 (.int .u8 0) Try.underlying26 hi hz0 .i64 .i64 64 64 (by decide) (by decide) (by rw [hz2]; decide) (by decide)
  rw [hz1] at this
  exact this
theorem R_made64 {w : World} (h : World) (hw : w.heap[h.heap.size]? = some (.cells Z64 5)) : Kd.R (Kd.int .u8) 5 w h.heap.size (fun _ => True) (.slice (some ⟨h.heap.size, 0, none⟩) 64 64) (List.replicate 64 0) := by
  rw [Z64_nums] at hw
  have := R_of_block (k := .u8) (w := w) (B := h.heap.size) (e := 5) (base := h.heap.size) (ok := fun _ => True) (xs := List.replicate 64 0) hw (Nat.le_refl _) trivial (by simp [maxLen])
  rwa [List.length_replicate] at this

def lockgatelaw5_alive.f : Option Bool := some true
set_option maxRecDepth 100000 in
set_option maxHeartbeats 2000000 in
theorem lockgatelaw5_alive.calls (r : Bool) (w : World) (h : lockgatelaw5_alive.f = some r) : Calls Try.prog 8 #[] w fun e w' => e = .returned (.bool r) ∧ Below w.heap.size w w' := by
  obtain rfl : true = r := Option.some.inj h
  clear h
  have hmk := make64
  have HR0 := Lib.hid (R_made64 (w := w.alloc (.cells Z64 5)) w (blk_new w _))
  have HBW0 := Lib.hid (below_alloc (Below.refl w.heap.size w) (.cells Z64 5))
  go_enter Try.func8, Try.ntmps8
  go_upto_region 3 with (go_at_call 12; refine (Read_yes (some ⟨w.heap.size, 0, none⟩) 64 64 (List.replicate 64 0) (w.alloc (.cells Z64 5)) Ino.zero rfl (Kd.R_reads' HR0.out).2.2 (by decide) zeros_rng isI_zeros readI_zeros).mono ?_; rintro e w1 ⟨rfl, hb1⟩)
  obtain ⟨B, hBB⟩ : ∃ B, B = w.heap.size := ⟨_, rfl⟩
  obtain ⟨B1, hB1⟩ : ∃ B1, B1 = w1.heap.size := ⟨_, rfl⟩
  have hk1 : w1.heap[w.heap.size]? = some (.cells Z64 5) := (hb1.block _ (by simp)).trans (blk_new w _)
  refine gen_world (fun V => V.heap[w.heap.size]? = some (.cells Z64 5) ∧ V.heap[w1.heap.size]? = some (.cells Ino.zero.cells 24) ∧ Below w.heap.size w V) ⟨blk_alloc hk1 _, blk_new w1 _, (HBW0.out.trans (hb1.mono HBW0.out.size)).alloc (Nat.le_trans HBW0.out.size hb1.size) _⟩ ?_
  rintro V ⟨hV, hV1, hVB⟩
  have hlt01 : B < B1 := by rw [hBB, hB1]; exact blk_lt hk1
  have hle : w.heap.size ≤ B := by omega
  rw [← hBB] at hV ⊢
  rw [← hB1] at hV1 ⊢
  have HBB := Lib.hid hBB
  have hcell : V.cell? ⟨B, 60, none⟩ = some (.int .u8 0) := by rw [blk_cell hV, Z64_nums]; rfl
  have hfr : V.frozen? ⟨B, 60, none⟩ = false := blk_frozen hV 60
  have HS := Lib.hid (blk_set hV 60 (.int .u8 1))
  have HS1 := Lib.hid (blk_far hV1 (p := ⟨B, 60, none⟩) (by simp only; omega) (.int .u8 1))
  have HSB := Lib.hid (hVB.setCell (p := ⟨B, 60, none⟩) hle (.int .u8 1))
  have HZ : Hid (Z64.setIfInBounds 60 (.int .u8 1) = (nums .u8 ((List.replicate 64 0).set 60 1)).toArray) := Lib.hid (by rw [Z64_nums]; rfl)
  have HRR : Hid (Kd.R (Kd.int .u8) 5 (V.setCell ⟨B, 60, none⟩ (.int .u8 1)) w.heap.size (fun _ => True) (.slice (some ⟨B, 0, none⟩) 64 64) ((List.replicate 64 0).set 60 1)) := Lib.hid (by
    have h := HS.out
    rw [HZ.out] at h
    have := R_of_block (k := .u8) (w := V.setCell ⟨B, 60, none⟩ (.int .u8 1)) (B := B) (e := 5) (base := w.heap.size) (ok := fun _ => True) (xs := (List.replicate 64 0).set 60 1) h hle trivial (by simp [maxLen])
    rwa [show ((List.replicate 64 (0 : Int)).set 60 1).length = 64 from by simp] at this)
  have HBY : Hid (Bytes ((List.replicate 64 0).set 60 1)) := Lib.hid (fun x hx => by
    rcases List.mem_or_eq_of_mem_set hx with h | h
    · exact zeros_rng x h
    · omega)
  clear hBB hB1 hk1 hb1 hV hV1 hVB HR0 HBW0
  go_wp2_with (first
    | (go_at_call 12; refine (Read_no (some ⟨B, 0, none⟩) 64 64 ((List.replicate 64 0).set 60 1) _ (by simp) (Kd.R_reads' HRR.out).2.2 (by decide) HBY.out isI_one).mono ?_; rintro e w2 ⟨rfl, hb2⟩; have h2 := (blk_cell (blk_below HS1.out hb2) 0).trans rfl; have hlt2 : B1 < w2.heap.size := blk_lt (blk_below HS1.out hb2); have HB2 := Lib.hid (HSB.out.trans (hb2.mono HSB.out.size)); clear hb2)
    | (go_at_call 11; refine (lockgatelaw5_num.calls 0 0 _ rfl).mono ?_; rintro e w3 ⟨rfl, hd⟩; obtain ⟨nd, rfl⟩ := hd.out; clear hd)
    | (go_at_call 11; refine (lockgatelaw5_num.calls 5 5 _ rfl).mono ?_; rintro e w3 ⟨rfl, hd⟩; obtain ⟨ne, rfl⟩ := hd.out; clear hd))
  go_ret
  exact ⟨rfl, by repeat (first | exact HB2.out | apply pw_below_drewN | apply below_alloc)⟩
end Go.Proofs.Ytdjncafofcpoiaa.Given
