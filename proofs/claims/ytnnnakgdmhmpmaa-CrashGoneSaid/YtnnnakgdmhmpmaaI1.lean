/- crash.block: a block's bytes as a string; the kinds of keys; the state of a Watch in memory. -/
import Derived.Test.YtnnnakgdmhmpmaaKinds
import Derived.Test.YtnnnakgdmhmpmaaCopyHead
import Derived.Test.YtnnnakgdmhmpmaaMaps
import Derived.Test.YtnnnakgdmhmpmaaOff
import Derived.Test.YtnnnakgdmhmpmaaSteps
import Derived.Lib.Hide
import Derived.LoopTactic
import Derived.Outline
namespace Go.Proofs.Ytnnnakgdmhmpmaa.Given
open Go.RowKit Go.Proofs.YtnnnakgdmhmpmaaW.PrintWords Go.Proofs.YtnnnakgdmhmpmaaW.PrintLast Go.Proofs.YtnnnakgdmhmpmaaW.PrintMore Go.Proofs.YtnnnakgdmhmpmaaBase
open Go.Maps (Keyed)
set_option linter.unusedVariables false
set_option linter.unusedSimpArgs false

theorem info5 : (Try.prog.info? 5).map (fun i => (i.zero, i.size, i.bytes)) = some (some (.int .u8 0), 1, 1) := by kernel_rfl
def Z1024 : Array Value := madeCells #[.int .u8 0] (1024 * 1)
theorem make1024 (w : World) : (Instr.makeSlice 36 (.int .i64 1024) (.int .i64 1024)).run Try.prog w = .ok (.slice (some ⟨w.heap.size, 0, none⟩) 1024 1024) (w.alloc (.cells Z1024 5)) := by
  obtain ⟨i0, hi, hzz⟩ := Option.map_eq_some_iff.1 info5
  simp only [Prod.mk.injEq] at hzz
  obtain ⟨hz0, hz1, hz2⟩ := hzz
  have := run_make (P := Try.prog) w 36 5 i0 (.int .u8 0) Try.underlying36 hi hz0 .i64 .i64 1024 1024 (by decide) (by decide) (by rw [hz2]; decide) (by decide)
  rw [hz1] at this
  exact this
def zeros : List Int := List.replicate 1024 0
theorem zeros_len : zeros.length = 1024 := by unfold zeros; exact List.length_replicate
theorem made_R (w : World) (base : Nat) (hb : base ≤ w.heap.size) : Kd.R (Kd.int .u8) 5 (w.alloc (.cells Z1024 5)) base (fun k => k = w.heap.size) (.slice (some ⟨w.heap.size, 0, none⟩) 1024 1024) zeros := by
  refine Kd.R_of_own ?_ (fun k hk => by simp only [Value.ownBlock, Option.some.injEq] at hk; exact hk.symm)
  have := own_made' w base 5 .u8 1024 hb (by omega)
  exact this
/-- a block's bytes: as many as there is room for, noughts behind them -/
def blkL (xs : List Int) : List Int := xs.take 1024 ++ zeros.drop xs.length
def blk (xs : List Int) : ByteArray := strOfNums (blkL xs)
theorem blkL_len (xs : List Int) : (blkL xs).length = 1024 := by
  unfold blkL
  rw [List.length_append, List.length_take, List.length_drop, zeros_len]
  omega

set_option maxRecDepth 100000 in
set_option maxHeartbeats 1000000 in
theorem block_calls (A : Option Addr) (c : Nat) (xs : List Int) (w : World) (hC : Kd.C (Kd.int .u8) w A xs.length xs) (hl : xs.length ≤ 9223372036854775807) :
    Calls Try.prog 14 #[.slice A xs.length c] w fun e w' => e = .returned (.string (blk xs)) ∧ Below w.heap.size w w' := by
  have hmk := make1024
  have hR := made_R w w.heap.size (Nat.le_refl _)
  have hC1 := Kd.C_below hC (below_alloc (Below.refl _ _) (.cells Z1024 5))
  obtain ⟨W', hcp, hR', hg⟩ := copy_head (P := Try.prog) (dT := 36) (sT := 36) (ty := 3) Try.underlying36 (by kernel_rfl) (zs := zeros) (by rw [zeros_len]; exact hR) (cm := c) hC1
  rw [zeros_len] at hcp hR' hg
  have hcv := own_string (P := Try.prog) (src := 36) (dst := 9) (e := 5) Try.underlying36 Try.underlying5 Try.underlying9 (Kd.own_of_R hR')
  have hb : Below w.heap.size w W' := (below_alloc (Below.refl _ _) (.cells Z1024 5)).grown hg (by simp) (fun k hk => by simp only [Value.ownBlock, Option.some.injEq] at hk; omega)
  have HB := Lib.hid hb
  have HR := Lib.hid hR'
  clear hb hR' hR hC hC1 hg
  go_enter Try.func14, Try.ntmps14
  go_wp2
  go_ret
  exact ⟨rfl, HB.out⟩
end Go.Proofs.Ytnnnakgdmhmpmaa.Given
