/- PatchLaps: the frame of its row: the arguments are read, the law answers true, and they read as before; no condition. -/
import Derived.Test.YtemachlhoanngaaRows
import Derived.Test.YtemachlhoanngaaPPatchLapsx
import Derived.Test.YtemachlhoanngaaPurePatchLaps
import Derived.Test.YtemachlhoanngaaTells
import Derived.WalkKit
import Derived.ProofKit
import Derived.OpenShut
import Derived.ShutString
import Derived.ChangeOld
import Derived.Below
namespace Go.Proofs.Ytemachlhoanngaa.patchLaps
open Go.ChangeShapes Go.WideShapes Go.ChangeAt Go.RowKit Go.Proofs.YtemachlhoanngaaBase Go.Proofs.YtemachlhoanngaaW.PrintWords Go.Proofs.Ytemachlhoanngaa.PPatchLaps
open Go.ChangeMaps (open_string shut_string)
set_option linter.unusedVariables false
theorem own : ownKnob Try.prog.godebug = none := by kernel_rfl
theorem laidOut : laidOutB Try.prog = true := by kernel_rfl
set_option maxRecDepth 100000 in
theorem lifted (os : Os) (started : os.Started) (H : Type) (enc : TypeId × Value → H) :
    ReturnsInHanded {} Try.checked os 3 .any (Rows.patchLapsSpec.pre6 enc Try.prog Try.f3 Rows.patchLapsRow.domain false) (Rows.patchLapsSpec.post enc Try.prog Try.f3 false true false false) := by
  refine returnsInHanded_of_change (C := Try.checked) own started (by kernel_rfl) Try.func3
    (ChangeSpec.witness6 (enc := enc) (C := Try.checked) false ⟨#[], #[.agg #[.int .i64 0, .int .i64 0, .slice none 0 0], .agg #[.int .i64 0, .int .i64 0, .slice none 0 0]], []⟩ 8 (by kernel_rfl) (by kernel_rfl) (by kernel_rfl) (by kernel_rfl)) ?_
  intro W base args ds gs before hval0 hW hcnd _
  have hval : ∀ (j : Nat) t v, Try.f3.params[j]? = some t → args[j]? = some v → Value.okWide Try.prog W .any base t v := hval0
  have hW' := hW
  obtain ⟨p, q, hA0, hV, rfl, hfz, hnd⟩ := hW
  have hA : DataW.TrodAll enc Try.prog W 0 (fun _ => true) true Try.f3.params.toList args.toList ds p := hA0
  rw [Try.params3] at hA hval
  obtain ⟨v0, vs0, d0, ds0, p0, q0, hargs, rfl, rfl, h0, r0⟩ := trodAll_cons hA
  obtain ⟨v1, vs1, d1, ds1, p1, q1, rfl, rfl, rfl, h1, r1⟩ := trodAll_cons r0
  obtain ⟨rfl, rfl, rfl⟩ := trodAll_nil r1
  obtain rfl : args = #[v0, v1] := by cases args; simp_all
  obtain ⟨rfl, rfl⟩ := trodVars_none hV
  have k0 := h0
  have lt0 : ∀ x ∈ p0, x.block < W.heap.size := by obtain ⟨m, hm⟩ := k0; exact DataW.trod_lt m _ _ _ hm
  obtain ⟨fuel0, hf0⟩ := h0
  obtain ⟨cs0, rfl, hz0⟩ := okWide_struct Try.underlying24 (hval 0 24 v0 rfl rfl)
  obtain ⟨⟨a0_0, a0_1, l0_2⟩, ⟨_, _, hcs0, rfl, _, _, rfl, rfl, ⟨A0_2, c0_2, rfl, hc0_2, hC0_2⟩⟩, ⟨w0_0, w0_1, w0_2⟩⟩ := (tells_struct3 Try.underlying24 (by kernel_rfl) rfl rfl rfl (by kernel_rfl) (by kernel_rfl) (by kernel_rfl) (tells_int Try.underlying3) (tells_int Try.underlying3) (tells_slice Try.underlying22 (by kernel_rfl) (tells_int Try.underlying5))) H enc fuel0 _ _ hf0
  obtain rfl : cs0 = #[.int .i64 a0_0, .int .i64 a0_1, .slice A0_2 l0_2.length c0_2] := by cases cs0; simpa [Value.cells] using hcs0
  have k1 := h1
  have lt1 : ∀ x ∈ p1, x.block < W.heap.size := by obtain ⟨m, hm⟩ := k1; exact DataW.trod_lt m _ _ _ hm
  obtain ⟨fuel1, hf1⟩ := h1
  obtain ⟨cs1, rfl, hz1⟩ := okWide_struct Try.underlying24 (hval 1 24 v1 rfl rfl)
  obtain ⟨⟨a1_0, a1_1, l1_2⟩, ⟨_, _, hcs1, rfl, _, _, rfl, rfl, ⟨A1_2, c1_2, rfl, hc1_2, hC1_2⟩⟩, ⟨w1_0, w1_1, w1_2⟩⟩ := (tells_struct3 Try.underlying24 (by kernel_rfl) rfl rfl rfl (by kernel_rfl) (by kernel_rfl) (by kernel_rfl) (tells_int Try.underlying3) (tells_int Try.underlying3) (tells_slice Try.underlying22 (by kernel_rfl) (tells_int Try.underlying5))) H enc fuel1 _ _ hf1
  obtain rfl : cs1 = #[.int .i64 a1_0, .int .i64 a1_1, .slice A1_2 l1_2.length c1_2] := by cases cs1; simpa [Value.cells] using hcs1
  clear hA0 hval0
  obtain ⟨k, hk⟩ := Pure.PatchLaps a0_0 a0_1 l0_2 a1_0 a1_1 l1_2 w0_0 w0_1 w0_2 w1_0 w1_1 w1_2
  refine (PPatchLaps.lockgatelaw14_PatchLaps.calls k a0_0 a0_1 A0_2 c0_2 l0_2 a1_0 a1_1 A1_2 c1_2 l1_2 true W hC0_2 hc0_2 hC1_2 hc1_2 hk).mono fun e W' ⟨he, bel0⟩ => ?_
  have bel : Below W.heap.size W W' := bel0
  subst he
  exact ⟨_, rfl, _, _, _, [], _, [], hW', trodAll_mk1 (shut_bool Try.underlying4 _), (trodAll_cons_mk (Below.trod laidOut (by kernel_rfl) (of_decide_eq_true (by kernel_rfl)) k0 bel lt0) (trodAll_cons_mk (Below.trod laidOut (by kernel_rfl) (of_decide_eq_true (by kernel_rfl)) k1 bel lt1) trodAll_mk0)), rfl, bel.frame _, fun h => by cases h⟩
theorem over : Rows.patchLapsRow.holds Try.pinned (OpenSpec.ofChange Rows.patchLapsSpec) :=
  OpenClaim.holds_of_wide 3 Try.f3 rfl rfl rfl rfl rfl rfl rfl ⟨rfl, rfl, rfl, rfl, rfl⟩ rfl rfl rfl rfl rfl (by kernel_rfl) Try.func3 (by kernel_rfl)
    (of_decide_eq_true (by kernel_rfl)) (by unfold Func.isWrapper; first | (rw [if_pos (by decide +kernel)]; kernel_rfl) | (rw [if_neg (by decide +kernel)]; exact ⟨rfl, rfl⟩))
    (fun os started H enc _ => lifted os started H enc)
theorem proved : Rows.PatchLapsSaid := over
#print axioms proved
end Go.Proofs.Ytemachlhoanngaa.patchLaps
namespace Go.Proofs.Ytemachlhoanngaa
/-- The row, under a short name, for the claim. -/
theorem patchLaps_holds : Rows.PatchLapsSaid := patchLaps.proved
end Go.Proofs.Ytemachlhoanngaa
