/- A row of changes of one's own: the last one's bytes grow by one; a change of one byte is put behind; and what patch.Diff tells. -/
import Derived.Test.YtemachlhoanngaaKinds
import Derived.Test.YtemachlhoanngaaBaseIn
import Derived.Lib.Hide
namespace Go.Proofs.Ytemachlhoanngaa.Given
open Go.RowKit Go.Proofs.YtemachlhoanngaaW.PrintWords Go.Proofs.YtemachlhoanngaaW.PrintLast Go.Proofs.YtemachlhoanngaaBase
set_option linter.unusedVariables false
set_option linter.unusedSimpArgs false

theorem info5d : (Try.prog.info? 5).map (fun i => (i.zero, i.size, i.bytes)) = some (some (.int .u8 0), 1, 1) := by kernel_rfl
theorem info24 : (Try.prog.info? 24).map (fun i => (i.zero, i.size, i.bytes)) = some (some (.agg #[.int .i64 0, .int .i64 0, .slice none 0 0]), 3, 40) := by kernel_rfl

/-- an element of a row of changes: where its bytes stand, and what the row is when they are others -/
theorem S_last {w W : World} {v : Value} {xs : List S24} (hS : Kd.S k24 24 W w.heap.size (fun _ => True) v xs) (j : Nat) (hj : j < xs.length) :
    ∃ (go co : Nat) (A2 : Option Addr) (c2 : Nat) (oki : Nat → Prop), v = .slice (some ⟨go, 0, none⟩) xs.length co ∧ w.heap.size ≤ go ∧ go < W.heap.size ∧
      W.cell? ⟨go, j * 3 + 2, none⟩ = some (.slice A2 (rd_T24 xs j).f2.length c2) ∧ Kd.R (Kd.int .u8) 5 W w.heap.size oki (.slice A2 (rd_T24 xs j).f2.length c2) (rd_T24 xs j).f2 ∧
      some go ≠ (Value.slice A2 (rd_T24 xs j).f2.length c2).ownBlock ∧
      ∀ (W1 : World) (v1 : Value) (y : List Int), Kd.R (Kd.int .u8) 5 W1 w.heap.size (fun k => oki k ∨ True ∧ W.heap.size ≤ k) v1 y → W.grownBy W1 (Value.slice A2 (rd_T24 xs j).f2.length c2).ownBlock →
        W1.frozen? ⟨go, j * 3 + 2, none⟩ = false ∧ (∃ u, W1.cell? ⟨go, j * 3 + 2, none⟩ = some u) ∧ Kd.S k24 24 (W1.setCell ⟨go, j * 3 + 2, none⟩ v1) w.heap.size (fun _ => True) v (xs.set j ⟨(rd_T24 xs j).f0, (rd_T24 xs j).f1, y⟩) := by
  obtain ⟨Ao, co, rfl⟩ := Kd.S_slice hS
  obtain ⟨ad, A2, c2, e, _, _, hx2, hl2, _⟩ := at_T24 (Kd.S_reads' hS).2.2 (j : Int) (by omega) (by omega)
  subst e
  obtain ⟨go, co', eo, gb, gl, cl, HG⟩ := Kd.S_form hS (by omega)
  injection eo with ea en ec
  injection ea with ea
  subst ea ec
  obtain ⟨oki, ce, hcl, hM, hcc, _, hne, hH⟩ := Kd.S_elem hS z24 (j : Int) (by omega) (by omega)
  obtain ⟨ve, rfl, ge⟩ := k24_openM hM
  have hv := hcc 2 _ rfl
  simp only [Int.toNat_natCast] at hv hx2 ge hcc
  rw [add_plain] at hx2
  rw [show (k24).sz = 3 from rfl] at hv
  have hva := Option.some.inj (hv.symm.trans hx2)
  subst hva
  have hUU : Kd.R (Kd.int .u8) 5 W w.heap.size oki (.slice A2 (rd_T24 xs (j : Int)).f2.length c2) (rd_T24 xs (j : Int)).f2 := ge
  have hown : some go ≠ (Value.slice A2 (rd_T24 xs (j : Int)).f2.length c2).ownBlock := fun e => (hne _ (hUU.1 _ e.symm)).2 rfl
  have hlt : go < W.heap.size := gl
  refine ⟨go, co, A2, c2, oki, rfl, gb, hlt, ?_, hUU, hown, ?_⟩
  · exact hx2
  intro W1 v1 y hy hg
  have hH1 := Kd.H_grown (Kd.H_widen hH) hg (fun k e => .inl (hUU.1 k e))
  obtain ⟨_, _, hraw, _, _, hcc1, _⟩ := Kd.H_raw hH1 (by omega) (by omega)
  obtain ⟨_, hfr⟩ := Kd.H_at hH1 (by omega) (by omega)
  have hx := hcc1 2 _ rfl
  have hf := hfr 2
  have HP := Kd.S_seg0 hH1 (by omega) (by omega) (seg := [v1]) (j := 2) (show 3 ≤ 3 from by decide) (x' := (⟨(rd_T24 xs (j : Int)).f0, (rd_T24 xs (j : Int)).f1, y⟩ : S24)) (k24_mkM _ _ _ (⟨(rd_T24 xs (j : Int)).f0, (rd_T24 xs (j : Int)).f1, y⟩ : S24) hy) (fun _ hk => hk)
  rw [show (k24).sz = 3 from rfl] at hx hf
  exact ⟨hf, ⟨_, hx⟩, HP.1⟩
end Go.Proofs.Ytemachlhoanngaa.Given
