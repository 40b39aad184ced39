/- The draws of lots: what New, NewLot and Next do to their cell, and that LotsNext answers true; for every seed and every row of numbers. -/
import Derived.Test.YtfilblidhcnhcaaRows
import Derived.WalkKit
import Derived.WalkSpells
import Derived.WalkLawsBesides
import Derived.Deep.RegionWith
import Derived.Deep.RegionHeld3
import Derived.Deep.QuietTactic
import Derived.BigQuiet
import Derived.Deep.LoopGhost
import Derived.Lib.Hide
import Derived.OpenShut
namespace Go.Proofs.Ytfilblidhcnhcaa
open Go.RowKit
set_option linter.unusedVariables false

/-- what a seed becomes -/
def msk (s : Int) : Int := bits BinOp.and IntKind.i64 s 4294967295
def stp (s : Int) : Int := bits BinOp.and IntKind.i64 (wrap64 (wrap64 (s * 1664525) + 1013904223)) 4294967295
def drw (s n : Int) : Int := if n < 1 then 0 else (stp s / 256).tmod n

set_option maxHeartbeats 400000 in
theorem new_any (s : Int) (w : World) :
    Calls Try.prog 8 #[.int .i64 s] w fun e w' => e = .returned (.pointer (some ⟨w.heap.size, 0, none⟩)) ∧ w.alloc (.cells #[.int .i64 (msk s)] 44) = w' := by
  go_enter Try.func8, Try.ntmps8
  go_wp2
  go_ret
  exact ⟨rfl, rfl⟩
set_option maxHeartbeats 400000 in
theorem newLot_any (s : Int) (w : World) :
    Calls Try.prog 9 #[.int .i64 s] w fun e w' => e = .returned (.pointer (some ⟨w.heap.size, 0, none⟩)) ∧ w.alloc (.cells #[.int .i64 (msk s)] 46) = w' := by
  go_enter Try.func9, Try.ntmps9
  go_wp2
  go_ret
  exact ⟨rfl, rfl⟩

set_option maxHeartbeats 400000 in
theorem next_any (b : Nat) (s n : Int) (w : World) (hc : w.cell? ⟨b, 0, none⟩ = some (.int .i64 s)) (hf : w.frozen? ⟨b, 0, none⟩ = false) :
    Calls Try.prog 10 #[.pointer (some ⟨b, 0, none⟩), .int .i64 n] w fun e w' => e = .returned (.int .i64 (drw s n)) ∧ w.setCell ⟨b, 0, none⟩ (.int .i64 (stp s)) = w' := by
  by_cases hn : n < 1
  · go_enter Try.func10, Try.ntmps10
    go_wp2
    go_ret
    exact ⟨by simp [drw, hn], rfl⟩
  · go_enter Try.func10, Try.ntmps10
    go_wp2
    go_ret
    exact ⟨by rw [drw, if_neg (by omega)]; rfl, rfl⟩
set_option maxHeartbeats 400000 in
theorem rnext_any (b : Nat) (s n : Int) (w : World) (hc : w.cell? ⟨b, 0, none⟩ = some (.int .i64 s)) (hf : w.frozen? ⟨b, 0, none⟩ = false) :
    Calls Try.prog 11 #[.pointer (some ⟨b, 0, none⟩), .int .i64 n] w fun e w' => e = .returned (.int .i64 (drw s n)) ∧ w.setCell ⟨b, 0, none⟩ (.int .i64 (stp s)) = w' := by
  by_cases hn : n < 1
  · go_enter Try.func11, Try.ntmps11
    go_wp2
    go_ret
    exact ⟨by simp [drw, hn], rfl⟩
  · go_enter Try.func11, Try.ntmps11
    go_wp2
    go_ret
    exact ⟨by rw [drw, if_neg (by omega)]; rfl, rfl⟩

theorem alive_num : drw (msk 0) 256 = 243 := by decide +kernel
set_option maxHeartbeats 400000 in
theorem alive_any (w : World) :
    Calls Try.prog 7 #[] w fun e w' => e = .returned (.bool true) ∧ Below w.heap.size w w' := by
  go_enter Try.func7, Try.ntmps7
  go_wp2_with (first | (go_at_call 8; refine (new_any _ _).mono ?_; rintro e w' ⟨rfl, rfl⟩) | (go_at_call 10; refine (next_any _ (msk 0) _ _ (by simp) (by simp)).mono ?_; rintro e w' ⟨rfl, rfl⟩))
  go_ret
  exact ⟨by rw [alive_num]; rfl, (Below.refl _ _).alloc (Nat.le_refl _) _⟩

def IsRow (k : IntKind) (w : World) (a : Option Addr) (len cap : Nat) (zs : List Int) : Prop :=
  (a = none ∧ len = 0 ∧ cap = 0 ∧ zs = []) ∨
  ∃ x, a = some x ∧ len ≤ cap ∧ cap ≤ maxLen ∧ zs.length = cap ∧ (∀ i, i < zs.length → w.cell? (x.add i) = some (.int k (zs.getD i 0))) ∧ ∀ n ∈ zs, (Lit.int k n).wf = true

set_option maxHeartbeats 400000 in
theorem lotsNext_walk (a0 : Int) (a1 : Option Addr) (len1 cap1 : Nat) (z1 : List Int) (w : World) (w0 : (Lit.int .i64 a0).wf = true) (w1 : IsRow .i64 w a1 len1 cap1 z1) :
    Calls Try.prog 3 #[.int .i64 a0, .slice a1 len1 cap1] w fun e w' => e = .returned (.bool true) ∧ Below w.heap.size w w' := by
  by_cases hlen : 300 < (len1 : Int)
  · go_enter Try.func3, Try.ntmps3
    go_wp2_with (go_at_call 7; refine (alive_any _).mono ?_; rintro e w' ⟨rfl, hb⟩)
    go_ret
    exact ⟨rfl, hb⟩
  · go_enter Try.func3, Try.ntmps3
    go_wp2_with (first | (go_at_call 7; refine (alive_any _).mono ?_; rintro e w' ⟨rfl, hb⟩) | (go_at_call 8; refine (new_any _ _).mono ?_; rintro e w' ⟨rfl, rfl⟩) | (go_at_call 9; refine (newLot_any _ _).mono ?_; rintro e w' ⟨rfl, rfl⟩))
    have HB := Lib.hid hb
    clear hb
    obtain ⟨w0, hw0⟩ : ∃ w0 : World, w0 = w' := ⟨_, rfl⟩
    rw [← hw0] at HB ⊢
    have HS : w.heap.size ≤ w0.heap.size := HB.out.size
    clear hw0 w'
    go_loopw [9] (fun i wr => ∃ (k : Nat) (s t : Int), k ≤ len1 ∧ i = .int .i64 k ∧ wr.cell? ⟨w0.heap.size, 0, none⟩ = some (.int .i64 s) ∧ wr.cell? ⟨w0.heap.size + 1, 0, none⟩ = some (.int .i64 t) ∧ wr.cell? ⟨w0.heap.size + 1 + 1, 0, none⟩ = some (.int .i64 s) ∧ wr.frozen? ⟨w0.heap.size, 0, none⟩ = false ∧ wr.frozen? ⟨w0.heap.size + 1, 0, none⟩ = false ∧ wr.frozen? ⟨w0.heap.size + 1 + 1, 0, none⟩ = false ∧ Below w.heap.size w wr)
      (fun i _ => len1 - (intOf i).toNat)
    case atStart =>
      have hb3 : Below w.heap.size w _ := ((HB.out.alloc HS (.cells #[.int .i64 (msk a0)] 44)).alloc (by simp only [World.size_alloc]; omega) (.cells #[.int .i64 (msk (wrap64 (a0 + 1)))] 44)).alloc (by simp only [World.size_alloc]; omega) (.cells #[.int .i64 (msk a0)] 46)
      exact ⟨0, msk a0, msk (wrap64 (a0 + 1)), Nat.zero_le _, rfl, by go_simp, by go_simp, by go_simp, by go_simp, by go_simp, by go_simp, hb3⟩
    case round =>
      obtain ⟨k, s, t, hk, rfl, hc0, hc1, hc2, hf0, hf1, hf2, hbw⟩ := hrel
      by_cases hlt : k < len1
      · obtain ⟨x, rfl, hl1, hm1, hz1, hcell, hwf⟩ : ∃ x, a1 = some x ∧ len1 ≤ cap1 ∧ cap1 ≤ maxLen ∧ z1.length = cap1 ∧ (∀ i, i < z1.length → w.cell? (x.add i) = some (.int .i64 (z1.getD i 0))) ∧ ∀ n ∈ z1, (Lit.int .i64 n).wf = true := by
          rcases w1 with ⟨_, h, _⟩ | h
          · omega
          · exact h
        obtain ⟨xb, xo, rfl, hcell'⟩ := ints_at hcell (by omega)
        have hx0 : xb < w.heap.size := World.block_lt_of_cell? w _ (hcell' 0 (by omega))
        have hx1 : xb ≠ w0.heap.size := by omega
        have hx2 : xb ≠ w0.heap.size + 1 := by omega
        have hx3 : xb ≠ w0.heap.size + 1 + 1 := by omega
        have hx : wr.cell? ⟨xb, xo + k, none⟩ = some (.int .i64 (z1.getD k 0)) := (hbw.cell (p := ⟨xb, xo + k, none⟩) hx0).trans (hcell' k (by omega))
        have hn1 : w0.heap.size ≠ w0.heap.size + 1 := by omega
        clear hcell hwf w1
        go_wp2_with (go_at_call 10; refine (next_any _ t _ _ hc1 hf1).mono ?_; rintro e w' ⟨rfl, rfl⟩)
        have hn2 : w0.heap.size ≠ w0.heap.size + 1 + 1 := by omega
        go_region_held3 (fun W => W.cell? ⟨xb, xo + k, none⟩ = some (.int .i64 (z1.getD k 0))) (go_simp)
          (first | (go_at_call 10; refine (next_any _ s _ _ ?_ ?_).mono ?_; (focus (go_simp; done)); (focus (go_simp; done)); rintro e w' ⟨rfl, rfl⟩) | (go_at_call 11; refine (rnext_any _ s _ _ ?_ ?_).mono ?_; (focus (go_simp; done)); (focus (go_simp; done)); rintro e w' ⟨rfl, rfl⟩))
        go_wp2
        go_roundw
        case rel =>
          have hb3 : Below w.heap.size w _ := ((hbw.setCell (p := ⟨w0.heap.size + 1, 0, none⟩) (by simp only; omega) (.int .i64 (stp t))).drew.setCell (p := ⟨w0.heap.size, 0, none⟩) HS (.int .i64 (stp s))).setCell (p := ⟨w0.heap.size + 1 + 1, 0, none⟩) (by simp only; omega) (.int .i64 (stp s))
          exact ⟨k + 1, stp s, stp t, hlt, by go_num, by go_simp, by go_simp, by go_simp, by go_simp, by go_simp, by go_simp, hb3⟩
        case measure => simp [intOf]; omega
      · go_wp2
        go_ret
        exact ⟨rfl, hbw⟩

end Go.Proofs.Ytfilblidhcnhcaa
