/- TopNames: the numbers of package api are what the document says: the law answers true; it has no arguments. -/
import Derived.Test.YtohngcnjahoghaaRows
import Derived.WalkKit
import Derived.WalkSpells
import Derived.WalkLawsBesides
import Derived.Deep.QuietTactic
import Derived.BigQuiet
import Derived.Lib.Hide
import Derived.OpenShut
namespace Go.Proofs.Ytohngcnjahoghaa
open Go.RowKit
set_option linter.unusedVariables false

set_option maxHeartbeats 1000000 in
theorem are_true (b n c : Nat) (vs : Nat → Int) (w : World) (hn : n ≤ 1000)
    (h0 : ∀ i, i < n → w.cell? ⟨b, i * 2, none⟩ = some (.int .i64 (vs i))) (h1 : ∀ i, i < n → w.cell? ⟨b, i * 2 + 1, none⟩ = some (.int .i64 (vs i))) :
    Calls Try.prog 29 #[.slice (some ⟨b, 0, none⟩) n c] w fun e w' => e = .returned (.bool true) ∧ ∃ k, w' = w.drewN k := by
  have H0 := Lib.hid h0
  have H1 := Lib.hid h1
  clear h0 h1
  go_enter Try.func29, Try.ntmps29
  go_wp2
  go_loopw [3] (fun i wr => ∃ k q : Nat, k ≤ n ∧ i = .int .i64 k ∧ wr = w.drewN q) (fun i _ => n - (intOf i).toNat)
  case atStart => exact ⟨0, 0, Nat.zero_le _, rfl, rfl⟩
  case round =>
    obtain ⟨k, q, hk, rfl, rfl⟩ := hrel
    by_cases hlt : k < n
    · have g0 : w.cell? ⟨b, k * 2, none⟩ = some (.int .i64 (vs k)) := H0.out k hlt
      have g1 : w.cell? ⟨b, k * 2 + 1, none⟩ = some (.int .i64 (vs k)) := H1.out k hlt
      go_wp2
      go_quiet (fail)
      go_wp2
      go_roundw
      case rel => exact ⟨k + 1, _, hlt, by go_num, rfl⟩
      case measure => simp [intOf]; omega
    · go_wp2
      go_ret
      exact ⟨rfl, _, rfl⟩

def firstNums : List Int := [0, 1, 2, 3, 4, 5, 10, 11, 12, 13, 14, 15, 16, 17, 18, 19, 20, 30, 512, 1024, 64, 16, 32, 32, 8, 256, 27, 500]
set_option maxRecDepth 100000 in
set_option maxHeartbeats 2000000 in
theorem first_true (w : World) : Calls Try.prog 7 #[] w fun e w' => e = .returned (.bool true) ∧ Below w.heap.size w w' := by
  go_enter Try.func7, Try.ntmps7
  go_wp2_with fail
  refine (are_true w.heap.size 28 28 (fun i => firstNums.getD i 0) _ (by omega) ?_ ?_).mono ?_
  · intro i hi
    rw [World.cell?_alloc_at _ _ _ _ rfl]
    iterate 28 (rcases i with _ | i; · rfl)
    omega
  · intro i hi
    rw [World.cell?_alloc_at _ _ _ _ rfl]
    iterate 28 (rcases i with _ | i; · rfl)
    omega
  · rintro e w' ⟨rfl, q, rfl⟩
    go_wp2
    go_ret
    exact ⟨rfl, below_drewN ((Below.refl _ w).alloc (Nat.le_refl _) _) q⟩

def secondNums : List Int := [8, 4, 1000, 65800, 67379200, 8192, 32000, 1000, 16, 262144, 8000, 1, 0, 1, 2, 1, 2, 3, 4, 5, 6, 7, 8, 9, 10, 11, 12, 13]
set_option maxRecDepth 100000 in
set_option maxHeartbeats 2000000 in
theorem second_true (w : World) : Calls Try.prog 8 #[] w fun e w' => e = .returned (.bool true) ∧ Below w.heap.size w w' := by
  go_enter Try.func8, Try.ntmps8
  go_wp2_with fail
  refine (are_true w.heap.size 28 28 (fun i => secondNums.getD i 0) _ (by omega) ?_ ?_).mono ?_
  · intro i hi
    rw [World.cell?_alloc_at _ _ _ _ rfl]
    iterate 28 (rcases i with _ | i; · rfl)
    omega
  · intro i hi
    rw [World.cell?_alloc_at _ _ _ _ rfl]
    iterate 28 (rcases i with _ | i; · rfl)
    omega
  · rintro e w' ⟨rfl, q, rfl⟩
    go_wp2
    go_ret
    exact ⟨rfl, below_drewN ((Below.refl _ w).alloc (Nat.le_refl _) _) q⟩

set_option maxHeartbeats 1000000 in
theorem names_walk (w : World) : Calls Try.prog 3 #[] w fun e w' => e = .returned (.bool true) ∧ Below w.heap.size w w' := by
  go_enter Try.func3, Try.ntmps3
  go_wp2_with (first | (go_at_call 7; refine (first_true _).mono ?_; rintro e w1 ⟨rfl, hb1⟩) | (go_at_call 8; refine (second_true _).mono ?_; rintro e w2 ⟨rfl, hb2⟩))
  go_ret
  exact ⟨rfl, hb1.trans (hb2.mono hb1.size)⟩

end Go.Proofs.Ytohngcnjahoghaa
