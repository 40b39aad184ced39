/- patch.Diff at the example of the document; the law's alive. -/
import Derived.Test.YtemachlhoanngaaBase
import Derived.Test.YtemachlhoanngaaProg
import Derived.Below
import Derived.Deep.Draws
import Derived.Deep.AppendLies
import Derived.Maps.AppendAt
import Derived.OwnWalk
import Derived.Laws.BytesArg
import Derived.Laws.MakeOwn
import Derived.Laws.OwnMore
import Derived.Deep.OwnRows
import Derived.Tactics
import Derived.Lib.ConvBytes
import Derived.Laws.Slices
import Derived.WalkKit
import Derived.KernelRfl
import Derived.RowKit3
import Derived.Deep.LoopGhost
import Derived.Deep.QuietTactic
import Derived.BigQuiet
import Derived.WideLaws
import Derived.Deep.DeepCutAuto
import Derived.Deep.CutBlock
import Derived.Deep.RegionHeld3
import Derived.Laws.Rows
import Derived.Lib.AppendStr
import Derived.ArgAppend
import Derived.Laws.IdiomCopy
import Derived.OrdersHeld
import Derived.Laws.BitsLemmas
import Derived.RowKit
import Derived.Test.YtemachlhoanngaaWWords
import Derived.Test.YtemachlhoanngaaWLast
import Derived.Test.YtemachlhoanngaaWTab
import Derived.Test.YtemachlhoanngaaWFour
import Derived.Test.YtemachlhoanngaaWQPut
import Derived.Test.YtemachlhoanngaaWApart
import Derived.Test.YtemachlhoanngaaWArr
import Derived.Test.YtemachlhoanngaaWZeros
import Derived.Test.YtemachlhoanngaaWFoot
import Derived.Test.YtemachlhoanngaaWKept
import Derived.Test.YtemachlhoanngaaWShare
import Derived.Test.YtemachlhoanngaaWN
import Derived.Test.YtemachlhoanngaaWFootNe
import Derived.Test.YtemachlhoanngaaWAt
import Derived.Test.YtemachlhoanngaaWEqStruct
import Derived.Test.YtemachlhoanngaaWRepsOne
import Derived.Test.YtemachlhoanngaaWInv
import Derived.Test.YtemachlhoanngaaWInvWords
import Derived.Test.YtemachlhoanngaaWGuard
import Derived.Test.YtemachlhoanngaaWNEv
import Derived.Test.YtemachlhoanngaaWMore
import Derived.Lib.Hide
namespace Go.Proofs.Ytemachlhoanngaa.Given
open Go.RowKit Go.Proofs.YtemachlhoanngaaW.PrintWords Go.Proofs.YtemachlhoanngaaBase
set_option linter.unusedVariables false
set_option linter.unusedSimpArgs false
set_option maxRecDepth 100000 in
set_option maxHeartbeats 1000000 in
theorem diff_ex (w : World) (B1 B2 : Nat) (h1 : w.heap[B1]? = some (.cells #[.int .u8 1, .int .u8 2, .int .u8 3, .int .u8 4] 5)) (h2 : w.heap[B2]? = some (.cells #[.int .u8 1, .int .u8 5, .int .u8 6, .int .u8 4] 5)) :
    Calls Try.prog 12 #[.slice (some ⟨B1, 0, none⟩) 4 4, .slice (some ⟨B2, 0, none⟩) 4 4] w fun e w' => ∃ c g N cc, e = .returned (.slice (some ⟨g, 0, none⟩) 1 c) ∧ w'.cell? ⟨g, 0, none⟩ = some (.int .i64 0) ∧ w'.cell? ⟨g, 1, none⟩ = some (.int .i64 1) ∧ w'.cell? ⟨g, 2, none⟩ = some (.slice (some ⟨N, 0, none⟩) 2 cc) ∧ w'.cell? ⟨N, 0, none⟩ = some (.int .u8 5) ∧ w'.cell? ⟨N, 1, none⟩ = some (.int .u8 6) ∧ Below w.heap.size w w' := by
  have c0 : w.cell? ⟨B1, 0, none⟩ = some (.int .u8 1) := (blk_cell h1 0).trans rfl
  have c1 : w.cell? ⟨B1, 1, none⟩ = some (.int .u8 2) := (blk_cell h1 1).trans rfl
  have c2 : w.cell? ⟨B1, 2, none⟩ = some (.int .u8 3) := (blk_cell h1 2).trans rfl
  have c3 : w.cell? ⟨B1, 3, none⟩ = some (.int .u8 4) := (blk_cell h1 3).trans rfl
  have d0 : w.cell? ⟨B2, 0, none⟩ = some (.int .u8 1) := (blk_cell h2 0).trans rfl
  have d1 : w.cell? ⟨B2, 1, none⟩ = some (.int .u8 5) := (blk_cell h2 1).trans rfl
  have d2 : w.cell? ⟨B2, 2, none⟩ = some (.int .u8 6) := (blk_cell h2 2).trans rfl
  have d3 : w.cell? ⟨B2, 3, none⟩ = some (.int .u8 4) := (blk_cell h2 3).trans rfl
  have l1 : B1 < w.heap.size := blk_lt h1
  have l2 : B2 < w.heap.size := blk_lt h2
  go_enter Try.func12, Try.ntmps12
  go_wp2
  refine wp_loop_rounds 5 ?_
  rw [rounds_succ]; go_wp2; go_region; go_wp2
  rw [rounds_succ]; go_wp2; go_region; go_wp2
  refine gen_world (fun W => W.heap[w.heap.size]? = some (.cells #[.int .u8 5] 5) ∧ (∃ n cs, n = w.heap.size + 2 ∧ W.heap[n]? = some (.cells (#[.int .i64 0, .int .i64 1, .slice (some ⟨w.heap.size, 0, none⟩) 1 1] ++ cs) 24)) ∧ Below w.heap.size w W) ⟨?_, ?_, ?_⟩ ?_
  · exact blk_drew (blk_drew (blk_drew (blk_alloc (blk_alloc (blk_new _ _) _) _)))
  · exact ⟨_, _, by simp, blk_drew (blk_drew (blk_drew (blk_new _ _)))⟩
  · exact below_drew (below_drew (below_drew ((((Below.refl _ w).alloc (Nat.le_refl _) _).alloc (by simp) _).alloc (by simp; omega) _)))
  · rintro W ⟨k1, ⟨n, cs, rfl, k2⟩, hb⟩
    have e1 := (hb.block B1 l1).trans h1
    have e2 := (hb.block B2 l2).trans h2
    have c2 : W.cell? ⟨B1, 2, none⟩ = some (.int .u8 3) := (blk_cell e1 2).trans rfl
    have c3 : W.cell? ⟨B1, 3, none⟩ = some (.int .u8 4) := (blk_cell e1 3).trans rfl
    have d2 : W.cell? ⟨B2, 2, none⟩ = some (.int .u8 6) := (blk_cell e2 2).trans rfl
    have d3 : W.cell? ⟨B2, 3, none⟩ = some (.int .u8 4) := (blk_cell e2 3).trans rfl
    have f0 : W.cell? ⟨w.heap.size + 1 + 1, 2, none⟩ = some (.slice (some ⟨w.heap.size, 0, none⟩) 1 1) := (blk_cell k2 2).trans ((Array.getElem?_append_left (by simp)).trans rfl)
    have f1 : W.cell? ⟨w.heap.size, 0, none⟩ = some (.int .u8 5) := (blk_cell k1 0).trans rfl
    have hcap : ¬ (281474976710656 < Builtin.nextslicecap 2 1 * Try.t5.bytes) := by decide
    have ne4 : w.heap.size + 1 ≠ W.heap.size := by have := blk_lt k2; omega
    have ne5 : w.heap.size + 1 + 1 ≠ W.heap.size + 1 := by have := blk_lt k2; omega
    have ne6 : W.heap.size ≠ w.heap.size + 1 := by have := blk_lt k2; omega
    have ne7 : W.heap.size ≠ w.heap.size + 1 + 1 := by have := blk_lt k2; omega
    have z0 : W.frozen? ⟨w.heap.size + 1 + 1, 2, none⟩ = false := blk_frozen k2 2
    have z1 : W.frozen? ⟨w.heap.size, 0, none⟩ = false := blk_frozen k1 0
    have lt1 : w.heap.size < W.heap.size := blk_lt k1
    have lt2 : w.heap.size + 1 + 1 < W.heap.size := blk_lt k2
    have ne1 : w.heap.size ≠ W.heap.size := by omega
    have ne2 : W.heap.size ≠ w.heap.size := by omega
    have ne3 : w.heap.size + 1 + 1 ≠ W.heap.size := by omega
    have ff : ∀ X Y, ((W.alloc X).alloc Y).cell? ⟨w.heap.size + 1 + 1, 2, none⟩ = some (.slice (some ⟨w.heap.size, 0, none⟩) 1 1) := fun X Y => (blk_cell (blk_alloc (blk_alloc k2 X) Y) 2).trans ((Array.getElem?_append_left (by simp)).trans rfl)
    have fz : ∀ X Y, ((W.alloc X).alloc Y).frozen? ⟨w.heap.size + 1 + 1, 2, none⟩ = false := fun X Y => blk_frozen (blk_alloc (blk_alloc k2 X) Y) 2
    go_wp2; go_region; go_wp2
    go_region
    go_wp2
    refine gen_world (fun V => (∃ N cc, V.cell? ⟨w.heap.size + 1 + 1, 0, none⟩ = some (.int .i64 0) ∧ V.cell? ⟨w.heap.size + 1 + 1, 1, none⟩ = some (.int .i64 1) ∧ V.cell? ⟨w.heap.size + 1 + 1, 2, none⟩ = some (.slice (some ⟨N, 0, none⟩) 2 cc) ∧ V.cell? ⟨N, 0, none⟩ = some (.int .u8 5) ∧ V.cell? ⟨N, 1, none⟩ = some (.int .u8 6)) ∧ Below w.heap.size w V) ⟨⟨W.heap.size + 1, ?cc, ?x0, ?x1, ?x2, ?x3, ?x4⟩, ?xb⟩ ?rest
    case x2 =>
      show (World.setCell ((W.alloc _).alloc _) _ _).cell? _ = _
      exact World.cell?_setCell_same _ _ _ (ff _ _)
    case x0 =>
      show (World.setCell ((W.alloc _).alloc _) _ _).cell? _ = _
      rw [World.cell?_setCell_other _ _ _ _ (by simp)]
      exact (blk_cell (blk_alloc (blk_alloc k2 _) _) 0).trans ((Array.getElem?_append_left (by simp)).trans rfl)
    case x1 =>
      show (World.setCell ((W.alloc _).alloc _) _ _).cell? _ = _
      rw [World.cell?_setCell_other _ _ _ _ (by simp)]
      exact (blk_cell (blk_alloc (blk_alloc k2 _) _) 1).trans ((Array.getElem?_append_left (by simp)).trans rfl)
    case x3 => go_simp; exact (Array.getElem?_append_left (by simp)).trans rfl
    case x4 => go_simp; exact (Array.getElem?_append_left (by simp)).trans rfl
    case xb => exact below_drew (below_drew (below_drew (((hb.alloc (by omega) _).alloc (by simp; omega) _).setCell (p := ⟨w.heap.size + 1 + 1, 2, none⟩) (by simp only; omega) _)))
    case rest =>
      clear ff fz f0 f1 z0 z1 c2 c3 d2 d3 e1 e2
      rintro V ⟨⟨N, cc, q0, q1, q2, q3, q4⟩, hb2⟩
      have e1 := (hb2.block B1 l1).trans h1
      have e2 := (hb2.block B2 l2).trans h2
      have c3 : V.cell? ⟨B1, 3, none⟩ = some (.int .u8 4) := (blk_cell e1 3).trans rfl
      have d3 : V.cell? ⟨B2, 3, none⟩ = some (.int .u8 4) := (blk_cell e2 3).trans rfl
      go_wp2
      go_region
      go_wp2
      rw [rounds_succ]
      go_wp2
      go_ret
      exact ⟨_, _, _, _, rfl, q0, q1, q2, q3, q4, below_drew hb2⟩

def lockgatelaw14_alive.f : Option (Bool) := some true
set_option maxRecDepth 100000 in
set_option maxHeartbeats 1000000 in
theorem lockgatelaw14_alive.calls (r : Bool) (w : World) (h : lockgatelaw14_alive.f = some r) :
    Calls Try.prog 9 #[] w fun e w' => e = .returned (.bool r) ∧ Below w.heap.size w w' := by
  obtain rfl := Option.some.inj h
  clear h
  go_enter Try.func9, Try.ntmps9
  have hn2 : ∀ (A B : Obj), ((w.alloc A).alloc B).heap[w.heap.size + 1]? = some B := fun A B => by
    have := blk_new (w.alloc A) B
    rwa [World.size_alloc] at this
  go_wp2_with (go_at_call 12; refine (diff_ex _ w.heap.size (w.heap.size + 1) (blk_alloc (blk_new w _) _) (hn2 _ _)).mono ?_; rintro e w' ⟨c, g, N, cc, rfl, q0, q1, q2, q3, q4, hb⟩; have hconv := run_convert_bytes_back (P := Try.prog) w' 22 9 5 ⟨N, 0, none⟩ cc [5, 6] Try.underlying22 Try.underlying5 Try.underlying9 (by intro j hj; match j, hj with | 0, _ => exact q3 | 1, _ => exact q4); simp only [List.length_cons, List.length_nil, Nat.reduceAdd] at hconv)
  go_ret
  exact ⟨rfl, (((Below.refl _ w).alloc (Nat.le_refl _) _).alloc (by simp) _).trans (hb.mono (by simp; omega))⟩
end Go.Proofs.Ytemachlhoanngaa.Given
