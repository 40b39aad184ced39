/- (*Disk).Write. -/
import Derived.Test.YthcafgjcgikgpaaE5
import Derived.Test.YthcafgjcgikgpaaRoundRegion
import Derived.Outline
namespace Go.Proofs.Ythcafgjcgikgpaa.Given
open Go.RowKit Go.Shelf Go.Proofs.YthcafgjcgikgpaaW.PrintWords Go.Proofs.YthcafgjcgikgpaaW.PrintLast Go.Proofs.YthcafgjcgikgpaaW.PrintMore Go.Proofs.YthcafgjcgikgpaaBase
set_option linter.unusedVariables false
set_option linter.unusedSimpArgs false
attribute [local go_sem] Oper.semAt_some

theorem write_res {F : Fence} {n : Nat} {R : Ending → World → Prop} {a : Act} {w : World} {B : Nat} {rv : Bool} (hd : a.defers = []) (hs : a.tmps.getD 6 undef = .pointer (some ⟨B, 0, none⟩)) (hB : Boxed w B 4 (.bool rv)) (h : R (.returned (.bool rv)) w) :
    bodyPostM F n Try.prog Try.f21 R .ret a w := by
  show LeavesInM _ _ _ _ _ _ a.defers _ _
  rw [hd]
  refine ⟨.bool rv, ?_, h⟩
  have := hB.cell
  simp only [Array.getD_eq_getD_getElem?] at hs
  simp [results, Try.f21, go_sem, hs, this]

set_option maxRecDepth 100000 in
set_option maxHeartbeats 1000000 in
theorem write_no (g : Nat) (A : Option Addr) (c : Nat) (b : List Int) (vl : Value) (cut k : Int) (dead : Bool) (Ax : Option Addr) (nx cx : Nat) (w : World) (h : IsB w g (.slice A b.length c) vl cut dead) (hn : b.length < 140737488351232)
    (hno : (!dead && decide (0 ≤ k ∧ k < ((b.length / 1024 : Nat) : Int))) = false ∨ nx ≠ 1024) :
    Calls Try.prog 21 #[.pointer (some ⟨g, 0, none⟩), .int .i64 k, .slice Ax nx cx] w fun e w' => e = .returned (.bool false) ∧ Below w.heap.size w w' := by
  have H := Lib.hid h
  obtain ⟨t, ht⟩ : ∃ t, (!dead && decide (0 ≤ k ∧ k < ((b.length / 1024 : Nat) : Int))) = t := ⟨_, rfl⟩
  rw [ht] at hno
  have HT := Lib.hid ht
  clear h ht
  refine (callsIn_wide (n := 9)).1 ?_
  refine callsIn_of_wp_marks Try.func21 rfl trivial ?_ rfl
  simp only [Try.ntmps21, List.size_toArray, List.length_cons, List.length_nil, Nat.reduceAdd, Nat.reduceSub, Array.replicate_succ, Array.replicate_zero, List.push_toArray, List.append_toArray, List.nil_append, List.cons_append]
  have hq : ∀ nd, Boxed ((((w.alloc (.cells #[.pointer (some ⟨g, 0, none⟩)] 26)).alloc (.cells #[.bool false] 4)).drewN nd).setCell ⟨w.heap.size + 1, 0, none⟩ (.bool false)) (w.heap.size + 1) 4 (.bool false) := fun nd => by
    have h1 := Boxed.new (w.alloc (.cells #[.pointer (some ⟨g, 0, none⟩)] 26)) 4 (.bool false)
    rw [World.size_alloc] at h1
    exact Boxed.set _ (show Boxed (((w.alloc (.cells #[.pointer (some ⟨g, 0, none⟩)] 26)).alloc (.cells #[.bool false] 4)).drewN nd) (w.heap.size + 1) 4 (.bool false) from h1)
  have hb : ∀ nd, Below w.heap.size w ((((w.alloc (.cells #[.pointer (some ⟨g, 0, none⟩)] 26)).alloc (.cells #[.bool false] 4)).drewN nd).setCell ⟨w.heap.size + 1, 0, none⟩ (.bool false)) := fun nd =>
    (pw_below_drewN (((Below.refl _ w).alloc (Nat.le_refl _) _).alloc (by simp) _) nd).setCell (by simp) _
  have HQ := Lib.hid hq
  have HB := Lib.hid hb
  clear hq hb
  cases t with
  | false =>
    clear hno
    gi_wp2_with (refine ⟨trivial, ?_⟩; first | (gi_at_call 33; refine (callsIn_wide.2 (there_calls g A b.length c vl cut k dead _ ((H.out.below (below_alloc (Below.refl _ _) _)).below (below_alloc (Below.refl _ _) _)) (by omega))).mono ?_; rintro e w' ⟨rfl, hd⟩; obtain ⟨nd, rfl⟩ := hd; rw [HT.out]))
    exact write_res rfl rfl (HQ.out nd) ⟨rfl, HB.out nd⟩
  | true =>
    have hnx : nx ≠ 1024 := by simpa using hno
    have t1 : ((nx : Int) != 1024) = true := by simp; omega
    have t2 : ((nx : Int) == 1024) = false := by simp; omega
    clear hno hnx
    gi_wp2_with (refine ⟨trivial, ?_⟩; first | (gi_at_call 33; refine (callsIn_wide.2 (there_calls g A b.length c vl cut k dead _ ((H.out.below (below_alloc (Below.refl _ _) _)).below (below_alloc (Below.refl _ _) _)) (by omega))).mono ?_; rintro e w' ⟨rfl, hd⟩; obtain ⟨nd, rfl⟩ := hd; rw [HT.out]))
    exact write_res rfl rfl (HQ.out nd) ⟨rfl, HB.out nd⟩
end Go.Proofs.Ythcafgjcgikgpaa.Given
