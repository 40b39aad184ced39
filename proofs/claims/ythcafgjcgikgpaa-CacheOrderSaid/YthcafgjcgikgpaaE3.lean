/- (*Disk).Read, disk.Of, disk.sectors. -/
import Derived.Test.YthcafgjcgikgpaaE2
namespace Go.Proofs.Ythcafgjcgikgpaa.Given
open Go.RowKit Go.Proofs.YthcafgjcgikgpaaW.PrintWords Go.Proofs.YthcafgjcgikgpaaW.PrintLast Go.Proofs.YthcafgjcgikgpaaW.PrintMore Go.Proofs.YthcafgjcgikgpaaBase
attribute [local go_sem] max2_int min2_int max_two min_two
set_option linter.unusedVariables false
set_option linter.unusedSimpArgs false

theorem one5 : ∃ i, Try.prog.info? 5 = some i ∧ i.size = 1 := by
  have h := info5
  cases hi : Try.prog.info? 5 with
  | none => rw [hi] at h; cases h
  | some i =>
    rw [hi] at h
    simp only [Option.map_some, Option.some.injEq, Prod.mk.injEq] at h
    exact ⟨i, rfl, h.2.1⟩
/-- a cut of a row of bytes -/
theorem cut_row (A : Option Addr) (c : Nat) (b : List Int) (lo hi : Nat) (h1 : lo ≤ hi) (h2 : hi ≤ b.length) (hc : b.length ≤ c) :
    ∃ (A' : Option Addr) (n' : Nat), (n' = ((b.take hi).drop lo).length ∧ n' ≤ c - lo) ∧ (∀ W : World, (Instr.slice 28 (.slice A b.length c) (some (.int .i64 (lo : Int))) (some (.int .i64 (hi : Int))) none).run Try.prog W = .ok (.slice A' n' (c - lo)) W) ∧
      ∀ w : World, Kd.C (Kd.int .u8) w A b.length b → Kd.C (Kd.int .u8) w A' n' ((b.take hi).drop lo) := by
  obtain ⟨i, hi5, hz⟩ := one5
  have hl : hi - lo = ((b.take hi).drop lo).length := by rw [List.length_drop, List.length_take]; omega
  refine ⟨if c = lo then A else A.map (·.add (lo * 1)), hi - lo, ⟨hl, by omega⟩, fun W => ?_, fun w h => ?_⟩
  · have := cut_mid (P := Try.prog) 28 5 .i64 .i64 Try.underlying28 hi5 1 hz A b.length c (lo : Int) (hi : Int) (by omega) (by omega) (by omega) hc W
    simpa using this
  · rw [hl]
    exact Kd.C_mid h h1 h2 hc
set_option maxRecDepth 100000 in
set_option maxHeartbeats 1000000 in
theorem read_no (g : Nat) (A : Option Addr) (c : Nat) (b : List Int) (vl : Value) (cut k : Int) (dead : Bool) (w : World) (h : IsB w g (.slice A b.length c) vl cut dead) (hn : b.length < 140737488351232)
    (hno : (!dead && decide (0 ≤ k ∧ k < ((b.length / 1024 : Nat) : Int))) = false) :
    Calls Try.prog 27 #[.pointer (some ⟨g, 0, none⟩), .int .i64 k] w fun e w' => e = .returned (.tuple #[.slice none 0 0, .bool false]) ∧ Drawn0 w w' := by
  have H := Lib.hid h
  have HNO := Lib.hid hno
  clear h hno
  go_enter Try.func27, Try.ntmps27
  go_wp2_with (first | (go_at_call 33; refine (there_calls g A b.length c vl cut k dead _ H.out (by omega)).mono ?_; rintro e w' ⟨rfl, hd⟩; obtain ⟨nd, rfl⟩ := hd; rw [HNO.out]))
  go_ret2
  exact ⟨rfl, ⟨_, rfl⟩⟩
set_option maxRecDepth 100000 in
set_option maxHeartbeats 1000000 in
theorem read_yes (g : Nat) (A : Option Addr) (c : Nat) (b : List Int) (vl : Value) (cut : Int) (k : Nat) (w : World) (h : IsB w g (.slice A b.length c) vl cut false) (hC : Kd.C (Kd.int .u8) w A b.length b) (hc : b.length ≤ c) (hn : b.length < 140737488351232)
    (hk : k < b.length / 1024) :
    Calls Try.prog 27 #[.pointer (some ⟨g, 0, none⟩), .int .i64 (k : Int)] w fun e w' => ∃ v : Value, e = .returned (.tuple #[v, .bool true]) ∧ Kd.R (Kd.int .u8) 5 w' w.heap.size (fun _ => True) v ((b.take ((k + 1) * 1024)).drop (k * 1024)) ∧ Below w.heap.size w w' := by
  have H := Lib.hid h
  have b0 := h.c0
  have q1 : wrap64 ((k : Int) * 1024) = (k : Int) * 1024 := by unfold wrap64; omega
  have q2 : wrap64 ((k : Int) + 1) = (k : Int) + 1 := by unfold wrap64; omega
  have q3 : wrap64 (((k : Int) + 1) * 1024) = ((k : Int) + 1) * 1024 := by unfold wrap64; omega
  obtain ⟨A', n', hn', hrun, hrd⟩ := cut_row A c b (k * 1024) ((k + 1) * 1024) (by omega) (by omega) hc
  rw [show ((k * 1024 : Nat) : Int) = (k : Int) * 1024 by omega, show (((k + 1) * 1024 : Nat) : Int) = ((k : Int) + 1) * 1024 by omega] at hrun
  have HRD := Lib.hid (hrd w hC)
  have HN := Lib.hid hn'
  have HT : Hid ((!false && decide (0 ≤ (k : Int) ∧ (k : Int) < ((b.length / 1024 : Nat) : Int))) = true) := Lib.hid (by simp; omega)
  clear h hC hrd hn'
  go_enter Try.func27, Try.ntmps27
  go_wp2_with (first | (go_at_call 33; refine (there_calls g A b.length c vl cut k false _ H.out (by omega)).mono ?_; rintro e w' ⟨rfl, hd⟩; obtain ⟨nd, rfl⟩ := hd; rw [HT.out]) | (go_at_call 31; (rw [HN.out.1]); refine (clone_calls A' _ _ _ (by rw [← HN.out.1]; exact Kd.C_drewN HRD.out nd) (by rw [← HN.out.1]; exact HN.out.2) (by rw [List.length_drop, List.length_take]; omega)).mono ?_; rintro e w' ⟨v, rfl, hR, hb⟩; have HR := Lib.hid hR; have HB := Lib.hid hb; clear hR hb))
  go_ret2
  exact ⟨_, rfl, HR.out, (pw_below_drewN (Below.refl w.heap.size w) nd).trans HB.out⟩

theorem cut_hm (A : Option Addr) (n c m : Nat) (hm : m ≤ n) (hc : n ≤ c) :
    ∀ W : World, (Instr.slice 28 (.slice A n c) none (some (.int .i64 (m : Int))) (some (.int .i64 (m : Int)))).run Try.prog W = .ok (.slice A m m) W := by
  intro W
  obtain ⟨i, hi, hz⟩ := one5
  have ht := Try.underlying28
  have hel : Try.prog.elem 28 = 5 := by simp [Program.elem, ht]
  have hu : Try.prog.underlying 28 = some (.slice (Try.prog.elem 28)) := by rw [hel]; exact ht
  have ha : (A.map fun x => x.add 0) = A := by cases A <;> simp [Addr.add]
  rw [run_slice_hm W 28 A n c hu .i64 .i64 (m : Int) (m : Int) (by omega) (by omega) (by omega), hel]
  simp [sizeOf, typeInfo, hi, sliced, Result.andThen, ha]

theorem sectors_in (k : Int) (A : Option Addr) (n c : Nat) (w : World) :
    Calls Try.prog 34 #[.int .i64 k, .slice A n c] w fun e w' => e = .returned (.func (.func 40) #[] #[.pointer (some ⟨w.heap.size, 0, none⟩), .pointer (some ⟨w.heap.size + 1, 0, none⟩)]) ∧ (w.alloc (.cells #[.int .i64 k] 3)).alloc (.cells #[.slice A n c] 28) = w' := by
  go_enter Try.func34, Try.ntmps34
  go_wp2
  go_ret
  exact ⟨rfl, rfl⟩
end Go.Proofs.Ythcafgjcgikgpaa.Given
