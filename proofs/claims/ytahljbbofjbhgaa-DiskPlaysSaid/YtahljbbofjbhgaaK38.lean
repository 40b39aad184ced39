/- The struct Act (type 38) of the law as a value of Lean, and how its cells are read. -/
import Derived.Test.YtahljbbofjbhgaaE10
namespace Go.Proofs.Ytahljbbofjbhgaa.Given
open Go.RowKit Go.Shelf Go.Proofs.YtahljbbofjbhgaaW.PrintWords Go.Proofs.YtahljbbofjbhgaaW.PrintLast Go.Proofs.YtahljbbofjbhgaaW.PrintMore Go.Proofs.YtahljbbofjbhgaaBase
set_option linter.unusedVariables false
set_option linter.unusedSimpArgs false
structure S38 where
  f0 : Int
  f1 : Int
  f2 : Int
  f3 : (List Int)
def z38 : S38 := ⟨(0 : Int), (0 : Int), (0 : Int), ([] : List Int)⟩
def k38 : Kd S38 := Kd.iso (Kd.pair (Kd.int .i64) (Kd.pair (Kd.int .i64) (Kd.pair (Kd.int .i64) (Kd.slice 5 (Kd.int .u8))))) (fun x : S38 => (x.f0, x.f1, x.f2, x.f3))
theorem k38_open {w : World} {x : S38} {cs : List Value} (h : k38.K w x cs) : ∃ A3 c3, cs = [.int .i64 x.f0, .int .i64 x.f1, .int .i64 x.f2, .slice A3 x.f3.length c3] ∧ x.f3.length ≤ c3 ∧ (Kd.int .u8).C w A3 x.f3.length x.f3 := by
  obtain ⟨_, _, rfl, rfl, ⟨_, _, rfl, rfl, ⟨_, _, rfl, rfl, ⟨A3, c3, rfl, l3, g3⟩⟩⟩⟩ := h
  exact ⟨A3, c3, rfl, l3, g3⟩
theorem heap_k38 : Kd.Heap k38 := Kd.heap_iso _ (Kd.heap_pair (Kd.heap_int _) (Kd.heap_pair (Kd.heap_int _) (Kd.heap_pair (Kd.heap_int _) (Kd.heap_slice 5 (Kd.heap_int _)))))
def rd_T38 (xs : List S38) (i : Int) : S38 := xs.getD i.toNat z38
theorem at_T38 {w : World} {A : Option Addr} {n : Nat} {xs : List S38} (h : Kd.C k38 w A n xs) (i : Nat) (h1 : i < n) : ∃ ad A3 c3, A = some ad ∧ w.cell? (ad.add (i * 4)) = some (.int .i64 (rd_T38 xs i).f0) ∧ w.cell? ⟨(ad.add (i * 4)).block, (ad.add (i * 4)).off + 1, none⟩ = some (.int .i64 (rd_T38 xs i).f1) ∧ w.cell? ⟨(ad.add (i * 4)).block, (ad.add (i * 4)).off + 2, none⟩ = some (.int .i64 (rd_T38 xs i).f2) ∧ w.cell? ⟨(ad.add (i * 4)).block, (ad.add (i * 4)).off + 3, none⟩ = some (.slice A3 (rd_T38 xs i).f3.length c3) ∧ (rd_T38 xs i).f3.length ≤ c3 ∧ (Kd.int .u8).C w A3 (rd_T38 xs i).f3.length (rd_T38 xs i).f3 := by
  obtain ⟨ad, c, e, _, hK, hc0⟩ := Kd.C_get h z38 (i : Int) (by omega) (by omega)
  rw [Int.toNat_natCast] at hK hc0
  have hc : ∀ j u, c[j]? = some u → w.cell? (ad.add (i * 4 + j)) = some u := hc0
  obtain ⟨A3, c3, rfl, l3, g3⟩ := k38_open hK
  exact ⟨ad, A3, c3, e, hc 0 _ rfl, by rw [← add_field _ _ 1 (by omega)]; exact hc 1 _ rfl, by rw [← add_field _ _ 2 (by omega)]; exact hc 2 _ rfl, by rw [← add_field _ _ 3 (by omega)]; exact hc 3 _ rfl, l3, g3⟩
/-- two splices, one behind the other -/
theorem splice_two (b q1 q2 : List Int) (f : Nat) (h : f + q1.length + q2.length ≤ b.length) : Go.splice (Go.splice b f q1) (f + q1.length) q2 = Go.splice b f (q1 ++ q2) := by
  unfold Go.splice
  have h1 : (b.take f).length = f := by rw [List.length_take]; omega
  rw [← List.append_assoc (b.take f), List.take_left' (by rw [List.length_append, h1]), List.drop_append, List.drop_eq_nil_of_le (by rw [List.length_append, h1]; omega), List.nil_append, List.drop_drop, List.length_append, h1, List.length_append]
  rw [List.append_assoc, List.append_assoc]
  congr 3
  congr 1
  omega
theorem secOf_all (x : List Int) (hx : x.length = 1024) : secOf x 0 ++ secOf x 1 = x := by
  unfold secOf
  have : x.take ((1 + 1) * 512) = x := List.take_of_length_le (by omega)
  rw [this, Nat.zero_mul, List.drop_zero, show (0 + 1) * 512 = 512 from rfl]
  exact List.take_append_drop 512 x
theorem splice_block (b x : List Int) (k : Nat) (hx : x.length = 1024) (hk : k < b.length / 1024) : Go.splice (Go.splice b ((k * 2 + 0) * 512) (secOf x 0)) ((k * 2 + 1) * 512) (secOf x 1) = Go.splice b (k * 1024) x := by
  have h0 := secOf_length x 0 hx (by omega)
  have h1 := secOf_length x 1 hx (by omega)
  have := splice_two b (secOf x 0) (secOf x 1) (k * 1024) (by omega)
  rw [h0, secOf_all x hx] at this
  rw [show (k * 2 + 0) * 512 = k * 1024 by omega, show (k * 2 + 1) * 512 = k * 1024 + 512 by omega]
  exact this
theorem splice_read (b x : List Int) (k : Nat) (hx : x.length = 1024) (hk : k < b.length / 1024) : ((Go.splice b (k * 1024) x).take ((k + 1) * 1024)).drop (k * 1024) = x := by
  unfold Go.splice
  have h1 : (b.take (k * 1024)).length = k * 1024 := by rw [List.length_take]; omega
  rw [← List.append_assoc, List.take_left' (by rw [List.length_append, h1]; omega), List.drop_left' h1]
end Go.Proofs.Ytahljbbofjbhgaa.Given
