/- The structs api.Entry (33), api.Part (39), api.Node (29) as values of Lean, and how their cells are read and made. -/
import Derived.Test.YtnnnakgdmhmpmaaProg
import Derived.Test.YtnnnakgdmhmpmaaWWords
import Derived.Test.YtnnnakgdmhmpmaaWFoot
import Derived.Test.YtnnnakgdmhmpmaaWApart
namespace Go.Proofs.Ytnnnakgdmhmpmaa.Given
open Go.RowKit Go.Proofs.YtnnnakgdmhmpmaaW.PrintWords
set_option linter.unusedVariables false
set_option linter.unusedSimpArgs false
structure S33 where
  f0 : Int
  f1 : ByteArray
def z33 : S33 := ⟨(0 : Int), ⟨#[]⟩⟩
def k33 : Kd S33 := Kd.iso (Kd.pair (Kd.int .i64) Kd.string) (fun x : S33 => (x.f0, x.f1))
theorem k33_open {w : World} {x : S33} {cs : List Value} (h : k33.K w x cs) : cs = [.int .i64 x.f0, .string x.f1] := by
  obtain ⟨_, _, rfl, rfl, rfl⟩ := h
  rfl
theorem k33_openM {w : World} {base : Nat} {ok : Nat → Prop} {x : S33} {cs : List Value} (h : k33.M w base ok x cs) : cs = [.int .i64 x.f0, .string x.f1] := by
  obtain ⟨_, _, rfl, rfl, rfl⟩ := h
  rfl
theorem k33_mk (w : World) (x : S33) : k33.K w x [.int .i64 x.f0, .string x.f1] := ⟨[.int .i64 x.f0], [.string x.f1], rfl, rfl, rfl⟩
theorem k33_mkM (w : World) (base : Nat) (ok : Nat → Prop) (x : S33) : k33.M w base ok x [.int .i64 x.f0, .string x.f1] := ⟨[.int .i64 x.f0], [.string x.f1], rfl, rfl, rfl⟩
def rd33 (xs : List S33) (i : Nat) : S33 := xs.getD i z33
theorem at33 {w : World} {A : Option Addr} {n : Nat} {xs : List S33} (h : Kd.C k33 w A n xs) (i : Nat) (h1 : i < n) : ∃ ad, A = some ad ∧ w.cell? (ad.add (i * 2)) = some (.int .i64 (rd33 xs i).f0) ∧ w.cell? ⟨(ad.add (i * 2)).block, (ad.add (i * 2)).off + 1, none⟩ = some (.string (rd33 xs i).f1) := by
  obtain ⟨ad, c, e, _, hK, hc0⟩ := Kd.C_get h z33 (i : Int) (by omega) (by omega)
  have hc : ∀ j u, c[j]? = some u → w.cell? (ad.add (i * 2 + j)) = some u := hc0
  have hK' : k33.K w (rd33 xs i) c := hK
  have e2 := k33_open hK'
  subst e2
  exact ⟨ad, e, hc 0 _ rfl, by rw [← add_field _ _ 1 (by omega)]; exact hc 1 _ rfl⟩
structure S39 where
  f0 : Int
  f1 : List Int
def z39 : S39 := ⟨(0 : Int), []⟩
def k39 : Kd S39 := Kd.iso (Kd.pair (Kd.int .i64) (Kd.slice 5 (Kd.int .u8))) (fun x : S39 => (x.f0, x.f1))
theorem k39_open {w : World} {x : S39} {cs : List Value} (h : k39.K w x cs) : ∃ A1 c1, cs = [.int .i64 x.f0, .slice A1 x.f1.length c1] ∧ x.f1.length ≤ c1 ∧ (Kd.int .u8).C w A1 x.f1.length x.f1 := by
  obtain ⟨_, _, rfl, rfl, ⟨A1, c1, rfl, l1, g1⟩⟩ := h
  exact ⟨A1, c1, rfl, l1, g1⟩
theorem k39_mk (w : World) (x : S39) {A1 : Option Addr} {c1 : Nat} (l1 : x.f1.length ≤ c1) (g1 : (Kd.int .u8).C w A1 x.f1.length x.f1) : k39.K w x [.int .i64 x.f0, .slice A1 x.f1.length c1] := ⟨[.int .i64 x.f0], [.slice A1 x.f1.length c1], rfl, rfl, ⟨A1, c1, rfl, l1, g1⟩⟩
def rd39 (xs : List S39) (i : Nat) : S39 := xs.getD i z39
theorem at39 {w : World} {A : Option Addr} {n : Nat} {xs : List S39} (h : Kd.C k39 w A n xs) (i : Nat) (h1 : i < n) : ∃ ad A1 c1, A = some ad ∧ w.cell? (ad.add (i * 2)) = some (.int .i64 (rd39 xs i).f0) ∧ w.cell? ⟨(ad.add (i * 2)).block, (ad.add (i * 2)).off + 1, none⟩ = some (.slice A1 (rd39 xs i).f1.length c1) ∧
    (rd39 xs i).f1.length ≤ c1 ∧ Kd.C (Kd.int .u8) w A1 (rd39 xs i).f1.length (rd39 xs i).f1 := by
  obtain ⟨ad, c, e, _, hK, hc0⟩ := Kd.C_get h z39 (i : Int) (by omega) (by omega)
  have hc : ∀ j u, c[j]? = some u → w.cell? (ad.add (i * 2 + j)) = some u := hc0
  have hK' : k39.K w (rd39 xs i) c := hK
  obtain ⟨A1, c1, rfl, l1, g1⟩ := k39_open hK'
  exact ⟨ad, A1, c1, e, hc 0 _ rfl, by rw [← add_field _ _ 1 (by omega)]; exact hc 1 _ rfl, l1, g1⟩
/-- a node: its number, kind, links, size, blocks, names -/
structure S29 where
  f0 : Int
  f1 : Int
  f2 : Int
  f3 : Int
  f4 : List S39
  f5 : List S33
def z29 : S29 := ⟨0, 0, 0, 0, [], []⟩
def k29 : Kd S29 := Kd.iso (Kd.pair (Kd.int .i64) (Kd.pair (Kd.int .i64) (Kd.pair (Kd.int .i64) (Kd.pair (Kd.int .i64) (Kd.pair (Kd.slice 39 k39) (Kd.slice 33 k33)))))) (fun x : S29 => (x.f0, x.f1, x.f2, x.f3, x.f4, x.f5))
/-- a node's six cells -/
structure Node (w : World) (x : S29) (A4 : Option Addr) (c4 : Nat) (A5 : Option Addr) (c5 : Nat) : Prop where
  l4 : x.f4.length ≤ c4
  l5 : x.f5.length ≤ c5
  C4 : Kd.C k39 w A4 x.f4.length x.f4
  C5 : Kd.C k33 w A5 x.f5.length x.f5
def Value.node (x : S29) (A4 : Option Addr) (c4 : Nat) (A5 : Option Addr) (c5 : Nat) : List Value := [.int .i64 x.f0, .int .i64 x.f1, .int .i64 x.f2, .int .i64 x.f3, .slice A4 x.f4.length c4, .slice A5 x.f5.length c5]
theorem k29_open {w : World} {x : S29} {cs : List Value} (h : k29.K w x cs) : ∃ A4 c4 A5 c5, cs = [.int .i64 x.f0, .int .i64 x.f1, .int .i64 x.f2, .int .i64 x.f3, .slice A4 x.f4.length c4, .slice A5 x.f5.length c5] ∧ Node w x A4 c4 A5 c5 := by
  obtain ⟨_, _, rfl, rfl, _, _, rfl, rfl, _, _, rfl, rfl, _, _, rfl, rfl, _, _, rfl, ⟨A4, c4, rfl, l4, g4⟩, ⟨A5, c5, rfl, l5, g5⟩⟩ := h
  exact ⟨A4, c4, A5, c5, rfl, l4, l5, g4, g5⟩
theorem k29_mk {w : World} {x : S29} {A4 : Option Addr} {c4 : Nat} {A5 : Option Addr} {c5 : Nat} (h : Node w x A4 c4 A5 c5) : k29.K w x [.int .i64 x.f0, .int .i64 x.f1, .int .i64 x.f2, .int .i64 x.f3, .slice A4 x.f4.length c4, .slice A5 x.f5.length c5] :=
  ⟨[_], [_, _, _, _, _], rfl, rfl, [_], [_, _, _, _], rfl, rfl, [_], [_, _, _], rfl, rfl, [_], [_, _], rfl, rfl, [_], [_], rfl, ⟨A4, c4, rfl, h.l4, h.C4⟩, ⟨A5, c5, rfl, h.l5, h.C5⟩⟩
theorem Node.below {w w1 : World} {x : S29} {A4 : Option Addr} {c4 : Nat} {A5 : Option Addr} {c5 : Nat} (h : Node w x A4 c4 A5 c5) (hb : Below w.heap.size w w1) : Node w1 x A4 c4 A5 c5 := ⟨h.l4, h.l5, Kd.C_below h.C4 hb, Kd.C_below h.C5 hb⟩
def rd29 (xs : List S29) (i : Nat) : S29 := xs.getD i z29
theorem at29 {w : World} {A : Option Addr} {n : Nat} {xs : List S29} (h : Kd.C k29 w A n xs) (i : Nat) (h1 : i < n) : ∃ ad A4 c4 A5 c5, A = some ad ∧ w.cell? (ad.add (i * 6)) = some (.int .i64 (rd29 xs i).f0) ∧
    w.cell? ⟨(ad.add (i * 6)).block, (ad.add (i * 6)).off + 1, none⟩ = some (.int .i64 (rd29 xs i).f1) ∧ w.cell? ⟨(ad.add (i * 6)).block, (ad.add (i * 6)).off + 2, none⟩ = some (.int .i64 (rd29 xs i).f2) ∧
    w.cell? ⟨(ad.add (i * 6)).block, (ad.add (i * 6)).off + 3, none⟩ = some (.int .i64 (rd29 xs i).f3) ∧ w.cell? ⟨(ad.add (i * 6)).block, (ad.add (i * 6)).off + 4, none⟩ = some (.slice A4 (rd29 xs i).f4.length c4) ∧
    w.cell? ⟨(ad.add (i * 6)).block, (ad.add (i * 6)).off + 5, none⟩ = some (.slice A5 (rd29 xs i).f5.length c5) ∧ Node w (rd29 xs i) A4 c4 A5 c5 := by
  obtain ⟨ad, c, e, _, hK, hc0⟩ := Kd.C_get h z29 (i : Int) (by omega) (by omega)
  have hc : ∀ j u, c[j]? = some u → w.cell? (ad.add (i * 6 + j)) = some u := hc0
  have hK' : k29.K w (rd29 xs i) c := hK
  obtain ⟨A4, c4, A5, c5, rfl, hN⟩ := k29_open hK'
  exact ⟨ad, A4, c4, A5, c5, e, hc 0 _ rfl, by rw [← add_field _ _ 1 (by omega)]; exact hc 1 _ rfl, by rw [← add_field _ _ 2 (by omega)]; exact hc 2 _ rfl, by rw [← add_field _ _ 3 (by omega)]; exact hc 3 _ rfl,
    by rw [← add_field _ _ 4 (by omega)]; exact hc 4 _ rfl, by rw [← add_field _ _ 5 (by omega)]; exact hc 5 _ rfl, hN⟩
end Go.Proofs.Ytnnnakgdmhmpmaa.Given
