-- written by the session's program wip/print/patch.py (a turned copy of the print) over contracts that the session proved by hand
import Derived.Test.YtfilblidhcnhcaaProg
import Derived.Below
import Derived.Deep.Draws
import Derived.Deep.AppendLies
import Derived.Maps.AppendAt
import Derived.OwnWalk
import Derived.Laws.BytesArg
import Derived.Laws.MakeOwn
import Derived.Laws.OwnMore
import Derived.Deep.OwnRows
import Derived.Tactics
import Derived.Lib.ConvBytes
import Derived.Laws.Slices
import Derived.WalkKit
import Derived.KernelRfl
import Derived.RowKit3
import Derived.Deep.LoopGhost
import Derived.Deep.QuietTactic
import Derived.BigQuiet
import Derived.WideLaws
import Derived.Deep.DeepCutAuto
import Derived.Deep.CutBlock
import Derived.Deep.RegionHeld3
import Derived.Laws.Rows
import Derived.Lib.AppendStr
import Derived.ArgAppend
import Derived.Laws.IdiomCopy
import Derived.OrdersHeld
import Derived.Laws.BitsLemmas
import Derived.RowKit
import Derived.Test.YtfilblidhcnhcaaGiven
import Derived.Test.YtfilblidhcnhcaaWWords
import Derived.Test.YtfilblidhcnhcaaWLast
import Derived.Test.YtfilblidhcnhcaaWTab
import Derived.Test.YtfilblidhcnhcaaWFour
import Derived.Test.YtfilblidhcnhcaaWQPut
import Derived.Test.YtfilblidhcnhcaaWApart
import Derived.Test.YtfilblidhcnhcaaWArr
import Derived.Test.YtfilblidhcnhcaaWZeros
import Derived.Test.YtfilblidhcnhcaaWFoot
import Derived.Test.YtfilblidhcnhcaaWKept
import Derived.Test.YtfilblidhcnhcaaWShare
import Derived.Test.YtfilblidhcnhcaaWN
import Derived.Test.YtfilblidhcnhcaaWFootNe
import Derived.Test.YtfilblidhcnhcaaWAt
import Derived.Test.YtfilblidhcnhcaaWEqStruct
import Derived.Test.YtfilblidhcnhcaaWRepsOne
import Derived.Test.YtfilblidhcnhcaaWInv
import Derived.Test.YtfilblidhcnhcaaWInvWords
import Derived.Test.YtfilblidhcnhcaaWGuard
import Derived.Test.YtfilblidhcnhcaaWNEv
import Derived.Test.YtfilblidhcnhcaaWMore
namespace Go.Proofs.Ytfilblidhcnhcaa.PLotsPicks
open Go.Proofs.Ytfilblidhcnhcaa.Given Go.Proofs.Ytfilblidhcnhcaa.PLotsFns
open Go.RowKit Go.Proofs.YtfilblidhcnhcaaW.PrintWords Go.Proofs.YtfilblidhcnhcaaW.PrintLast Go.Proofs.YtfilblidhcnhcaaW.PrintMore
attribute [local go_sem] max2_int min2_int max_two min_two max_three min_three max_four min_four   -- for this text's walks alone
set_option linter.unusedVariables false
set_option linter.unusedSimpArgs false



def errW : Option Int → Value
  | none => .nilIface
  | some c => .iface 0 (.int .i64 c)
theorem errW_none : errW none = .nilIface := rfl
theorem errW_some (c : Int) : errW (some c) = .iface 0 (.int .i64 c) := rfl

theorem info42 : (Try.prog.info? 42).map (fun i => (i.zero, i.size, i.bytes)) = some (some (.agg #[(.int .i64 0), (.int .i64 0), (.string ⟨#[]⟩), (.string ⟨#[]⟩), (.int .i64 0), (.int .i64 0), (.slice none 0 0)]), 7, 88) := by kernel_rfl
-- the values' own types
def rd_L3 (xs : List (List Int)) (i : Int) : (List Int) := xs.getD i.toNat ([] : List Int)
theorem at_L3 {w : World} {A : Option Addr} {n : Nat} {xs : List (List Int)} (h : Kd.C (Kd.slice 5 (Kd.int .u8)) w A n xs) (i : Int) (h0 : 0 ≤ i) (h1 : i < n) : ∃ ad A0 c0, A = some ad ∧ w.cell? (ad.add i.toNat) = some (.slice A0 (rd_L3 xs i).length c0) ∧ (rd_L3 xs i).length ≤ c0 ∧ (Kd.int .u8).C w A0 (rd_L3 xs i).length (rd_L3 xs i) := by
  obtain ⟨ad, c, e, _, hK, hc0⟩ := Kd.C_get h ([] : List Int) i h0 h1
  have hc : ∀ j u, c[j]? = some u → w.cell? (ad.add (i.toNat * 1 + j)) = some u := hc0
  obtain ⟨A0, c0, rfl, l0, g0⟩ := hK
  exact ⟨ad, A0, c0, e, by have hq := hc 0 _ rfl; rwa [Nat.mul_one, Nat.add_zero] at hq, l0, g0⟩

/-! #### struct type 42 -/
structure S42 where
  f0 : Int
  f1 : S35
def z42 : S42 := ⟨(0 : Int), z35⟩
def k42 : Kd S42 := Kd.iso (Kd.pair (Kd.int .i64) k35) (fun x : S42 => (x.f0, x.f1))
theorem k42_open {w : World} {x : S42} {cs : List Value} (h : k42.K w x cs) : ∃ A6 c6, cs = [.int .i64 x.f0, .int .i64 x.f1.f0, .string x.f1.f1, .string x.f1.f2, .int .i64 x.f1.f3, .int .i64 x.f1.f4, .slice A6 x.f1.f5.length c6] ∧ x.f1.f5.length ≤ c6 ∧ (Kd.int .u8).C w A6 x.f1.f5.length x.f1.f5 := by
  obtain ⟨_, _, rfl, rfl, s1⟩ := h
  obtain ⟨A6, c6, rfl, l6, g6⟩ := k35_open s1
  exact ⟨A6, c6, rfl, l6, g6⟩
theorem k42_openM {w : World} {base : Nat} {ok : Nat → Prop} {x : S42} {cs : List Value} (h : k42.M w base ok x cs) : ∃ v6, cs = [.int .i64 x.f0, .int .i64 x.f1.f0, .string x.f1.f1, .string x.f1.f2, .int .i64 x.f1.f3, .int .i64 x.f1.f4, v6] ∧ (Kd.int .u8).R 5 w base ok v6 x.f1.f5 := by
  obtain ⟨_, _, rfl, rfl, s1⟩ := h
  obtain ⟨v6, rfl, g6⟩ := k35_openM s1
  exact ⟨v6, rfl, g6⟩
theorem k42_mk (w : World) (x : S42) {A6 : Option Addr} {c6 : Nat} (l6 : x.f1.f5.length ≤ c6) (g6 : (Kd.int .u8).C w A6 x.f1.f5.length x.f1.f5) : k42.K w x [.int .i64 x.f0, .int .i64 x.f1.f0, .string x.f1.f1, .string x.f1.f2, .int .i64 x.f1.f3, .int .i64 x.f1.f4, .slice A6 x.f1.f5.length c6] := ⟨[.int .i64 x.f0], [.int .i64 x.f1.f0, .string x.f1.f1, .string x.f1.f2, .int .i64 x.f1.f3, .int .i64 x.f1.f4, .slice A6 x.f1.f5.length c6], rfl, rfl, (k35_mk w x.f1 l6 g6)⟩
theorem k42_mkM (w : World) (base : Nat) (ok : Nat → Prop) (x : S42) {v6 : Value} (g6 : (Kd.int .u8).R 5 w base ok v6 x.f1.f5) : k42.M w base ok x [.int .i64 x.f0, .int .i64 x.f1.f0, .string x.f1.f1, .string x.f1.f2, .int .i64 x.f1.f3, .int .i64 x.f1.f4, v6] := ⟨[.int .i64 x.f0], [.int .i64 x.f1.f0, .string x.f1.f1, .string x.f1.f2, .int .i64 x.f1.f3, .int .i64 x.f1.f4, v6], rfl, rfl, (k35_mkM w base ok x.f1 g6)⟩
def rd_T42 (xs : List S42) (i : Int) : S42 := xs.getD i.toNat z42
theorem at_T42 {w : World} {A : Option Addr} {n : Nat} {xs : List S42} (h : Kd.C k42 w A n xs) (i : Int) (h0 : 0 ≤ i) (h1 : i < n) : ∃ ad A6 c6, A = some ad ∧ w.cell? (ad.add (i.toNat * 7)) = some (.int .i64 (rd_T42 xs i).f0) ∧ w.cell? ⟨(ad.add (i.toNat * 7)).block, (ad.add (i.toNat * 7)).off + 1, none⟩ = some (.int .i64 (rd_T42 xs i).f1.f0) ∧ w.cell? ⟨(ad.add (i.toNat * 7)).block, (ad.add (i.toNat * 7)).off + 2, none⟩ = some (.string (rd_T42 xs i).f1.f1) ∧ w.cell? ⟨(ad.add (i.toNat * 7)).block, (ad.add (i.toNat * 7)).off + 3, none⟩ = some (.string (rd_T42 xs i).f1.f2) ∧ w.cell? ⟨(ad.add (i.toNat * 7)).block, (ad.add (i.toNat * 7)).off + 4, none⟩ = some (.int .i64 (rd_T42 xs i).f1.f3) ∧ w.cell? ⟨(ad.add (i.toNat * 7)).block, (ad.add (i.toNat * 7)).off + 5, none⟩ = some (.int .i64 (rd_T42 xs i).f1.f4) ∧ w.cell? ⟨(ad.add (i.toNat * 7)).block, (ad.add (i.toNat * 7)).off + 6, none⟩ = some (.slice A6 (rd_T42 xs i).f1.f5.length c6) ∧ (rd_T42 xs i).f1.f5.length ≤ c6 ∧ (Kd.int .u8).C w A6 (rd_T42 xs i).f1.f5.length (rd_T42 xs i).f1.f5 := by
  obtain ⟨ad, c, e, _, hK, hc0⟩ := Kd.C_get h z42 i h0 h1
  have hc : ∀ j u, c[j]? = some u → w.cell? (ad.add (i.toNat * 7 + j)) = some u := hc0
  obtain ⟨A6, c6, rfl, l6, g6⟩ := k42_open hK
  exact ⟨ad, A6, c6, e, hc 0 _ rfl, by rw [← add_field _ _ 1 (by omega)]; exact hc 1 _ rfl, by rw [← add_field _ _ 2 (by omega)]; exact hc 2 _ rfl, by rw [← add_field _ _ 3 (by omega)]; exact hc 3 _ rfl, by rw [← add_field _ _ 4 (by omega)]; exact hc 4 _ rfl, by rw [← add_field _ _ 5 (by omega)]; exact hc 5 _ rfl, by rw [← add_field _ _ 6 (by omega)]; exact hc 6 _ rfl, l6, g6⟩

end Go.Proofs.Ytfilblidhcnhcaa.PLotsPicks
