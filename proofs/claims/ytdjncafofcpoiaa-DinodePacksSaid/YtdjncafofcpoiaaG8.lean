/- An argument of the type api.Inode, opened: its cells are an inode's. -/
import Derived.Test.YtdjncafofcpoiaaG7
import Derived.Test.YtdjncafofcpoiaaTells
namespace Go.Proofs.Ytdjncafofcpoiaa.Given
open Go.RowKit Go.Proofs.YtdjncafofcpoiaaW.PrintWords Go.Proofs.YtdjncafofcpoiaaW.PrintLast Go.Proofs.YtdjncafofcpoiaaBase
set_option linter.unusedVariables false
set_option linter.unusedSimpArgs false
theorem seg_one {cs : List Value} {j : Nat} {v : Value} (h : (cs.drop j).take 1 = [v]) : cs[j]? = some v := by
  have := congrArg (fun l => l[0]?) h
  simpa using this
theorem tells_ino {w : World} (H : Type) (enc : TypeId × Value → H) (fuel : Nat) (cs : List Value) (x : DataW H × List MemPlace) (h : DataW.trod enc Try.prog w 0 (fun _ => true) true fuel 24 cs = some x) : ∃ y : Ino, cs = y.cells.toList := by
  obtain ⟨xs, n, _, rfl, hl, hlen, hf⟩ := DataW.trod_struct Try.underlying24 h
  have hc : Try.prog.cellsOf 24 = 13 := by kernel_rfl
  have h3 : Try.prog.cellsOf 3 = 1 := by kernel_rfl
  have h22 : Try.prog.cellsOf 22 = 8 := by kernel_rfl
  rw [hc] at hl
  match xs, hlen with
  | [y0, y1, y2, y3, y4, y5], _ =>
    have e0 : DataW.trod enc Try.prog w 0 (fun _ => true) true n 3 ((cs.drop 0).take (Try.prog.cellsOf 3)) = some y0 := hf 0 _ rfl
    rw [h3] at e0
    have e1 : DataW.trod enc Try.prog w 0 (fun _ => true) true n 3 ((cs.drop 1).take (Try.prog.cellsOf 3)) = some y1 := hf 1 _ rfl
    rw [h3] at e1
    have e2 : DataW.trod enc Try.prog w 0 (fun _ => true) true n 3 ((cs.drop 2).take (Try.prog.cellsOf 3)) = some y2 := hf 2 _ rfl
    rw [h3] at e2
    have e3 : DataW.trod enc Try.prog w 0 (fun _ => true) true n 22 ((cs.drop 3).take (Try.prog.cellsOf 22)) = some y3 := hf 3 _ rfl
    rw [h22] at e3
    have e4 : DataW.trod enc Try.prog w 0 (fun _ => true) true n 3 ((cs.drop 11).take (Try.prog.cellsOf 3)) = some y4 := hf 4 _ rfl
    rw [h3] at e4
    have e5 : DataW.trod enc Try.prog w 0 (fun _ => true) true n 3 ((cs.drop 12).take (Try.prog.cellsOf 3)) = some y5 := hf 5 _ rfl
    rw [h3] at e5
    obtain ⟨k, hk, _, _⟩ := DataW.trod_int Try.underlying3 e0
    obtain ⟨l, hl', _, _⟩ := DataW.trod_int Try.underlying3 e1
    obtain ⟨s, hs, _, _⟩ := DataW.trod_int Try.underlying3 e2
    obtain ⟨nn, hn, _, _⟩ := DataW.trod_int Try.underlying3 e4
    obtain ⟨mm, hm, _, _⟩ := DataW.trod_int Try.underlying3 e5
    obtain ⟨zs, m, _, _, hal, hzl, hz⟩ := DataW.trod_array Try.underlying22 e3
    have hd : ∀ i, i < 8 → ∃ d, cs[3 + i]? = some (.int .i64 d) := by
      intro i hi
      have := hz i hi
      have hzi : zs[i]? = some zs[i] := List.getElem?_eq_getElem (by omega)
      rw [h3, hzi, Nat.mul_one] at this
      obtain ⟨d, hd, _, _⟩ := DataW.trod_int Try.underlying3 this
      refine ⟨d, ?_⟩
      have h1 := seg_one hd
      rw [List.getElem?_take, List.getElem?_drop, if_pos (by omega)] at h1
      exact h1
    obtain ⟨d0, q0⟩ := hd 0 (by omega)
    obtain ⟨d1, q1⟩ := hd 1 (by omega)
    obtain ⟨d2, q2⟩ := hd 2 (by omega)
    obtain ⟨d3, q3⟩ := hd 3 (by omega)
    obtain ⟨d4, q4⟩ := hd 4 (by omega)
    obtain ⟨d5, q5⟩ := hd 5 (by omega)
    obtain ⟨d6, q6⟩ := hd 6 (by omega)
    obtain ⟨d7, q7⟩ := hd 7 (by omega)
    have p0 := seg_one hk
    have p1 := seg_one hl'
    have p2 := seg_one hs
    have p4 := seg_one hn
    have p5 := seg_one hm
    refine ⟨⟨k, l, s, d0, d1, d2, d3, d4, d5, d6, d7, nn, mm⟩, ?_⟩
    apply List.ext_getElem?
    intro i
    match i with
    | 0 => exact p0
    | 1 => exact p1
    | 2 => exact p2
    | 3 => exact q0
    | 4 => exact q1
    | 5 => exact q2
    | 6 => exact q3
    | 7 => exact q4
    | 8 => exact q5
    | 9 => exact q6
    | 10 => exact q7
    | 11 => exact p4
    | 12 => exact p5
    | i + 13 => rw [List.getElem?_eq_none (by omega)]; exact (List.getElem?_eq_none (by simp)).symm
end Go.Proofs.Ytdjncafofcpoiaa.Given
