/- The struct api.Inode as a value of Lean; what == tells of two of them. -/
import Derived.Test.YtdjncafofcpoiaaPDFnsx2
import Derived.Test.YtdjncafofcpoiaaBaseIn
import Derived.Lib.Hide
import Derived.Laws.StructEq
import Derived.Test.YtdjncafofcpoiaaWEqStruct
namespace Go.Proofs.Ytdjncafofcpoiaa.Given
open Go.RowKit Go.Proofs.YtdjncafofcpoiaaW.PrintWords Go.Proofs.YtdjncafofcpoiaaW.PrintLast Go.Proofs.YtdjncafofcpoiaaBase Go.Proofs.Ytdjncafofcpoiaa.PDFns
set_option linter.unusedVariables false
set_option linter.unusedSimpArgs false

structure Ino where
  k : Int
  l : Int
  s : Int
  d0 : Int
  d1 : Int
  d2 : Int
  d3 : Int
  d4 : Int
  d5 : Int
  d6 : Int
  d7 : Int
  n : Int
  m : Int
deriving DecidableEq
abbrev Ino.cells (x : Ino) : Array Value := #[.int .i64 x.k, .int .i64 x.l, .int .i64 x.s, .int .i64 x.d0, .int .i64 x.d1, .int .i64 x.d2, .int .i64 x.d3, .int .i64 x.d4, .int .i64 x.d5, .int .i64 x.d6, .int .i64 x.d7, .int .i64 x.n, .int .i64 x.m]
def eqI (x y : Ino) : Bool := x.k == y.k && (x.l == y.l && (x.s == y.s && ((x.d0 == y.d0 && (x.d1 == y.d1 && (x.d2 == y.d2 && (x.d3 == y.d3 && (x.d4 == y.d4 && (x.d5 == y.d5 && (x.d6 == y.d6 && x.d7 == y.d7))))))) && (x.n == y.n && x.m == y.m))))

theorem eqArr (w : World) (d : Nat) (a0 a1 a2 a3_ a4 a5 a6 a7 b0 b1 b2 b3 b4 b5 b6 b7 : Int) : (Op.equalIn (d + 2) 22 (.agg #[.int .i64 a0, .int .i64 a1, .int .i64 a2, .int .i64 a3_, .int .i64 a4, .int .i64 a5, .int .i64 a6, .int .i64 a7]) (.agg #[.int .i64 b0, .int .i64 b1, .int .i64 b2, .int .i64 b3, .int .i64 b4, .int .i64 b5, .int .i64 b6, .int .i64 b7])).run Try.prog w = .ok (a0 == b0 && (a1 == b1 && (a2 == b2 && (a3_ == b3 && (a4 == b4 && (a5 == b5 && (a6 == b6 && a7 == b7))))))) w := by
  have hs : (Try.prog.info? 3).map (·.size) = some 1 := by kernel_rfl
  obtain ⟨i, hi, hz⟩ := Option.map_eq_some_iff.1 hs
  have he : ∀ (x y : Int), (Op.equalIn (d + 1) 3 (.int .i64 x) (.int .i64 y)).run Try.prog w = .ok (x == y) w := fun x y => run_equalIn_int w d 3 .i64 .i64 x y Try.underlying3
  rw [Op.equalIn]
  simp only [Sem.run_bind, run_underlying Try.underlying22, Result.andThen_ok]
  simp only [Std.Legacy.Range.forIn_eq_forIn_range', Std.Legacy.Range.size, Nat.sub_zero, Nat.add_sub_cancel, Nat.div_one, List.range'_succ, List.range'_zero, List.forIn_cons, List.forIn_nil, sizeOf, typeInfo, hi, hz]
  have u3 := Try.underlying3
  have a3 := Try.isAgg3
  have z3 := Try.sizeOf3
  go_simp
  by_cases h0 : a0 = b0
  case neg => simp [h0]
  by_cases h1 : a1 = b1
  case neg => simp [h0, h1]
  by_cases h2 : a2 = b2
  case neg => simp [h0, h1, h2]
  by_cases h3 : a3_ = b3
  case neg => simp [h0, h1, h2, h3]
  by_cases h4 : a4 = b4
  case neg => simp [h0, h1, h2, h3, h4]
  by_cases h5 : a5 = b5
  case neg => simp [h0, h1, h2, h3, h4, h5]
  by_cases h6 : a6 = b6
  case neg => simp [h0, h1, h2, h3, h4, h5, h6]
  by_cases h7 : a7 = b7
  case neg => simp [h0, h1, h2, h3, h4, h5, h6, h7]
  simp [h0, h1, h2, h3, h4, h5, h6, h7]

theorem eqIno (w : World) (x y : Ino) : (Op.equalIn 10000 24 (.agg x.cells) (.agg y.cells)).run Try.prog w = .ok (eqI x y) w := by
  have hn : ∀ (d : Nat) (a b : Int), (Op.equalIn (d + 1) 3 (.int .i64 a) (.int .i64 b)).run Try.prog w = .ok (a == b) w := fun d a b => run_equalIn_int w d 3 .i64 .i64 a b Try.underlying3
  have pt : ∀ (xs : Array Value) (o : Nat) (v : Value), xs[o]? = some v → (part 3 xs o).run Try.prog w = .ok v w := by
    intro xs o v h
    have a3 := Try.isAgg3
    have z3 := Try.sizeOf3
    unfold part
    go_simp
  have p22 : ∀ (z : Ino), (part 22 z.cells 3).run Try.prog w = .ok (.agg #[.int .i64 z.d0, .int .i64 z.d1, .int .i64 z.d2, .int .i64 z.d3, .int .i64 z.d4, .int .i64 z.d5, .int .i64 z.d6, .int .i64 z.d7]) w := by
    intro z
    have a22 := Try.isAgg22
    have z22 := Try.sizeOf22
    unfold part
    go_simp
  refine eqA_of (d := 9999) Try.underlying24 (by kernel_rfl) ?_
  unfold eqI
  refine eqf_cons (by rfl) (pt _ _ _ rfl) (pt _ _ _ rfl) (hn _ _ _) ?_
  refine eqf_cons (by rfl) (pt _ _ _ rfl) (pt _ _ _ rfl) (hn _ _ _) ?_
  refine eqf_cons (by rfl) (pt _ _ _ rfl) (pt _ _ _ rfl) (hn _ _ _) ?_
  refine eqf_cons (by rfl) (p22 x) (p22 y) (eqArr w 9997 _ _ _ _ _ _ _ _ _ _ _ _ _ _ _ _) ?_
  refine eqf_cons (by rfl) (pt _ _ _ rfl) (pt _ _ _ rfl) (hn _ _ _) ?_
  exact eqf_last (by rfl) (pt _ _ _ rfl) (pt _ _ _ rfl) (hn _ _ _)
theorem eql24 (w : World) (x y : Ino) : (binOp .eql 24 (.agg x.cells) (.agg y.cells)).run Try.prog w = .ok (.bool (eqI x y)) w := by
  rw [run_eql_struct, eqIno]; rfl
theorem neq24 (w : World) (x y : Ino) : (binOp .neq 24 (.agg x.cells) (.agg y.cells)).run Try.prog w = .ok (.bool (!eqI x y)) w := by
  rw [run_neq_struct, eqIno]; rfl
end Go.Proofs.Ytdjncafofcpoiaa.Given
