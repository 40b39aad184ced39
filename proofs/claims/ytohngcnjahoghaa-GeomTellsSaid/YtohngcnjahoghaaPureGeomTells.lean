/- GeomTells: every function of geom tells what the reference's tells (G1), so the law answers true. -/
import Derived.Test.YtohngcnjahoghaaG1
import Derived.OpenShut
namespace Go.Proofs.Ytohngcnjahoghaa.Pure
open Go.RowKit Go.Proofs.Ytohngcnjahoghaa.PGeomTells Go.Proofs.Ytohngcnjahoghaa.Given Go.Proofs.YtohngcnjahoghaaW.PrintWords Go.Proofs.YtohngcnjahoghaaW.PrintLast
set_option linter.unusedVariables false
set_option linter.unusedSimpArgs false

theorem alive_30 : lockgatelaw3_alive.f 30 = some true := by decide +kernel
theorem bneq (b : Bool) : (b != b) = false := by cases b <;> rfl
theorem beqq (b : Bool) : (b == b) = true := by cases b <;> rfl
theorem t4 (k : Nat) (n g i d : Int) : lockgatelaw3_GeomTells.j4 (k + 1) n false g i d = some true := by
  rw [lockgatelaw3_GeomTells.j4.eq_def]
  dsimp only
  obtain ⟨r, h, h'⟩ := group_same g i d n
  rw [if_neg (by simp), h, Option.bind_some, h', Option.bind_some, if_pos rfl, if_pos rfl, beqq]
theorem t3 (k : Nat) (n g i d : Int) : lockgatelaw3_GeomTells.j3 (k + 2) n false g i d = some true := by
  rw [lockgatelaw3_GeomTells.j3.eq_def]
  dsimp only
  obtain ⟨r, h, h'⟩ := dataOf_same g i d n k
  rw [if_neg (by simp), h, Option.bind_some, h', Option.bind_some, if_pos rfl, bneq]
  exact t4 k n g i d
theorem t2 (k : Nat) (hk : 10 < k) (n g i d : Int) : lockgatelaw3_GeomTells.j2 (k + 3) n false g i d = some true := by
  rw [lockgatelaw3_GeomTells.j2.eq_def]
  dsimp only
  obtain ⟨r, h, h'⟩ := data_same g i d n (k + 2) (by omega)
  rw [if_neg (by simp), h, Option.bind_some, h', Option.bind_some, if_pos rfl, bneq]
  exact t3 k n g i d
theorem t1 (k : Nat) (hk : 10 < k) (n g i d : Int) : lockgatelaw3_GeomTells.j1 (k + 4) n false g i d = some true := by
  rw [lockgatelaw3_GeomTells.j1.eq_def]
  dsimp only
  obtain ⟨r, h, h'⟩ := inodeAt_same g i d n (k + 3) (by omega)
  rw [if_neg (by simp), h, Option.bind_some, h', Option.bind_some, if_pos rfl, if_pos rfl, bneq]
  exact t2 k hk n g i d
theorem t0 (k : Nat) (hk : 10 < k) (n g i d : Int) : lockgatelaw3_GeomTells.j0 (k + 5) n false g i d = some true := by
  rw [lockgatelaw3_GeomTells.j0.eq_def]
  dsimp only
  obtain ⟨r, h, h'⟩ := head_same g i d n (k + 4) (by omega)
  rw [if_neg (by simp), h, Option.bind_some, h', Option.bind_some, if_pos rfl, bneq]
  exact t1 k hk n g i d
theorem num_is (x : Int) : lockgatelaw3_num.f x = some x := rfl

theorem GeomTells : ∀ (a0_0 : Int) (a0_1 : Int) (a0_2 : Int) (a1 : Int), (Lit.int .i64 a0_0).wf = true → (Lit.int .i64 a0_1).wf = true → (Lit.int .i64 a0_2).wf = true → (Lit.int .i64 a1).wf = true → ∃ k, lockgatelaw3_GeomTells.f k a0_0 a0_1 a0_2 a1 = some true := by
  intro g i d n _ _ _ _
  refine ⟨30, ?_⟩
  obtain ⟨t, ht, ht'⟩ := total_same g i d
  obtain ⟨p, hp, hp'⟩ := inodes_same g i d
  obtain ⟨q, hq, hq'⟩ := blocks_same g i d
  have last := t0 25 (by decide) n g i d
  unfold lockgatelaw3_GeomTells.f
  rw [alive_30, Option.bind_some]
  by_cases h : Fine g i d
  · rw [good_fine h, check_fine h, Option.bind_some, Option.bind_some, if_pos rfl, num_is, Option.bind_some, if_neg (by decide), if_pos rfl, ht, Option.bind_some, ht', Option.bind_some, if_pos rfl,
      hp, Option.bind_some, hp', Option.bind_some, if_pos rfl, hq, Option.bind_some, hq', Option.bind_some]
    rw [show (q != q) = false by simp]
    exact last
  · rw [good_not h, check_not h, Option.bind_some, Option.bind_some, if_pos rfl, num_is, Option.bind_some, if_neg (by decide), if_neg (by decide)]
    rw [Option.bind_some, if_pos rfl, ht, Option.bind_some, ht', Option.bind_some, if_pos rfl,
      hp, Option.bind_some, hp', Option.bind_some, if_pos rfl, hq, Option.bind_some, hq', Option.bind_some]
    rw [show (q != q) = false by simp]
    exact last

end Go.Proofs.Ytohngcnjahoghaa.Pure
