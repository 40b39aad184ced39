/- SuperPacks: the superblock of every geometry that may be, and that it is read as it; for every geometry; no condition. -/
import Derived.Test.YthlpcfjnpagokaaPlainSuperPacks
namespace Go.Proofs.Ythlpcfjnpagokaa.Pure
open Go.RowKit Go.Proofs.Ythlpcfjnpagokaa.PSuperPacks Go.Proofs.Ythlpcfjnpagokaa.Given Go.Proofs.YthlpcfjnpagokaaW.PrintWords Go.Proofs.YthlpcfjnpagokaaW.PrintLast Go.Proofs.Ythlpcfjnpagokaa.PlainSuperPacks

theorem SuperPacks : ∀ (a0_0 : Int) (a0_1 : Int) (a0_2 : Int), (Lit.int .i64 a0_0).wf = true → (Lit.int .i64 a0_1).wf = true → (Lit.int .i64 a0_2).wf = true → ∃ k, lockgatelaw4_SuperPacks.f k a0_0 a0_1 a0_2 = some true := by
  intro g i d _ _ _
  obtain ⟨K, hK⟩ : ∃ K : Nat, 200 ≤ K := ⟨200, Nat.le_refl _⟩
  refine ⟨K + 5, ?_⟩
  unfold lockgatelaw4_SuperPacks.f
  rw [alive_is, Option.bind_some, good_is, Option.bind_some]
  by_cases hf : Fine g i d
  · rw [decide_eq_true hf, super_Pack.f, if_pos hf, Option.bind_some, if_pos rfl, if_pos rfl]
    obtain ⟨h1, h2, h3⟩ := numAt_bytes g i d hf
    rw [read_yes K _ (bytes_rng g i d) (is_bytes g i d hf), Option.bind_some, h1, h2, h3, packSuper g i d (K + 5) (by omega)]
    simp [lockgatelaw4_num.f]
  · rw [decide_eq_false hf, super_Pack.f, if_neg hf, Option.bind_some, if_pos rfl, if_neg (by simp)]
    simp [lockgatelaw4_num.f]
end Go.Proofs.Ythlpcfjnpagokaa.Pure
