/- A region within an iterator (the widest fence, no round), walked by the plain laws: where it holds neither a deferred call nor a yield, whatever order is picked. -/
import Derived.Test.YtppjeikkodjjhaaRoundRegion
namespace Go.Proofs.YtppjeikkodjjhaaBase
open Go.RowKit Go.Proofs.YtppjeikkodjjhaaW.PrintWords
set_option linter.unusedVariables false

theorem oper_in_wide {n : Nat} {P : Program} {o : Oper} {a : Act} {w : World} {K : Act → World → Prop} {Q : Exit → Act → World → Prop} (hnd : ∀ c, o.op ≠ .defer c) (h : Oper.wp P o a w K Q) : Oper.wpIn Fence.wide n P o a w K Q := by
  refine ⟨fun _ _ => trivial, ?_⟩
  rw [Oper.semAt_plain _ _ _ hnd]
  unfold Oper.wp at h
  generalize (execOp a.eval o).run P w = r at *
  cases r with
  | ok x w' =>
    cases x with
    | value u => exact h
    | skip => exact h
    | defer d => exact h
    | enter f args => exact ⟨(fun e => by cases e), callsIn_wide.2 h⟩
    | row row args => exact ⟨(fun e => by cases e), fun c cs _ => let ⟨v, w', r, s⟩ := h c cs; ⟨v, w', r, (stepsIn_wide (P := P)).2 s⟩⟩
    | _ => exact h.elim
  | halt x w' =>
    cases x with
    | panic v => exact h
    | _ => exact h.elim

theorem any_in_wide {n : Nat} {P : Program} {md : Region.Mode} {ops : Array Oper} {Q : Exit → Act → World → Prop} (hnd : ∀ (i : Nat) (o : Oper) (c : Call), ops[i]? = some o → o.op ≠ .defer c) (hQ : ¬ LetsOut Q) :
    ∀ (fuel : Nat) (listed : Array Bool) (a : Act) (w : World), wpAny P md ops Q fuel listed a w → wpAnyIn Fence.wide n P md ops Q fuel listed a w
  | 0, _, _, _, h => h
  | fuel + 1, listed, a, w, h => ⟨h.1, fun i hi => by
      have h2 := h.2 i hi
      unfold wpOp at h2
      unfold wpOpIn
      cases ho : ops[i]? with
      | none =>
        simp only [ho] at h2
        exact any_in_wide hnd hQ fuel _ _ _ h2
      | some o =>
        simp only [ho] at h2
        simp only
        split
        · rename_i hw
          rw [if_pos hw] at h2
          rcases h2 with h2 | h2
          · refine oper_in_wide (fun c => hnd i o c ho) ?_
            exact Oper.wp_mono (fun a w hk => any_in_wide hnd hQ fuel _ a w hk) h2
          · exact absurd h2.2 hQ
        · rename_i hw
          rw [if_neg hw] at h2
          exact ⟨fun _ _ => trivial, any_in_wide hnd hQ fuel _ _ _ h2⟩⟩
theorem region_in_wide {n id : Nat} {P : Program} {ops : Array Oper} {Q : Exit → Act → World → Prop} {a : Act} {w : World} (hm : P.follows .mixedOrders = true) (hnd : noDefer ops = true) (hQ : ¬ LetsOut Q)
    (h : wpAny P .any ops Q ops.size (Array.replicate ops.size false) a w.drew) : (Code.region id ops true).wpIn Fence.wide n P Q a w :=
  wpIn_region_any hm (any_in_wide (noDefer_spec hnd) hQ _ _ _ _ h)
end Go.Proofs.YtppjeikkodjjhaaBase
