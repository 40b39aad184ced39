/- A region within a round of a range over a function, walked by the plain laws: where it holds no deferred call, whatever order is picked. -/
import Derived.Test.YthcafgjcgikgpaaBaseIn
import Derived.OrdersIn
namespace Go.Proofs.YthcafgjcgikgpaaBase
open Go.RowKit Go.Proofs.YthcafgjcgikgpaaW.PrintWords
set_option linter.unusedVariables false

/-- which operations are done, as the bits of a number -/
def bm (n m : Nat) : Array Bool := ((List.range n).map m.testBit).toArray
theorem rowsIn_wide' {n : Nat} {P : Program} {row : String} {args : Array Value} {w : World} {R : Value → World → Prop} (l : Nat) (h : Rows P row args w R) : RowsIn (Fence.wide.inRound l) n P row args w R := fun c cs _ =>
  let ⟨v, w', r, s⟩ := h c cs
  ⟨v, w', r, (stepsIn_wide (P := P)).2 s⟩

theorem oper_in_round {l n : Nat} {P : Program} {o : Oper} {a : Act} {w : World} {K : Act → World → Prop} {Q : Exit → Act → World → Prop} (hnd : ∀ c, o.op ≠ .defer c) (h : Oper.wp P o a w K Q) : Oper.wpIn (Fence.wide.inRound l) n P o a w K Q := by
  refine ⟨fun _ _ => trivial, ?_⟩
  rw [Oper.semAt_plain _ _ _ hnd]
  unfold Oper.wp at h
  generalize (execOp a.eval o).run P w = r at *
  cases r with
  | ok x w' =>
    cases x with
    | value u => exact h
    | skip => exact h
    | defer d => exact h
    | enter f args => exact ⟨(fun e => by cases e), CallsIn.inRound l (callsIn_wide.2 h)⟩
    | row row args => exact ⟨(fun e => by cases e), rowsIn_wide' l h⟩
    | _ => exact h.elim
  | halt x w' =>
    cases x with
    | panic v => exact h
    | _ => exact h.elim

theorem any_in_round {l n : Nat} {P : Program} {md : Region.Mode} {ops : Array Oper} {Q : Exit → Act → World → Prop} (hnd : ∀ (i : Nat) (o : Oper) (c : Call), ops[i]? = some o → o.op ≠ .defer c) (hQ : ¬ LetsOut Q) :
    ∀ (fuel : Nat) (listed : Array Bool) (a : Act) (w : World), wpAny P md ops Q fuel listed a w → wpAnyIn (Fence.wide.inRound l) n P md ops Q fuel listed a w
  | 0, _, _, _, h => h
  | fuel + 1, listed, a, w, h => ⟨h.1, fun i hi => by
      have h2 := h.2 i hi
      unfold wpOp at h2
      unfold wpOpIn
      cases ho : ops[i]? with
      | none =>
        simp only [ho] at h2
        exact any_in_round hnd hQ fuel _ _ _ h2
      | some o =>
        simp only [ho] at h2
        simp only
        split
        · rename_i hw
          rw [if_pos hw] at h2
          rcases h2 with h2 | h2
          · refine oper_in_round (fun c => hnd i o c ho) ?_
            exact Oper.wp_mono (fun a w hk => any_in_round hnd hQ fuel _ a w hk) h2
          · exact absurd h2.2 hQ
        · rename_i hw
          rw [if_neg hw] at h2
          exact ⟨fun _ _ => trivial, any_in_round hnd hQ fuel _ _ _ h2⟩⟩

/-- no operation is a deferred call -/
def noDefer (ops : Array Oper) : Bool := ops.all fun o => match o.op with
  | .defer _ => false
  | _ => true
theorem noDefer_spec {ops : Array Oper} (h : noDefer ops = true) : ∀ (i : Nat) (o : Oper) (c : Call), ops[i]? = some o → o.op ≠ .defer c := by
  intro i o c hi hc
  obtain ⟨hlt, he⟩ := Array.getElem?_eq_some_iff.1 hi
  have := (Array.all_eq_true.1 h) i hlt
  rw [he, hc] at this
  cases this

theorem region_in_round {l n id : Nat} {P : Program} {ops : Array Oper} {Q : Exit → Act → World → Prop} {a : Act} {w : World} (hm : P.follows .mixedOrders = true) (hnd : noDefer ops = true) (hQ : ¬ LetsOut Q)
    (h : wpAny P .any ops Q ops.size (Array.replicate ops.size false) a w.drew) : (Code.region id ops true).wpIn (Fence.wide.inRound l) n P Q a w :=
  wpIn_region_any hm (any_in_round (noDefer_spec hnd) hQ _ _ _ _ h)
end Go.Proofs.YthcafgjcgikgpaaBase
