/- Laws inside a round of a range over a function, out of the plain ones: the builtins append and copy; a row of one's own abides what the loop writes. -/
import Derived.Test.YthcafgjcgikgpaaBase
import Derived.OwnWalkIn
import Derived.RangeFuncNested
import Derived.RangeFuncBound
import Derived.RangeFuncCalls
import Derived.RangeFuncLeaves
import Derived.RangeFuncBox
namespace Go.Proofs.YthcafgjcgikgpaaBase
open Go.RowKit Go.Proofs.YthcafgjcgikgpaaW.PrintWords
set_option linter.unusedVariables false
set_option linter.unusedSimpArgs false

theorem append_in {F : Fence} {n : Nat} {P : Program} {ops : Array Oper} {rest : List Oper} {o : Oper} {a : Act} {Q : Exit → Act → World → Prop} {w : World} {args : Array Operand} {tys : Array TypeId}
    (hgd : o.guard = none) (ho : o.op = .call { callee := .builtin .append, args := args, argTypes := tys })
    (h : wpList P ops (fun e a' w' => e = .normal ∧ wpListIn F n P ops Q rest a' w') [o] a w) : wpListIn F n P ops Q (o :: rest) a w := by
  refine wpListIn_plain hgd fun K hK => ?_
  have hwant : Region.wanted o (yielded ops a.tmps) = true := by simp [Region.wanted, hgd]
  simp only [wpList, hwant, if_true] at h
  unfold Oper.wpIn
  refine ⟨by simp [Oper.about, ho, resolve, Target.leads, Sem.run_pure], ?_⟩
  rw [Oper.semAt_plain F _ _ (by rw [ho]; intro c hc; cases hc)]
  rcases h with h | ⟨_, a', w', h, _⟩
  · unfold Oper.wp at h
    simp only [execOp, ho, resolve, invoke, builtin, Sem.run_bind, Sem.run_pure, Result.andThen_ok] at h ⊢
    cases hr : (Builtin.append_ tys o.type (args.map a.eval)).run P w with
    | ok v w1 =>
      simp only [hr, Result.andThen_ok] at h ⊢
      exact hK _ _ h.2
    | halt x w1 =>
      simp only [hr] at h
      cases x <;> simp only [Result.andThen] at h
      all_goals first | exact h.elim | (cases h.1)
  · cases h

theorem copy_in {F : Fence} {n : Nat} {P : Program} {ops : Array Oper} {rest : List Oper} {o : Oper} {a : Act} {Q : Exit → Act → World → Prop} {w : World} {args : Array Operand} {tys : Array TypeId}
    (hgd : o.guard = none) (ho : o.op = .call { callee := .builtin .copy, args := args, argTypes := tys })
    (h : wpList P ops (fun e a' w' => e = .normal ∧ wpListIn F n P ops Q rest a' w') [o] a w) : wpListIn F n P ops Q (o :: rest) a w := by
  refine wpListIn_plain hgd fun K hK => ?_
  have hwant : Region.wanted o (yielded ops a.tmps) = true := by simp [Region.wanted, hgd]
  simp only [wpList, hwant, if_true] at h
  unfold Oper.wpIn
  refine ⟨by simp [Oper.about, ho, resolve, Target.leads, Sem.run_pure], ?_⟩
  rw [Oper.semAt_plain F _ _ (by rw [ho]; intro c hc; cases hc)]
  rcases h with h | ⟨_, a', w', h, _⟩
  · unfold Oper.wp at h
    simp only [execOp, ho, resolve, invoke, builtin, Sem.run_bind, Sem.run_pure, Result.andThen_ok] at h ⊢
    cases hr : (Builtin.copy_ tys o.type (args.map a.eval)).run P w with
    | ok v w1 =>
      simp only [hr, Result.andThen_ok] at h ⊢
      exact hK _ _ h.2
    | halt x w1 =>
      simp only [hr] at h
      cases x <;> simp only [Result.andThen] at h
      all_goals first | exact h.elim | (cases h.1)
  · cases h

/-- A row of one's own abides whatever writes blocks that are no cells. -/
theorem R_noncells {α : Type} {d : Kd α} {e : Nat} {X Y : World} {base : Nat} {ok : Nat → Prop} {v : Value} {xs : List α} {row : Option Nat} (h : d.R e X base ok v xs) (hg : X.grownBy Y row)
    (hr : ∀ r, row = some r → ∃ o : Obj, X.heap[r]? = some o ∧ o.isCells = false) : d.R e Y base ok v xs := by
  refine Kd.R_mono (Kd.R_grown (Kd.R_bound h) hg (fun k hk e1 => ?_)) (fun _ hk => hk.1)
  obtain ⟨o, ho, hc⟩ := hr k e1.symm
  obtain ⟨_, _, _, q, _, cells, hcells⟩ := hk
  rw [hcells] at ho
  cases ho
  cases hc
theorem keeps_below {W W' : World} (h : Below W.heap.size W W') : KeepsOthers W W' :=
  ⟨h.size, fun k o hk _ => (h.block k (Array.getElem?_eq_some_iff.1 hk).1).trans hk⟩
theorem keeps_R {α : Type} {d : Kd α} {e : Nat} {X Y : World} {base : Nat} {ok : Nat → Prop} {v : Value} {xs : List α} (h : d.R e X base ok v xs) (hg : X.grownBy Y v.ownBlock) : KeepsOthers X Y :=
  KeepsOthers.of_grownBy hg (fun j o ej hj => by
    obtain ⟨inner, ho⟩ := Kd.R_own h
    obtain ⟨cells, hc⟩ := own_typed ho j ej
    rw [hc] at hj
    cases hj
    rfl)

/-- copy out of a string -/
theorem wpList_copy_string {P : Program} {w : World} {ops : Array Oper} {rest : List Oper} {o : Oper} {a : Act} {Q : Exit → Act → World → Prop} (hgd : o.guard = none) (d s : Operand) (dT sT : TypeId)
    (ho : o.op = .call { callee := .builtin .copy, args := #[d, s], argTypes := #[dT, sT] }) (elem : TypeId) (hu : P.underlying dT = some (.slice elem)) (hsz : (P.info? elem).map (·.size) = some 1)
    (g off dLen dCap : Nat) (x : ByteArray) (hd : a.eval d = .slice (some ⟨g, off, none⟩) dLen dCap) (hs : a.eval s = .string x)
    (cur : Array Value) (t : TypeId) (hg : w.heap[g]? = some (.cells cur t (0, 0))) (hn : x.size ≤ dLen) (hfit : off + x.size ≤ cur.size)
    (h : ∀ w1, w1 = w.setRow g (cur.toList.take off ++ Lib.strCells x ++ cur.toList.drop (off + x.size)).toArray → wpList P ops Q rest (a.put o.dst (goInt x.size)) w1) :
    wpList P ops Q (o :: rest) a w := by
  refine wpList_plain hgd fun K hK => ?_
  have hrun := run_copy_string (P := P) w dT sT o.type elem g off dLen dCap x cur t hu hsz hg hn hfit
  unfold Oper.wp
  simp only [List.append_assoc] at hrun h
  simp [execOp, ho, resolve, invoke, builtin, hd, hs, hrun, Result.andThen]
  exact hK _ _ (h _ rfl)

/-- the cells of a row of numbers that is read -/
theorem C_cells {k : IntKind} {w : World} {A : Option Addr} {n : Nat} {xs : List Int} (h : Kd.C (Kd.int k) w A n xs) (hne : 0 < n) : ∃ ad, A = some ad ∧ ∀ j u, (nums k xs)[j]? = some u → w.cell? (ad.add j) = some u := by
  obtain ⟨ad, e, hc⟩ := h.2.2 hne
  refine ⟨ad, e, fun j u hu => ?_⟩
  simp only [nums, List.getElem?_map, Option.map_eq_some_iff] at hu
  obtain ⟨x, hx, rfl⟩ := hu
  obtain ⟨c, hl, hR, hcell⟩ := hc j x hx
  obtain rfl : c = [Value.int k x] := hR
  have := hcell 0 (.int k x) rfl
  have hsz : (Kd.int k).sz = 1 := rfl
  rwa [hsz, Nat.mul_one, Nat.add_zero] at this
theorem nums_one {k : IntKind} {xs : List Int} : ∀ v ∈ nums k xs, v.oneCell' = true := by
  intro v hv
  simp only [nums, List.mem_map] at hv
  obtain ⟨x, _, rfl⟩ := hv
  rfl
/-- a row of one's own that lay below a block is none of it -/
theorem R_notblock {α : Type} {d : Kd α} {e : Nat} {X : World} {base : Nat} {ok : Nat → Prop} {v : Value} {xs : List α} (h : d.R e X base ok v xs) {g : Nat} (hg : X.heap.size ≤ g) : some g ≠ v.ownBlock := by
  intro e1
  have := ((Kd.R_bound h).1 g e1.symm).2.2.1
  omega
end Go.Proofs.YthcafgjcgikgpaaBase
