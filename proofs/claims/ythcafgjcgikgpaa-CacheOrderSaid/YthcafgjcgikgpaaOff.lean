/- Outside the blocks of ok nothing has turned: what a call leaves that writes a thing of several blocks. -/
import Derived.Test.YthcafgjcgikgpaaBaseIn
import Derived.Test.YthcafgjcgikgpaaWMore
namespace Go.Proofs.YthcafgjcgikgpaaBase
open Go.RowKit Go.Proofs.YthcafgjcgikgpaaW.PrintWords
set_option linter.unusedVariables false

/-- to stand still at an operation: 'refine mk_ ?_' in an arm, 'unfold Mk_' behind the walk -/
def Mk_ (p : Prop) : Prop := p
theorem mk_ {p : Prop} (h : Mk_ p) : p := h
structure Off (ok : Nat → Prop) (w w' : World) : Prop where
  os : w'.os = w.os
  tape : w'.tape = w.tape
  output : w'.output = w.output
  size : w.heap.size ≤ w'.heap.size
  block : ∀ k, k < w.heap.size → ¬ ok k → w'.heap[k]? = w.heap[k]?
section
variable {ok ok' ok2 : Nat → Prop} {w w1 w2 : World}
theorem Off.refl (ok : Nat → Prop) (w : World) : Off ok w w := ⟨rfl, rfl, rfl, Nat.le_refl _, fun _ _ _ => rfl⟩
theorem Off.mono (h : Off ok w w1) (hi : ∀ k, ok k → ok' k) : Off ok' w w1 := ⟨h.os, h.tape, h.output, h.size, fun k hk hn => h.block k hk (fun h2 => hn (hi k h2))⟩
theorem Off.then_ (h : Off ok w w1) (k : Off ok2 w1 w2) (hs : ∀ k, ok2 k → ok k ∨ w.heap.size ≤ k) : Off ok w w2 :=
  ⟨k.os.trans h.os, k.tape.trans h.tape, k.output.trans h.output, Nat.le_trans h.size k.size, fun i hi hn => (k.block i (Nat.lt_of_lt_of_le hi h.size) (fun h2 => (hs i h2).elim hn (fun h3 => by omega))).trans (h.block i hi hn)⟩
theorem Off.trans (h : Off ok w w1) (k : Off ok w1 w2) : Off ok w w2 := h.then_ k (fun _ h => .inl h)
theorem Off.of_below (h : Below w.heap.size w w1) (ok : Nat → Prop) : Off ok w w1 := ⟨h.os, h.tape, h.output, h.size, fun k hk _ => h.block k hk⟩
theorem Off.of_grown {row : Option Nat} (hg : w.grownBy w1 row) (hr : ∀ k, row = some k → ok k) : Off ok w w1 := ⟨hg.os, hg.tape, hg.output, hg.size, fun k hk hn => hg.block k hk (fun e => hn (hr k e.symm))⟩
theorem Off.below (h : Off ok w w1) (hb : Below w1.heap.size w1 w2) : Off ok w w2 := h.trans (Off.of_below hb ok)
theorem Off.grown {row : Option Nat} (h : Off ok w w1) (hg : w1.grownBy w2 row) (hr : ∀ k, row = some k → ok k ∨ w.heap.size ≤ k) : Off ok w w2 :=
  h.then_ (ok2 := fun k => row = some k) (Off.of_grown hg (fun _ e => e)) hr
theorem Off.alloc (h : Off ok w w1) (o : Obj) : Off ok w (w1.alloc o) := h.below (below_alloc (Below.refl _ _) o)
theorem Off.drew (h : Off ok w w1) : Off ok w w1.drew := h.below (below_drew (Below.refl _ _))
theorem Off.drewN (h : Off ok w w1) (m : Nat) : Off ok w (w1.drewN m) := h.below (pw_below_drewN (Below.refl _ _) m)
theorem Off.setCell (h : Off ok w w1) {p : Addr} (hp : ok p.block ∨ w.heap.size ≤ p.block) (u : Value) : Off ok w (w1.setCell p u) :=
  h.then_ (ok2 := fun k => k = p.block) ⟨rfl, rfl, rfl, by simp [World.setCell], fun k _ hn => Below.heap_setCell w1 p u k hn⟩ (fun k hk => by rw [hk]; exact hp)
theorem Off.set1 (w : World) (p : Addr) (hp : ok p.block) (u : Value) : Off ok w (w.setCell p u) := (Off.refl ok w).setCell (.inl hp) u
/-- all of ok's blocks lie at or beyond B -/
theorem Off.to_below (h : Off ok w w1) {B : Nat} (hB : B ≤ w.heap.size) (hok : ∀ k, ok k → B ≤ k) : Below B w w1 := ⟨h.os, h.tape, h.output, h.size, fun k hk => h.block k (by omega) (fun h2 => by have := hok k h2; omega)⟩
theorem Off.blk {g : Nat} {o : Obj} (h : Off ok w w1) (hb : w.heap[g]? = some o) (hn : ¬ ok g) : w1.heap[g]? = some o := (h.block g (blk_lt hb) hn).trans hb
theorem Off.cell {a : Addr} {v : Value} (h : Off ok w w1) (hc : w.cell? a = some v) (hn : ¬ ok a.block) : w1.cell? a = some v :=
  (World.cell?_of_block (h.block a.block (World.block_lt_of_cell? w a hc) hn)).trans hc
theorem Off.foot {P : World → Prop} {okx : Nat → Prop} (hf : Foot P w okx) (h : Off ok w w1) (hap : ∀ k, okx k → ¬ ok k) : Foot P w1 okx := hf.step (fun k hk hlt => h.block k hlt (hap k hk))
theorem Off.F {α : Type} {d : Kd α} {A : Option Addr} {n : Nat} {xs : List α} {okx : Nat → Prop} (hf : Kd.F d w okx A n xs) (h : Off ok w w1) (hap : ∀ k, okx k → ¬ ok k) : Kd.F d w1 okx A n xs := Off.foot hf h hap
theorem Off.keepB {B : Nat} (h : Below B w w1) (k : Off ok w1 w2) (hok : ∀ k, ok k → B ≤ k) (hB : B ≤ w1.heap.size) : Below B w w2 := h.trans (k.to_below hB hok)
end
/-- it abides the turn of a block that is no cells, new since w -/
theorem ownFrom_off {β : Type} {B : Nat} {ok : Nat → Prop} {w : World} (hB : w.heap.size ≤ B) : OwnFrom B (fun (_ : β) W => Off ok w W) := fun s X Y row hs hg hr =>
  hs.grown hg (fun k e => .inr (by have := (hr k e).1; omega))
theorem S_noncells {α : Type} {d : Kd α} {e : Nat} {X Y : World} {base : Nat} {ok : Nat → Prop} {v : Value} {xs : List α} {row : Option Nat} (h : Kd.S d e X base ok v xs) (hg : X.grownBy Y row)
    (hr : ∀ r, row = some r → ∃ o : Obj, X.heap[r]? = some o ∧ o.isCells = false) : Kd.S d e Y base ok v xs := by
  refine Kd.S_mono (Kd.S_grown (Kd.S_bound h) hg (fun k hk e1 => ?_)) (fun _ hk => hk.1)
  obtain ⟨o, ho, hc⟩ := hr k e1.symm
  obtain ⟨_, _, _, q, _, cells, hcells⟩ := hk
  rw [hcells] at ho
  cases ho
  cases hc
theorem keeps_S {α : Type} {d : Kd α} {e : Nat} {X Y : World} {base : Nat} {ok : Nat → Prop} {v : Value} {xs : List α} (h : Kd.S d e X base ok v xs) (hg : X.grownBy Y v.ownBlock) : KeepsOthers X Y := keeps_R (Kd.S_R h) hg

/-- a builtin whose run is known, in a plain region of a round -/
theorem builtin_in {F : Fence} {n : Nat} {P : Program} {ops : Array Oper} {rest : List Oper} {o : Oper} {a : Act} {Q : Exit → Act → World → Prop} {w w1 : World} {args : Array Operand} {tys : Array TypeId} {v : Value}
    (hgd : o.guard = none) (ho : o.op = .call { callee := .builtin .copy, args := args, argTypes := tys }) (hrun : (Builtin.copy_ tys o.type (args.map a.eval)).run P w = .ok v w1)
    (h : wpListIn F n P ops Q rest (a.put o.dst v) w1) : wpListIn F n P ops Q (o :: rest) a w := by
  refine wpListIn_plain hgd fun K hK => ?_
  unfold Oper.wpIn
  refine ⟨by simp [Oper.about, ho, resolve, Target.leads, Sem.run_pure], ?_⟩
  rw [Oper.semAt_plain F _ _ (by rw [ho]; intro c hc; cases hc)]
  simp only [execOp, ho, resolve, invoke, builtin, Sem.run_bind, Sem.run_pure, Result.andThen_ok, hrun]
  exact hK _ _ h
/-- copy into a row of numbers of one's own from f on, out of a row that is read and fits -/
theorem copy_from {P : Program} {k : IntKind} {dT sT ty elem : TypeId} (hu : P.underlying dT = some (.slice elem)) (hs1 : (P.info? elem).map (·.size) = some 1)
    {W : World} {base : Nat} {ok : Nat → Prop} {A : Option Addr} {c : Nat} {zs : List Int} (hR : Kd.R (Kd.int k) elem W base ok (.slice A zs.length c) zs)
    {f : Nat} {B : Option Addr} {m cm : Nat} {q : List Int} (hC : Kd.C (Kd.int k) W B m q) (hm : 0 < m) (ht : f + m ≤ zs.length) :
    ∃ W', (Builtin.copy_ #[dT, sT] ty #[.slice (A.map (fun x => x.add f)) (zs.length - f) (c - f), .slice B m cm]).run P W = .ok (goInt (m : Int)) W' ∧
      Kd.R (Kd.int k) elem W' base ok (.slice A zs.length c) (Go.splice zs f q) ∧ W.grownBy W' (Value.slice A zs.length c).ownBlock := by
  have hql : q.length = m := Kd.C_len hC
  have hown := Kd.own_of_R hR
  obtain ⟨hlen, (⟨_, hz⟩ | ⟨g, cap, cur, hv, hbg, hg, hnc, hcx, hcs, hck⟩)⟩ := hown
  · omega
  injection hv with hA _ hc
  subst hA hc
  obtain ⟨ad, rfl, hcell⟩ := C_cells hC hm
  simp only [Option.map_some, add_plain]
  have hsz : cur.toList.take zs.length = nums k zs := by simpa [encs, nums] using hck
  have hcl : zs.length ≤ cur.size := by rw [hcs]; omega
  have hrun := run_copy_row (P := P) W dT sT ty elem g f (zs.length - f) (c - f) ad m cm cur elem (nums k q) hu hs1 hg
    (by rw [nums_length, hql]; exact (Nat.min_eq_left (by omega)).symm) (fun j v hj => hcell j v hj) (by rw [nums_length, hql]; omega) nums_one
  rw [nums_length, hql] at hrun
  refine ⟨_, hrun, ?_, ⟨rfl, rfl, rfl, by simp [World.setRow], fun k _ hne => setRow_other W g k _ (fun e => hne (by rw [e]; rfl))⟩⟩
  have hsl : (Go.splice zs f q).length = zs.length := by simp [Go.splice]; omega
  have hcur : (cur.toList.take f ++ nums k q ++ cur.toList.drop (f + m)).take zs.length = nums k (Go.splice zs f q) := by
    rw [show Go.splice zs f q = zs.take f ++ q ++ zs.drop (f + q.length) by simp [Go.splice]]
    rw [nums_append, nums_append, show nums k (zs.take f) = (nums k zs).take f by simp [nums], show nums k (zs.drop (f + q.length)) = (nums k zs).drop (f + q.length) by simp [nums], ← hsz, hql, List.take_take, Nat.min_eq_left (by omega)]
    rw [List.take_append, List.take_append]
    simp only [List.length_take, List.length_append, nums_length, Array.length_toList]
    rw [List.take_of_length_le (l := cur.toList.take f) (by simp; omega), List.take_of_length_le (l := nums k q) (by rw [nums_length]; omega)]
    congr 1
    rw [List.drop_take]
    congr 1
    omega
  refine Kd.R_of_own ⟨by rw [encs_length]; simp, .inr ⟨g, c, _, by rw [hsl], hbg, setRow_heap _ _ _ _ _ _ hg, by rw [hsl]; exact hnc, hcx, ?_, ?_⟩⟩ hR.1
  · simp only [List.size_toArray, List.length_append, List.length_take, List.length_drop, nums_length, Array.length_toList]
    rw [hcs] at *
    omega
  · rw [hsl, Nat.mul_one]
    simpa [encs, nums] using hcur
end Go.Proofs.YthcafgjcgikgpaaBase
