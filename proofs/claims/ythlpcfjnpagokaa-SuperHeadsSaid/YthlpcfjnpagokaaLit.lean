/- append onto a row of bytes that a conversion of a constant string has made (its block's place behind the last byte is frozen, so it is no row of one's own; it is full, so a new row is made). -/
import Derived.Test.YthlpcfjnpagokaaBaseIn
import Derived.ArgAppend
namespace Go.Proofs.YthlpcfjnpagokaaBase
open Go.RowKit Go.Proofs.YthlpcfjnpagokaaW.PrintWords
set_option linter.unusedVariables false
set_option linter.unusedSimpArgs false

theorem lit_append {P : Program} {ops : Array Oper} {rest : List Oper} {o : Oper} {a : Act} {Q : Exit → Act → World → Prop} {w0 W : World} {base : Nat} {ok : Nat → Prop} (hgd : o.guard = none) (s x : Operand) (t e : TypeId)
    (ho : o.op = .call { callee := .builtin .append, args := #[s, x], argTypes := #[t, t] }) (ht : P.underlying t = some (.slice e)) (hinfo : (P.info? e).map (fun i => (i.zero, i.size, i.bytes)) = some (some (.int .u8 0), 1, 1))
    (g0 : Nat) (fr : Nat × Nat) (lit : List Int) (y : Int) (hs : a.eval s = .slice (some ⟨g0, 0, none⟩) lit.length lit.length) (hx : a.eval x = .slice (some ⟨W.heap.size, 0, none⟩) 1 1)
    (hblk : W.heap[g0]? = some (.cells (nums .u8 lit).toArray e fr)) (hfresh : ∀ k, W.heap.size ≤ k → ok k) (HB : Below base w0 W) (hbase : base ≤ W.heap.size) (hl : lit.length < 100000)
    (h : ∀ v1 w1, Kd.R (Kd.int .u8) e w1 base ok v1 (lit ++ [y]) → Below base w0 w1 → wpList P ops Q rest (a.put o.dst v1) w1) :
    wpList P ops Q (o :: rest) a (W.alloc (.cells [Value.int .u8 y].toArray e)) := by
  obtain ⟨i0, hi, hzz⟩ := Option.map_eq_some_iff.1 hinfo
  simp only [Prod.mk.injEq] at hzz
  obtain ⟨hz0, hz1, hz2⟩ := hzz
  have hb1 : (W.alloc (.cells [Value.int .u8 y].toArray e)).heap[g0]? = some (.cells (nums .u8 lit).toArray e fr) := blk_alloc hblk _
  refine wpList_append_grows (W.alloc (.cells [Value.int .u8 y].toArray e)) hgd s x t ho e i0 (.int .u8 0) 1 1 ht hi hz0 hz1 hz2 rfl (by decide) (some ⟨g0, 0, none⟩) lit.length lit.length (nums .u8 lit) hs (fun h => by cases h)
    (by simp [nums]) (fun b eb j u hu => by
      obtain rfl := Option.some.inj eb
      rw [Addr.add_lit, cell_of_row _ _ _ _ _ _ hb1, Nat.zero_add]
      simpa using hu) ⟨W.heap.size, 0, none⟩ 1 1 [.int .u8 y] hx rfl
    (by simpa using World.news_of_block (cs := #[Value.int .u8 y]) (t := e) (fr := (0, 0)) (heap_alloc_new W (.cells #[Value.int .u8 y] e))) (fun u hu => by rw [List.mem_singleton.1 hu]; rfl) (by omega) (by simp only [maxLen]; omega) (by omega) ?_
  intro v1 w1 hown hg
  have hB1 : Below base w0 w1 := (HB.alloc hbase _).grown hg (by simp; omega) (fun k hk => by cases hk)
  refine h v1 w1 ?_ hB1
  have h1 : Kd.R (Kd.int .u8) e w1 (W.alloc (.cells [Value.int .u8 y].toArray e)).heap.size (fun k => (W.alloc (.cells [Value.int .u8 y].toArray e)).heap.size ≤ k) v1 (lit ++ [y]) :=
    Kd.R_of_own (h1 := fun _ => rfl) (by simpa [nums, encs] using hown) (fun k hk => own_base hown k hk)
  exact Kd.R_lower (Kd.R_mono h1 (fun k hk => hfresh k (by simp at hk; omega))) (by simp; omega)

/-! the literal's own two steps: the row is laid; the conversion marks the place behind it -/
theorem run_freeze {P : Program} (W : World) (T e : TypeId) (hT : P.underlying T = some (.slice e)) (he : P.underlying e = some (.int .u8)) (g n : Nat) (cs : Array Value) (hn : cs.size = n) (hg : W.heap[g]? = some (.cells cs e (0, 0))) :
    ∃ w1, (convert T T (.slice (some ⟨g, 0, none⟩) n n)).run P W = .ok (.slice (some ⟨g, 0, none⟩) n n) w1 ∧ w1.heap[g]? = some (.cells cs e (n, n + 1)) ∧ W.grownBy w1 (some g) := by
  have hsh : W.shape? g = some (e, n) := by
    unfold World.shape?
    rw [hg]
    simp [hn]
  refine ⟨W.freeze ⟨g, n, none⟩ 1, ?_, ?_, ?_⟩
  · simp [convert, run_underlying hT, run_underlying he, markStringish, hsh]
  · unfold World.freeze
    rw [if_neg (by decide)]
    show (W.heap.modify g _)[g]? = _
    rw [Array.getElem?_modify, if_pos rfl, hg]
    simp
  · unfold World.freeze
    rw [if_neg (by decide)]
    refine ⟨rfl, rfl, rfl, by simp, fun k hk hne => ?_⟩
    show (W.heap.modify g _)[k]? = _
    rw [Array.getElem?_modify, if_neg (fun e => hne (by rw [e]))]
section
variable {P : Program} {ops : Array Oper} {rest : List Oper} {o : Oper} {a : Act} {Q : Exit → Act → World → Prop} {Kc : Act → World → Prop}
theorem slice_event {W : World} (hgd : o.guard = none) {N : Tmp} (_hd : o.dst = some N) {cs : Array Value} {t : TypeId} {n : Nat}
    (hrun : (execOp a.eval o).run P W = .ok (.value (.slice (some ⟨W.heap.size, 0, none⟩) n n)) (W.alloc (.cells cs t (0, 0))))
    (h : ∀ g, g = W.heap.size → ∀ w1, w1.heap[g]? = some (.cells cs t (0, 0)) → Below W.heap.size W w1 → wpList P ops Q rest (a.put o.dst (.slice (some ⟨g, 0, none⟩) n n)) w1) : wpList P ops Q (o :: rest) a W :=
  Kd.event_run hgd hrun (h _ rfl _ (blk_new W _) (below_alloc (Below.refl _ _) _))
theorem slice_step {W : World} (hw : Region.wanted o (yielded ops a.tmps) = true) {N : Tmp} (_hd : o.dst = some N) {cs : Array Value} {t : TypeId} {n : Nat}
    (hrun : (execOp a.eval o).run P W = .ok (.value (.slice (some ⟨W.heap.size, 0, none⟩) n n)) (W.alloc (.cells cs t (0, 0))))
    (h : ∀ g, g = W.heap.size → ∀ w1, w1.heap[g]? = some (.cells cs t (0, 0)) → Below W.heap.size W w1 → Kc (a.put o.dst (.slice (some ⟨g, 0, none⟩) n n)) w1) :
    if Region.wanted o (yielded ops a.tmps) = true then Oper.wp P o a W Kc Q else Kc (a.put o.dst undef) W :=
  event_step hw hrun (h _ rfl _ (blk_new W _) (below_alloc (Below.refl _ _) _))
theorem freeze_event {W : World} (hgd : o.guard = none) (T e : TypeId) (x : Operand) (ho : o.op = .convert T T x) (hT : P.underlying T = some (.slice e)) (he : P.underlying e = some (.int .u8)) (g n : Nat) (cs : Array Value) (hn : cs.size = n)
    (hx : a.eval x = .slice (some ⟨g, 0, none⟩) n n) (hg : W.heap[g]? = some (.cells cs e (0, 0)))
    (h : ∀ w1, w1.heap[g]? = some (.cells cs e (n, n + 1)) → W.grownBy w1 (some g) → wpList P ops Q rest (a.put o.dst (.slice (some ⟨g, 0, none⟩) n n)) w1) : wpList P ops Q (o :: rest) a W := by
  obtain ⟨w1, hr, h1, h2⟩ := run_freeze (P := P) W T e hT he g n cs hn hg
  exact Kd.event_run hgd (by simp [execOp, ho, hx, hr, Result.andThen]) (h w1 h1 h2)
theorem freeze_step {W : World} (hw : Region.wanted o (yielded ops a.tmps) = true) (T e : TypeId) (x : Operand) (ho : o.op = .convert T T x) (hT : P.underlying T = some (.slice e)) (he : P.underlying e = some (.int .u8)) (g n : Nat) (cs : Array Value) (hn : cs.size = n)
    (hx : a.eval x = .slice (some ⟨g, 0, none⟩) n n) (hg : W.heap[g]? = some (.cells cs e (0, 0)))
    (h : ∀ w1, w1.heap[g]? = some (.cells cs e (n, n + 1)) → W.grownBy w1 (some g) → Kc (a.put o.dst (.slice (some ⟨g, 0, none⟩) n n)) w1) :
    if Region.wanted o (yielded ops a.tmps) = true then Oper.wp P o a W Kc Q else Kc (a.put o.dst undef) W := by
  obtain ⟨w1, hr, h1, h2⟩ := run_freeze (P := P) W T e hT he g n cs hn hg
  exact event_step hw (by simp [execOp, ho, hx, hr, Result.andThen]) (h w1 h1 h2)
end
end Go.Proofs.YthlpcfjnpagokaaBase
