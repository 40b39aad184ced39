/- A range over a function whose iterator may itself write memory between two rounds: the caller's invariant abides what the iterator writes (Wr); what the iterator tells at its end may speak of the world. -/
import Derived.Test.YtppjeikkodjjhaaBase
import Derived.RangeFuncNested
import Derived.RangeFuncBound
import Derived.RangeFuncCalls
import Derived.RangeFuncLeaves
import Derived.RangeFuncBox
namespace Go.Proofs.YtppjeikkodjjhaaBase
open Go.RowKit
set_option linter.unusedVariables false
section
variable {F : Fence} {n : Nat} {P : Program}

/-- what an iterator promises that may write by Wr between two rounds -/
def SeqW {α : Type} (F : Fence) (n : Nat) (P : Program) (g : Nat) (lb : Array Value) (encs : α → Array Value) (Kp Wr : World → World → Prop) (S Sp : List α → World → Prop) (N : Nat) (w : World) : Prop :=
  ∀ (l : Nat) (J Jx : List α → World → Prop) (W : World), Below w.heap.size w W → AbidesFrom W.heap.size J → AbidesFrom W.heap.size Jx → (∀ s A B, J s A → Wr A B → J s B) →
    (∀ pre x W1, J pre W1 → pre.length < N → YieldAt F (n - 1) P l (encs x) W1 fun e W' =>
      (e = .returned (.bool true) ∧ J (pre ++ [x]) W' ∧ Kp W1 W') ∨ (e = .returned (.bool false) ∧ Jx (pre ++ [x]) W' ∧ Kp W1 W')) →
    J [] W →
    CallsIn F n P g (#[.func (.yield l) #[] #[]] ++ lb) W fun e W' => (∃ v, e = .returned v) ∧ ((∃ xs, S xs W' ∧ J xs W') ∨ (∃ pre, Sp pre W' ∧ Jx pre W'))

/-- how a round's body may be left -/
def postW {α : Type} (B : Nat) (Kp : World → World → Prop) (I : List α → World → Prop) (Ix : Code → List α → World → Prop) (xs : List α) (W : World) : Exit → Act → World → Prop
  | .normal, _, W' => KeepsFrom B W W' ∧ Kp W W' ∧ I xs W'
  | .ret, _, W' => KeepsFrom B W W' ∧ Kp W W' ∧ Ix .ret xs W'
  | .exit id, _, W' => KeepsFrom B W W' ∧ Kp W W' ∧ Ix (.exit id) xs W'
  | .goto t, _, W' => KeepsFrom B W W' ∧ Kp W W' ∧ Ix (.goto t) xs W'
  | .panic _, _, _ => False
  | .outgrown, _, _ => False

/-- the loop's own two blocks -/
structure Book (L : Nat) (r : Loop) (W : World) : Prop where
  loop_ : W.heap[L + 1]? = some (.loop r)
  def_ : W.heap[L]? = some (.deferred (some []))

theorem Book.grown {L : Nat} {r : Loop} {A B : World} {row : Option Nat} (h : Book L r A) (hg : A.grownBy B row) (hr : ∀ k, row = some k → ∃ o : Obj, A.heap[k]? = some o ∧ o.isWalk = true) : Book L r B :=
  ⟨(grownBy_keeps hg hr h.loop_ rfl).trans h.loop_, (grownBy_keeps hg hr h.def_ rfl).trans h.def_⟩
theorem Book.others {L : Nat} {r : Loop} {A B : World} (h : Book L r A) (k : KeepsOthers A B) : Book L r B := ⟨k.same _ _ h.loop_ rfl, k.same _ _ h.def_ rfl⟩
theorem Book.from_ {L : Nat} {r : Loop} {A B : World} (h : Book L r A) (k : KeepsFrom L A B) : Book L r B := ⟨k.same _ _ (Nat.le_succ _) h.loop_ rfl, k.same _ _ (Nat.le_refl _) h.def_ rfl⟩
theorem Book.turn {L : Nat} {r : Loop} {A : World} (h : Book L r A) (r' : Loop) : Book L r' (A.putObj (L + 1) (.loop r')) :=
  ⟨World.putObj_heap_same (Array.getElem?_eq_some_iff.1 h.loop_).1, (World.putObj_heap_other (by omega)).trans h.def_⟩

theorem wpIn_rangeFunc_W {α : Type} {g : Operand} {ps : Array Tmp} {assign body : Code} {Q : Exit → Act → World → Prop} {a : Act} {w : World}
    (hro : F.round = none) (h1 : 1 ≤ n) {gf : Nat} {lb : Array Value} (hg : a.eval g = .func (.func gf) #[] lb) (hFg : F.fn gf) (eg : ∀ args w, (callFunc gf args).run P w = .ok (.enter gf args) w)
    {encs : α → Array Value} {Kp Wr : World → World → Prop} {S Sp : List α → World → Prop} {N : Nat} {w0 : World} (hseq : SeqW F (n - 1) P gf lb encs Kp Wr S Sp N w0)
    (hKt : ∀ {A B C : World}, Kp A B → Kp B C → Kp A C) (hKb : ∀ (W : World) (l : Nat) (o o' : Obj), w.heap.size ≤ l → W.heap[l]? = some o → o.isCells = false → o.isWalk = false → Kp W (W.putObj l o'))
    (hWr : ∀ A B, Wr A B → KeepsOthers A B) (hb0 : Below w0.heap.size w0 w) (hps : ∀ x, (encs x).size = ps.size)
    (I : List α → World → Prop) (Ix : Code → List α → World → Prop) (hI : OwnFrom w.heap.size I) (hIw : ∀ s A B, I s A → Wr A B → I s B) (hIx : ∀ c, OwnFrom w.heap.size (Ix c))
    (hS : OwnFrom w.heap.size S) (hSp : OwnFrom w.heap.size Sp) (h0 : I [] w) (a₁ : α → Act)
    (hassign : ∀ (l : Nat) (x : α) (W : World) (K : Act → World → Prop), K (a₁ x) W →
      assign.wpIn (F.inRound l) (n - 1 - 1) P (Exit.then K (fun _ _ _ => False)) { tmps := (ps.zip (encs x)).foldl (fun t (p, v) => t.setIfInBounds p v) a.tmps, defers := [] } W)
    (hbody : ∀ (l : Nat) (pre : List α) (x : α) (W : World), I pre W → pre.length < N → body.wpIn (F.inRound l) (n - 1 - 1) P (postW w.heap.size Kp I Ix (pre ++ [x]) W) (a₁ x) W)
    (hdone : ∀ (D : Nat) (xs : List α) (W : World), w.heap.size ≤ D → S xs W → I xs W → W.heap[D]? = some (.deferred (some [])) → Q .normal { a with defers := { target := .collected D, args := #[] } :: a.defers } W)
    (hstop : ∀ (D : Nat) (c : Code) (pre : List α) (W : World), w.heap.size ≤ D → Sp pre W → Ix c pre W → W.heap[D]? = some (.deferred (some [])) → c.wpIn F n P Q { a with defers := { target := .collected D, args := #[] } :: a.defers } W) :
    (Code.rangeFunc g ps assign body).wpIn F n P Q a w := by
  refine wpIn_rangeFunc fun fn hfn => ?_
  rw [hro]
  obtain ⟨mk, hmk⟩ : ∃ mk : LoopState → Option Code → Loop, mk = fun st pe => { state := st, pending := pe, fn, tmps := a.tmps, params := ps, assign, body, defers := w.heap.size } := ⟨_, rfl⟩
  have hpar : ∀ st pe, (mk st pe).params = ps := by rw [hmk]; intro _ _; rfl
  obtain ⟨V, hV⟩ : ∃ V, (w.alloc (.deferred (some []))).alloc (.loop (mk .ready none)) = V := ⟨_, rfl⟩
  have hVs : V.heap.size = w.heap.size + 2 := by rw [← hV]; simp
  have bV : Book w.heap.size (mk .ready none) V := by
    rw [← hV]
    refine ⟨?_, (Below.heap_alloc _ _ _ (by simp)).trans (World.alloc_heap_new w _)⟩
    have := World.alloc_heap_new (w.alloc (.deferred (some []))) (.loop (mk .ready none))
    rwa [World.size_alloc] at this
  have iV : I [] V := by rw [← hV]; exact hI.alloc _ (hI.alloc _ h0)
  have beV : Below w0.heap.size w0 V := by
    rw [← hV]
    exact hb0.trans ((((Below.refl _ w).alloc (Nat.le_refl _) _).alloc (by simp) _).mono hb0.size)
  have walkfree : ∀ {A : World} {row : Option Nat}, (∀ r, row = some r → V.heap.size ≤ r ∧ ∃ o : Obj, A.heap[r]? = some o ∧ o.isWalk = true) → (∀ r, row = some r → w.heap.size ≤ r ∧ ∃ o : Obj, A.heap[r]? = some o ∧ o.isCells = false) := by
    intro A row hr r e
    obtain ⟨hB, o, ho, hw⟩ := hr r e
    exact ⟨by omega, o, ho, Obj.not_cells_of_walk hw⟩
  refine ⟨w.heap.size + 1, [{ target := .collected w.heap.size, args := #[] }], V, { target := .fn (.func gf) lb, args := #[.func (.yield (w.heap.size + 1)) #[] #[]] }, V, gf,
    #[.func (.yield (w.heap.size + 1)) #[] #[]] ++ lb, V, ?_, ?_, ?_, ?_, fun _ => h1, ?_⟩
  · rw [← hV, hmk]
    exact run_enterLoop_outer _ _ _ _ _
  · simp only [resolve, hg]
    simp [go_sem]
  · intro f' hf'
    simp [Target.leads] at hf'
    exact hf' ▸ hFg
  · simp [invoke, go_sem, eg]
  have hcall := hseq (w.heap.size + 1) (fun pre W => I pre W ∧ Book w.heap.size (mk .ready none) W) (fun pre W => ∃ c, Ix c pre W ∧ Book w.heap.size (mk .done (some c)) W) V beV
    (fun s A B row hs hgr hr => ⟨hI s A B row hs.1 hgr (walkfree hr), hs.2.grown hgr (fun r e => (hr r e).2)⟩)
    (fun s A B row hs hgr hr => hs.imp fun c hc => ⟨hIx c s A B row hc.1 hgr (walkfree hr), hc.2.grown hgr (fun r e => (hr r e).2)⟩)
    (fun s A B hs hw => ⟨hIw s A B hs.1 hw, hs.2.others (hWr A B hw)⟩) ?round ⟨iV, bV⟩
  case round =>
    rintro pre x W ⟨hi, bW⟩ hlen
    have hrun := run_yield (P := P) (args := encs x) bW.loop_ (by rw [hpar]; exact hps x)
    have hfields : (mk .ready none).fn = fn ∧ (mk .ready none).tmps = a.tmps ∧ (mk .ready none).assign = assign ∧ (mk .ready none).body = body ∧ (mk .ready none).state = .ready := by rw [hmk]; exact ⟨rfl, rfl, rfl, rfl, rfl⟩
    have hbusy : ({ mk .ready none with state := .busy } : Loop) = mk .busy none := by rw [hmk]
    obtain ⟨f1, f2, f3, f4, f5⟩ := hfields
    rw [hpar, f1, f2, f3, f4] at hrun
    refine ⟨fn, _, assign, body, hrun, roundIn_of_wpIn hfn (hassign _ x W _ ⟨_, run_beginRound bW.loop_ f5, ?_⟩)⟩
    rw [hbusy]
    have bB : Book w.heap.size (mk .busy none) (W.putObj (w.heap.size + 1) (.loop (mk .busy none))) := bW.turn _
    have kB : Kp W (W.putObj (w.heap.size + 1) (.loop (mk .busy none))) := hKb _ _ _ _ (by omega) bW.loop_ rfl rfl
    refine wpIn_mono (hbody _ pre x _ (hI.putObj _ hi (by omega) bW.loop_ rfl) hlen) ?_
    have leave : ∀ (jump : Option Code) (W3 : World), Book w.heap.size (mk .busy none) W3 →
        (Instr.endRound (w.heap.size + 1) jump).run P W3 = .ok (.bool jump.isNone) (W3.putObj (w.heap.size + 1) (.loop (mk (if jump.isNone then .ready else .done) jump))) := by
      intro jump W3 h3
      have := run_endRound (P := P) jump h3.loop_
      rw [hmk] at this ⊢
      exact this
    have kE : ∀ {W3 : World} (r' : Loop), Book w.heap.size (mk .busy none) W3 → Kp (W.putObj (w.heap.size + 1) (.loop (mk .busy none))) W3 → Kp W (W3.putObj (w.heap.size + 1) (.loop r')) :=
      fun r' h3 hk => hKt (hKt kB hk) (hKb _ _ _ _ (by omega) h3.loop_ rfl rfl)
    have out : ∀ (c : Code) (W3 : World), KeepsFrom w.heap.size (W.putObj (w.heap.size + 1) (.loop (mk .busy none))) W3 ∧ Kp (W.putObj (w.heap.size + 1) (.loop (mk .busy none))) W3 ∧ Ix c (pre ++ [x]) W3 →
        ∃ v w', (Instr.endRound (w.heap.size + 1) (some c)).run P W3 = .ok v w' ∧
          ((Ending.returned v = .returned (.bool true) ∧ (I (pre ++ [x]) w' ∧ Book w.heap.size (mk .ready none) w') ∧ Kp W w') ∨
          (Ending.returned v = .returned (.bool false) ∧ (∃ c, Ix c (pre ++ [x]) w' ∧ Book w.heap.size (mk .done (some c)) w') ∧ Kp W w')) := by
      rintro c W3 ⟨hk3, hkp, hx3⟩
      have b3 := bB.from_ hk3
      exact ⟨_, _, leave (some c) W3 b3, .inr ⟨rfl, ⟨c, (hIx _).putObj _ hx3 (by omega) b3.loop_ rfl, b3.turn _⟩, kE _ b3 hkp⟩⟩
    intro e a3 W3 hp
    cases e with
    | normal =>
      obtain ⟨hk3, hkp, hi3⟩ := hp
      have b3 := bB.from_ hk3
      exact ⟨_, _, leave none W3 b3, .inl ⟨rfl, ⟨hI.putObj _ hi3 (by omega) b3.loop_ rfl, b3.turn _⟩, kE _ b3 hkp⟩⟩
    | ret => exact out .ret W3 hp
    | exit id => exact out (.exit id) W3 hp
    | goto t => exact out (.goto t) W3 hp
    | panic ch => exact hp.elim
    | outgrown => exact hp.elim
  refine hcall.mono ?_
  rintro e W2 ⟨⟨v, rfl⟩, (⟨xs, hSx, hi, bk⟩ | ⟨pre, hSx, c, hi, bk⟩)⟩
  · obtain ⟨r', hr'⟩ : ∃ r' : Loop, (Instr.endLoop (w.heap.size + 1)).run P W2 = .ok none (W2.putObj (w.heap.size + 1) (.loop r')) := by
      have := run_endLoop (P := P) bk.loop_ (by rw [hmk]; simp)
      rw [hmk] at this
      exact ⟨_, this⟩
    exact ⟨none, _, hr', hdone _ xs _ (Nat.le_refl _) (hS.putObj _ hSx (by omega) bk.loop_ rfl) (hI.putObj _ hi (by omega) bk.loop_ rfl) ((World.putObj_heap_other (by omega)).trans bk.def_)⟩
  · obtain ⟨r', hr'⟩ : ∃ r' : Loop, (Instr.endLoop (w.heap.size + 1)).run P W2 = .ok (some c) (W2.putObj (w.heap.size + 1) (.loop r')) := by
      have := run_endLoop (P := P) bk.loop_ (by rw [hmk]; simp)
      rw [hmk] at this
      exact ⟨_, this⟩
    exact ⟨some c, _, hr', hstop _ c pre _ (Nat.le_refl _) (hSp.putObj _ hSx (by omega) bk.loop_ rfl) ((hIx c).putObj _ hi (by omega) bk.loop_ rfl) ((World.putObj_heap_other (by omega)).trans bk.def_)⟩
end
end Go.Proofs.YtppjeikkodjjhaaBase
