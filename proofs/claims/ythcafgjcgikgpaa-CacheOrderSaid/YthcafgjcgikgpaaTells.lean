/- What a reading of arguments tells: the cells that are read as data of a type hold a value of its kind. For the rows of laws whose arguments are structs or slices of structs. -/
import Derived.Test.YthcafgjcgikgpaaWWords
import Derived.WalkKit
import Derived.ProofKit
import Derived.OpenShut
import Derived.ShutString
import Derived.ChangeOld
import Derived.Below
import Derived.Deep.Slices
namespace Go.Proofs.YthcafgjcgikgpaaBase
open Go.RowKit Go.Proofs.YthcafgjcgikgpaaW.PrintWords
set_option linter.unusedVariables false

/-- cells of type t that can be read hold some x of the kind d, and φ x -/
def Tells {α : Type} (P : Program) (w : World) (t : TypeId) (d : Kd α) (φ : α → Prop) : Prop :=
  ∀ (H : Type) (enc : TypeId × Value → H) (fuel : Nat) (cs : List Value) (x : DataW H × List MemPlace), DataW.trod enc P w 0 (fun _ => true) true fuel t cs = some x → ∃ y : α, d.K w y cs ∧ φ y

variable {P : Program} {w : World} {t e : TypeId}

theorem tells_int {k : IntKind} (ht : P.underlying t = some (.int k)) : Tells P w t (Kd.int k) (fun n => (Lit.int k n).wf = true) := fun H enc fuel cs x h => by
  obtain ⟨n, rfl, _, hw⟩ := DataW.trod_int ht h
  exact ⟨n, rfl, hw⟩
theorem tells_bool (ht : P.underlying t = some .bool) : Tells P w t Kd.bool (fun _ => True) := fun H enc fuel cs x h => by
  obtain ⟨n, rfl, _⟩ := DataW.trod_bool ht h
  exact ⟨n, rfl, trivial⟩
theorem tells_string (ht : P.underlying t = some .string) : Tells P w t Kd.string (fun s => s.size ≤ maxLen) := fun H enc fuel cs x h => by
  obtain ⟨s, rfl, _, hw⟩ := DataW.trod_string ht h
  exact ⟨s, rfl, hw⟩
theorem tells_imp {α : Type} {d : Kd α} {φ ψ : α → Prop} (h : Tells P w t d φ) (hi : ∀ x, φ x → ψ x) : Tells P w t d ψ := fun H enc fuel cs x hx => by
  obtain ⟨y, hy, hp⟩ := h H enc fuel cs x hx
  exact ⟨y, hy, hi y hp⟩
theorem tells_iso {α β : Type} {d : Kd α} {φ : α → Prop} (f : β → α) (g : α → β) (hfg : ∀ x, f (g x) = x) (h : Tells P w t d φ) : Tells P w t (Kd.iso d f) (fun x => φ (f x)) := fun H enc fuel cs x hx => by
  obtain ⟨y, hy, hp⟩ := h H enc fuel cs x hx
  exact ⟨g y, (show d.K w (f (g y)) cs from (hfg y).symm ▸ hy), (show φ (f (g y)) from (hfg y).symm ▸ hp)⟩

theorem cells_at {base : Nat} {a : Addr} {n : Nat} {cs : List Value} (h : w.cells? base a n = some cs) : cs.length = n ∧ ∀ i u, cs[i]? = some u → w.cell? (a.add i) = some u := by
  obtain ⟨h1, h2, h3⟩ := World.cells?_some h
  refine ⟨h2, fun i u hi => ?_⟩
  have hlt : i < n := by
    rw [← h2]
    exact (List.getElem?_eq_some_iff.1 hi).1
  have := h3 i hlt
  rw [hi] at this
  exact this

theorem tells_slice {α : Type} {d : Kd α} {φ : α → Prop} (ht : P.underlying t = some (.slice e)) (hc : P.cellsOf e = d.sz) (h : Tells P w e d φ) :
    Tells P w t (Kd.slice e d) (fun l => l.length ≤ maxLen ∧ ∀ y ∈ l, φ y) := fun H enc fuel cs x hx => by
  rcases Go.Deep.open_slice ht hx with ⟨rfl, rfl⟩ | ⟨a, len, cap, m, n, D, Pl, rfl, hb, hl, hm, hmm, rfl, hel⟩
  · exact ⟨[], ⟨none, 0, rfl, by simp, Kd.C_nil d w⟩, by simp, by simp⟩
  · simp only [if_true] at hmm
    subst hmm
    have hex : ∀ i, i < len → ∃ y : α, (∃ c, c.length = d.sz ∧ d.K w y c ∧ ∀ j u, c[j]? = some u → w.cell? (a.add (i * d.sz + j)) = some u) ∧ φ y := by
      intro i hi
      obtain ⟨cs', h1, h2⟩ := hel i (by omega)
      obtain ⟨y, hy, hp⟩ := h H enc n cs' _ h2
      rw [hc] at h1
      obtain ⟨h3, h4⟩ := cells_at h1
      refine ⟨y, ⟨cs', h3, hy, fun j u hj => ?_⟩, hp⟩
      have := h4 j u hj
      rwa [Addr.add_add] at this
    obtain ⟨l, hlen, hl2⟩ : ∃ l : List α, l.length = len ∧ ∀ i y, l[i]? = some y → (∃ c, c.length = d.sz ∧ d.K w y c ∧ ∀ j u, c[j]? = some u → w.cell? (a.add (i * d.sz + j)) = some u) ∧ φ y := by
      clear hel hx
      clear hm hl
      induction len with
      | zero => exact ⟨[], rfl, fun i y h => by simp at h⟩
      | succ n ih =>
        obtain ⟨l, h1, h2⟩ := ih (fun i hi => hex i (by omega))
        obtain ⟨y, hy⟩ := hex n (by omega)
        refine ⟨l ++ [y], by simp [h1], fun i z hz => ?_⟩
        by_cases hi : i < l.length
        · rw [List.getElem?_append_left hi] at hz
          exact h2 i z hz
        · have hin : i = n := by
            have := (List.getElem?_eq_some_iff.1 hz).1
            simp at this; omega
          subst hin
          rw [List.getElem?_append_right (by omega)] at hz
          simp [h1] at hz
          exact hz ▸ hy
    refine ⟨l, ⟨some a, m, by rw [hlen], by omega, ?_⟩, by omega, fun y hy => ?_⟩
    · refine ⟨rfl, by rw [hlen]; unfold maxLen at hm; omega, fun _ => ⟨a, rfl, fun j p hj => (hl2 j p hj).1⟩⟩
    · obtain ⟨i, hi, rfl⟩ := List.mem_iff_getElem.1 hy
      exact (hl2 i _ (List.getElem?_eq_getElem hi)).2

theorem seg2 {cs : List Value} {a b : Nat} (h : cs.length = a + b) : cs = (cs.drop 0).take a ++ (cs.drop a).take b := by
  rw [List.drop_zero, List.take_of_length_le (l := cs.drop a) (by simp; omega), List.take_append_drop]

theorem tells_struct2 {α β : Type} {d0 : Kd α} {d1 : Kd β} {φ0 : α → Prop} {φ1 : β → Prop} {f0 f1 : Field} (ht : P.underlying t = some (.struct #[f0, f1]))
    (hc : P.cellsOf t = d0.sz + d1.sz) (o0 : f0.offset = 0) (o1 : f1.offset = d0.sz) (c0 : P.cellsOf f0.type = d0.sz) (c1 : P.cellsOf f1.type = d1.sz)
    (h0 : Tells P w f0.type d0 φ0) (h1 : Tells P w f1.type d1 φ1) : Tells P w t (Kd.pair d0 d1) (fun x => φ0 x.1 ∧ φ1 x.2) := fun H enc fuel cs x hx => by
  obtain ⟨xs, n, _, rfl, hl, hlen, hf⟩ := DataW.trod_struct ht hx
  match xs, hlen with
  | [y0, y1], _ =>
    have e0 := hf 0 f0 rfl
    have e1 := hf 1 f1 rfl
    rw [o0, c0] at e0
    rw [o1, c1] at e1
    obtain ⟨z0, k0, p0⟩ := h0 H enc n _ _ e0
    obtain ⟨z1, k1, p1⟩ := h1 H enc n _ _ e1
    exact ⟨(z0, z1), ⟨_, _, seg2 (by omega), k0, k1⟩, p0, p1⟩

theorem seg3 {cs : List Value} {a b c : Nat} (h : cs.length = a + (b + c)) : cs = (cs.drop 0).take a ++ ((cs.drop a).take b ++ (cs.drop (a + b)).take c) := by
  have h1 : (cs.drop a).take b ++ (cs.drop (a + b)).take c = cs.drop a := by
    rw [← List.drop_drop, List.take_of_length_le (l := (cs.drop a).drop b) (by simp; omega), List.take_append_drop]
  rw [h1, List.drop_zero, List.take_append_drop]
theorem tells_struct3 {α β γ : Type} {d0 : Kd α} {d1 : Kd β} {d2 : Kd γ} {φ0 : α → Prop} {φ1 : β → Prop} {φ2 : γ → Prop} {f0 f1 f2 : Field} (ht : P.underlying t = some (.struct #[f0, f1, f2]))
    (hc : P.cellsOf t = d0.sz + (d1.sz + d2.sz)) (o0 : f0.offset = 0) (o1 : f1.offset = d0.sz) (o2 : f2.offset = d0.sz + d1.sz) (c0 : P.cellsOf f0.type = d0.sz) (c1 : P.cellsOf f1.type = d1.sz) (c2 : P.cellsOf f2.type = d2.sz)
    (h0 : Tells P w f0.type d0 φ0) (h1 : Tells P w f1.type d1 φ1) (h2 : Tells P w f2.type d2 φ2) : Tells P w t (Kd.pair d0 (Kd.pair d1 d2)) (fun x => φ0 x.1 ∧ φ1 x.2.1 ∧ φ2 x.2.2) := fun H enc fuel cs x hx => by
  obtain ⟨xs, n, _, rfl, hl, hlen, hf⟩ := DataW.trod_struct ht hx
  match xs, hlen with
  | [y0, y1, y2], _ =>
    have e0 := hf 0 f0 rfl
    have e1 := hf 1 f1 rfl
    have e2 := hf 2 f2 rfl
    rw [o0, c0] at e0
    rw [o1, c1] at e1
    rw [o2, c2] at e2
    obtain ⟨z0, k0, p0⟩ := h0 H enc n _ _ e0
    obtain ⟨z1, k1, p1⟩ := h1 H enc n _ _ e1
    obtain ⟨z2, k2, p2⟩ := h2 H enc n _ _ e2
    exact ⟨(z0, z1, z2), ⟨_, _, seg3 (by omega), k0, _, _, rfl, k1, k2⟩, p0, p1, p2⟩

theorem seg4 {cs : List Value} {a b c d : Nat} (h : cs.length = a + (b + (c + d))) : cs = (cs.drop 0).take a ++ ((cs.drop a).take b ++ ((cs.drop (a + b)).take c ++ (cs.drop (a + b + c)).take d)) := by
  have h1 := seg3 (cs := cs.drop a) (a := b) (b := c) (c := d) (by simp; omega)
  rw [List.drop_drop, List.drop_drop, List.drop_drop, Nat.add_zero, ← Nat.add_assoc] at h1
  rw [← h1, List.drop_zero, List.take_append_drop]
theorem tells_struct4 {α β γ δ : Type} {d0 : Kd α} {d1 : Kd β} {d2 : Kd γ} {d3 : Kd δ} {φ0 : α → Prop} {φ1 : β → Prop} {φ2 : γ → Prop} {φ3 : δ → Prop} {f0 f1 f2 f3 : Field} (ht : P.underlying t = some (.struct #[f0, f1, f2, f3]))
    (hc : P.cellsOf t = d0.sz + (d1.sz + (d2.sz + d3.sz))) (o0 : f0.offset = 0) (o1 : f1.offset = d0.sz) (o2 : f2.offset = d0.sz + d1.sz) (o3 : f3.offset = d0.sz + d1.sz + d2.sz) (c0 : P.cellsOf f0.type = d0.sz) (c1 : P.cellsOf f1.type = d1.sz) (c2 : P.cellsOf f2.type = d2.sz) (c3 : P.cellsOf f3.type = d3.sz)
    (h0 : Tells P w f0.type d0 φ0) (h1 : Tells P w f1.type d1 φ1) (h2 : Tells P w f2.type d2 φ2) (h3 : Tells P w f3.type d3 φ3) : Tells P w t (Kd.pair d0 (Kd.pair d1 (Kd.pair d2 d3))) (fun x => φ0 x.1 ∧ φ1 x.2.1 ∧ φ2 x.2.2.1 ∧ φ3 x.2.2.2) := fun H enc fuel cs x hx => by
  obtain ⟨xs, n, _, rfl, hl, hlen, hf⟩ := DataW.trod_struct ht hx
  match xs, hlen with
  | [y0, y1, y2, y3], _ =>
    have e0 := hf 0 f0 rfl
    have e1 := hf 1 f1 rfl
    have e2 := hf 2 f2 rfl
    have e3 := hf 3 f3 rfl
    rw [o0, c0] at e0
    rw [o1, c1] at e1
    rw [o2, c2] at e2
    rw [o3, c3] at e3
    obtain ⟨z0, k0, p0⟩ := h0 H enc n _ _ e0
    obtain ⟨z1, k1, p1⟩ := h1 H enc n _ _ e1
    obtain ⟨z2, k2, p2⟩ := h2 H enc n _ _ e2
    obtain ⟨z3, k3, p3⟩ := h3 H enc n _ _ e3
    exact ⟨(z0, z1, z2, z3), ⟨_, _, seg4 (by omega), k0, _, _, rfl, k1, _, _, rfl, k2, k3⟩, p0, p1, p2, p3⟩

end Go.Proofs.YthcafgjcgikgpaaBase
