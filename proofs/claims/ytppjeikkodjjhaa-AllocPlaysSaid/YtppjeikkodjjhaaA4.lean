/- A group's rows within the allocator: read, and put anew. -/
import Derived.Test.YtppjeikkodjjhaaA2
namespace Go.Proofs.Ytppjeikkodjjhaa.Given
open Go.RowKit Go.Shelf Go.Proofs.YtppjeikkodjjhaaW.PrintWords Go.Proofs.YtppjeikkodjjhaaW.PrintLast Go.Proofs.YtppjeikkodjjhaaW.PrintMore Go.Proofs.YtppjeikkodjjhaaBase Go.Proofs.Ytppjeikkodjjhaa.PGeo Go.Proofs.Ytppjeikkodjjhaa.PGet Go.Proofs.Ytppjeikkodjjhaa.PWith
set_option linter.unusedVariables false
set_option linter.unusedSimpArgs false

/-- group x of the row at block G: its two rows of bytes -/
structure GrpAt (W : World) (G x : Nat) (y : S54) (A0 : Option Addr) (c0 : Nat) (A1 : Option Addr) (c1 : Nat) : Prop where
  k0 : W.cell? ⟨G, x * 2, none⟩ = some (.slice A0 y.f0.length c0)
  k1 : W.cell? ⟨G, x * 2 + 1, none⟩ = some (.slice A1 y.f1.length c1)
  z0 : W.frozen? ⟨G, x * 2, none⟩ = false
  z1 : W.frozen? ⟨G, x * 2 + 1, none⟩ = false
  l0 : y.f0.length ≤ c0
  l1 : y.f1.length ≤ c1
  r0 : Kd.C (Kd.int .u8) W A0 y.f0.length y.f0
  r1 : Kd.C (Kd.int .u8) W A1 y.f1.length y.f1
section
variable {base : Nat} {ok : Nat → Prop} {W W1 : World} {g G n c x : Nat} {gr i d : Int} {gs : List S54} {y : S54} {b : List Int} {v : Value}
theorem grp_at (h : Kd.R k54 54 W base ok (.slice (some ⟨G, 0, none⟩) n c) gs) (hy : gs[x]? = some y) : ∃ A0 c0 A1 c1, GrpAt W G x y A0 c0 A1 c1 := by
  have hn := (Kd.R_reads' h).1
  have hx : x < gs.length := (List.getElem?_eq_some_iff.1 hy).1
  obtain ⟨cs, hcl, hM, hcc, hfr⟩ := Kd.R_elem h z54 (x : Int) (by omega) (by omega)
  have hyy : gs.getD x z54 = y := by rw [List.getD_eq_getElem?_getD, hy]; rfl
  rw [Int.toNat_natCast] at hM hcc hfr
  rw [hyy] at hM
  obtain ⟨v0, v1, rfl, h0, h1⟩ := k54_openM hM
  obtain ⟨A0, c0, rfl⟩ := Kd.R_slice h0
  obtain ⟨A1, c1, rfl⟩ := Kd.R_slice h1
  exact ⟨A0, c0, A1, c1, hcc 0 _ rfl, hcc 1 _ rfl, hfr 0, hfr 1, (Kd.R_reads' h0).2.1, (Kd.R_reads' h1).2.1, (Kd.R_reads' h0).2.2, (Kd.R_reads' h1).2.2⟩
theorem blk_lt_G (h : Kd.R k54 54 W base ok (.slice (some ⟨G, 0, none⟩) n c) gs) : G < W.heap.size := Kd.R_lt h G (by simp [Value.ownBlock])
theorem cells1 (W : World) (G o : Nat) (v : Value) : W.setCells G o [v] = W.setCell ⟨G, o, none⟩ v := rfl
/-- a group's row is another, newly made -/
theorem IsA.put_ (seg0 : Bool) (hI : IsAB W g gr i d (.slice (some ⟨G, 0, none⟩) n c)) (hg : base ≤ g ∧ ok g) (h : Kd.R k54 54 W base ok (.slice (some ⟨G, 0, none⟩) n c) gs) (hy : gs[x]? = some y) (hbs : base ≤ W.heap.size) (hok : ∀ k, ok k → k < W.heap.size)
    (hb : Below W.heap.size W W1) (hv : Kd.R (Kd.int .u8) 5 W1 W.heap.size (fun _ => True) v b) :
    IsA base (fun k => ok k ∨ W.heap.size ≤ k) (W1.setCell ⟨G, x * 2 + (if seg0 then 0 else 1), none⟩ v) g gr i d (gs.set x (if seg0 then ⟨b, y.f1⟩ else ⟨y.f0, b⟩)) ∧
      Off ok W (W1.setCell ⟨G, x * 2 + (if seg0 then 0 else 1), none⟩ v) ∧ (W1.setCell ⟨G, x * 2 + (if seg0 then 0 else 1), none⟩ v).heap[g]? = W.heap[g]? ∧ KeepsOthers W (W1.setCell ⟨G, x * 2 + (if seg0 then 0 else 1), none⟩ v) := by
  have hn := (Kd.R_reads' h).1
  have hx : x < gs.length := (List.getElem?_eq_some_iff.1 hy).1
  have hyy : gs.getD x z54 = y := by rw [List.getD_eq_getElem?_getD, hy]; rfl
  have hG : ok G := h.1 G (by simp [Value.ownBlock])
  have hGlt := hok G hG
  have hgG : g ≠ G := fun e => by
    obtain ⟨cells, hc⟩ := Kd.R_typed h G (by simp [Value.ownBlock])
    rw [← e, show W.heap[g]? = _ from hI] at hc
    cases hc
  have h1 : Kd.R k54 54 W1 base (fun k => ok k ∨ W.heap.size ≤ k) (.slice (some ⟨G, 0, none⟩) n c) gs := Kd.R_mono (Kd.R_below h hb) (fun k hk => .inl hk)
  obtain ⟨cs, hcl, hM, hcc, hfr⟩ := Kd.R_elem h z54 (x : Int) (by omega) (by omega)
  rw [Int.toNat_natCast] at hM hcc hfr
  rw [hyy] at hM
  obtain ⟨v0, v1, rfl, h0, h1'⟩ := k54_openM hM
  have hcc1 : ∀ j u, [v0, v1][j]? = some u → W1.cell? ⟨G, (x : Int).toNat * k54.sz + j, none⟩ = some u := fun j u hu => by
    rw [Int.toNat_natCast]
    exact pw_cell_below hb (hcc j u hu)
  have q0 : Kd.R (Kd.int .u8) 5 W1 base (fun k => ok k ∧ k ≠ G ∨ W.heap.size ≤ k) v0 y.f0 := Kd.R_mono (Kd.R_below h0 hb) (fun k hk => .inl hk)
  have q1 : Kd.R (Kd.int .u8) 5 W1 base (fun k => ok k ∧ k ≠ G ∨ W.heap.size ≤ k) v1 y.f1 := Kd.R_mono (Kd.R_below h1' hb) (fun k hk => .inl hk)
  have qv : Kd.R (Kd.int .u8) 5 W1 base (fun k => ok k ∧ k ≠ G ∨ W.heap.size ≤ k) v b := Kd.R_mono (Kd.R_lower (Kd.R_bound hv) hbs) (fun k hk => .inr hk.2.1)
  have hokp : ∀ k, (ok k ∧ k ≠ G ∨ W.heap.size ≤ k) → (ok k ∨ W.heap.size ≤ k) ∧ k ≠ G := fun k hk => hk.elim (fun h => ⟨.inl h.1, h.2⟩) (fun h => ⟨.inr h, by omega⟩)
  have hoff : ∀ o, Off ok W (W1.setCell ⟨G, o, none⟩ v) := fun o => (Off.of_below hb ok).setCell (.inl hG) _
  have hgb : ∀ o, (W1.setCell ⟨G, o, none⟩ v).heap[g]? = W.heap[g]? := fun o => (Below.heap_setCell _ _ _ _ hgG).trans (hb.block g hI.lt)
  have hko : ∀ o, KeepsOthers W (W1.setCell ⟨G, o, none⟩ v) := fun o => (keeps_below hb).trans (KeepsOthers.setCell _ _ _)
  have hIb : ∀ o, IsAB (W1.setCell ⟨G, o, none⟩ v) g gr i d (.slice (some ⟨G, 0, none⟩) n c) := fun o => (hgb o).trans hI
  cases seg0 with
  | true =>
    have hs := Kd.R_seg h1 (x : Int) (by omega) (by omega) (c := [v0, v1]) (seg := [v]) (j := 0) (okp := fun k => ok k ∧ k ≠ G ∨ W.heap.size ≤ k) (x' := (⟨b, y.f1⟩ : S54)) rfl hcc1 (by show 0 + 1 ≤ 2; omega) (k54_mkM W1 _ _ ⟨b, y.f1⟩ qv q1) hokp
    rw [Int.toNat_natCast, cells1] at hs
    exact ⟨⟨_, hIb _, ⟨hg.1, .inl hg.2⟩, hs.1⟩, hoff _, hgb _, hko _⟩
  | false =>
    have hs := Kd.R_seg h1 (x : Int) (by omega) (by omega) (c := [v0, v1]) (seg := [v]) (j := 1) (okp := fun k => ok k ∧ k ≠ G ∨ W.heap.size ≤ k) (x' := (⟨y.f0, b⟩ : S54)) rfl hcc1 (by show 1 + 1 ≤ 2; omega) (k54_mkM W1 _ _ ⟨y.f0, b⟩ q0 qv) hokp
    rw [Int.toNat_natCast, cells1] at hs
    exact ⟨⟨_, hIb _, ⟨hg.1, .inl hg.2⟩, hs.1⟩, hoff _, hgb _, hko _⟩
theorem GrpAt.below {A0 A1 : Option Addr} {c0 c1 : Nat} (h : GrpAt W G x y A0 c0 A1 c1) (hG : G < W.heap.size) (hb : Below W.heap.size W W1) : GrpAt W1 G x y A0 c0 A1 c1 :=
  ⟨pw_cell_below hb h.k0, pw_cell_below hb h.k1, (hb.frozen (p := ⟨G, x * 2, none⟩) hG).trans h.z0, (hb.frozen (p := ⟨G, x * 2 + 1, none⟩) hG).trans h.z1, h.l0, h.l1, Kd.C_below h.r0 hb, Kd.C_below h.r1 hb⟩
end
end Go.Proofs.Ytppjeikkodjjhaa.Given
