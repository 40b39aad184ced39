/- (*Watch).Synced: all lies on the disk; (*known).constant. -/
import Derived.Test.YtnnnakgdmhmpmaaI2
namespace Go.Proofs.Ytnnnakgdmhmpmaa.Given
open Go.RowKit Go.Proofs.YtnnnakgdmhmpmaaW.PrintWords Go.Proofs.YtnnnakgdmhmpmaaW.PrintLast Go.Proofs.YtnnnakgdmhmpmaaW.PrintMore Go.Proofs.YtnnnakgdmhmpmaaBase
set_option linter.unusedVariables false
set_option linter.unusedSimpArgs false

theorem IsW.kinds {base : Nat} {w : World} {g bn bp : Nat} {N : List (NS × Nat × Nat)} {Q : List (PS × Nat)} (h : IsW base w g bn bp N Q) : ∀ b ∈ bls g bn bp N Q, (∃ cs ty, w.heap[b]? = some (.cells cs ty (0, 0))) ∨ ∃ es clock, w.heap[b]? = some (.map es clock) := by
  have hm : ∀ {k b l}, MapAt Try.prog k w b l → ∃ es clock, w.heap[b]? = some (.map es clock) := fun h => by obtain ⟨es, clock, hb, _⟩ := h; exact ⟨es, clock, hb⟩
  intro b hb
  simp only [bls, List.mem_append, List.mem_cons, List.not_mem_nil, or_false, List.mem_map] at hb
  rcases hb with (rfl | rfl | rfl) | (⟨x, hx, rfl⟩ | hb)
  · exact .inl ⟨_, _, h.hg⟩
  · exact .inr (hm h.hn)
  · exact .inr (hm h.hp)
  · exact .inr (hm (h.hq x hx))
  · obtain ⟨x, hx, hb⟩ := List.mem_flatMap.1 hb
    simp only [List.mem_cons, List.not_mem_nil, or_false] at hb
    rcases hb with rfl | rfl
    · exact .inl ⟨_, _, (h.hx x hx).blk⟩
    · exact .inr (hm (h.hx x hx).map)
theorem IsW.not_iter {base : Nat} {w : World} {g bn bp r : Nat} {N : List (NS × Nat × Nat)} {Q : List (PS × Nat)} (h : IsW base w g bn bp N Q) {k b : Nat} {l left : List (Value × Value)} (hr : Rng Try.prog k w b r l left) : ∀ c ∈ bls g bn bp N Q, c ≠ r := by
  rintro c hc rfl
  obtain ⟨es, clock, since, seen, c0, _, _, hr, _⟩ := hr
  rcases h.kinds c hc with ⟨cs, ty, h1⟩ | ⟨es', clock', h1⟩ <;> rw [h1] at hr <;> cases hr

/-- what a name is apart from what it named -/
def core (x : NS × Nat × Nat) : Int × ByteArray × Int × Nat := (x.1.dir, x.1.nm, x.1.now, x.2.1)
/-- some names are synced, the others are still to come -/
structure Mid (N0 N : List (NS × Nat × Nat)) (left : List (Value × Value)) : Prop where
  core : N.map core = N0.map core
  ever : ∀ x ∈ N, x.1.ever = [x.1.now] ∨ entN x ∈ left
theorem Mid.ents {N0 N : List (NS × Nat × Nat)} {left : List (Value × Value)} (h : Mid N0 N left) : N.map entN = N0.map entN := by
  have : ∀ l : List (NS × Nat × Nat), l.map entN = (l.map Given.core).map (fun c => (keyN c.1 c.2.1, .pointer (some ⟨c.2.2.2, 0, none⟩))) := fun l => by rw [List.map_map]; rfl
  rw [this N, this N0, h.core]
theorem Mid.all {N0 N : List (NS × Nat × Nat)} (h : Mid N0 N []) : N.map (·.1) = syncS (N0.map (·.1)) := by
  have h1 : ∀ x ∈ N, x.1.ever = [x.1.now] := fun x hx => (h.ever x hx).resolve_right (by simp)
  have h2 : N.map (·.1) = (N.map Given.core).map (fun c => (⟨c.1, c.2.1, c.2.2.1, [c.2.2.1]⟩ : NS)) := by
    rw [List.map_map]
    refine List.map_congr_left (fun x hx => ?_)
    have := h1 x hx
    simp only [Function.comp, Given.core]
    rw [← this]
  rw [h2, h.core, syncS, List.map_map, List.map_map]
  rfl

def SyncInv (base : Nat) (w : World) (g bn bp r : Nat) (N0 : List (NS × Nat × Nat)) (Q : List (PS × Nat)) (wr : World) : Prop :=
  ∃ N left, Rng Try.prog 47 wr bn r (N0.map entN) left ∧ IsW base wr g bn bp N Q ∧ Mid N0 N left ∧ Below base w wr

theorem zero51 (w : World) : (zeroValue 51).run Try.prog w = .ok (.agg #[.int .i64 0, .map none]) w := by kernel_rfl

/-- one name is synced -/
theorem sync_step {base : Nat} {w wr w1 : World} {g bn bp r : Nat} {N0 N : List (NS × Nat × Nat)} {Q : List (PS × Nat)} {l1 l2 : List (Value × Value)} {key v : Value} (hI : IsW base wr g bn bp N Q) (hM : Mid N0 N (l1 ++ (key, v) :: l2)) (hB : Below base w wr)
    (hmem : (key, v) ∈ N0.map entN) (hR0 : Rng Try.prog 47 wr bn r (N0.map entN) (l1 ++ (key, v) :: l2)) (hR : Rng Try.prog 47 w1 bn r (N0.map entN) (l1 ++ l2)) (hg : wr.grownBy w1 (some r)) (hsz : w1.heap.size = wr.heap.size) (hr : base ≤ r) :
    ∃ (xb : Nat) (now : Int) (mb : Nat) (V2 : World), v = .pointer (some ⟨xb, 0, none⟩) ∧ w1.cell? ⟨xb, 0, none⟩ = some (.int .i64 now) ∧ w1.cell? ⟨xb, 1, none⟩ = some (.map (some mb)) ∧ w1.frozen? ⟨xb, 1, none⟩ = false ∧
      (Instr.mapUpdate 49 (.map (some w1.heap.size)) (.int .i64 now) (.bool true)).run Try.prog (w1.alloc (.map #[] 0)) = .ok () V2 ∧
      V2.cell? ⟨xb, 1, none⟩ = some (.map (some mb)) ∧ V2.frozen? ⟨xb, 1, none⟩ = false ∧
      SyncInv base w g bn bp r N0 Q (V2.setCell ⟨xb, 1, none⟩ (.map (some w1.heap.size))) ∧ (V2.setCell ⟨xb, 1, none⟩ (.map (some w1.heap.size))).rangeLeft bn r < wr.rangeLeft bn r := by
  rw [← hM.ents] at hmem
  obtain ⟨x, hx, hxe⟩ := List.mem_map.1 hmem
  obtain ⟨N1, N2, rfl⟩ := List.append_of_mem hx
  obtain ⟨x, xb, mb⟩ := x
  simp only [entN, Prod.mk.injEq] at hxe
  obtain ⟨hk, hv⟩ := hxe
  have hI1 : IsW base w1 g bn bp (N1 ++ (x, xb, mb) :: N2) Q := hI.move (fun b hb => hg.block b (hI.lt b hb) (fun e => hI.not_iter hR0 b hb (Option.some.inj e)))
  have hxx := hI1.hx (x, xb, mb) (by simp)
  obtain ⟨V2, hrun, hM2, hg2, hs2⟩ := putI (l := []) (i := x.now) (MapAt.new w1) hxx.fit
  simp only [World.size_alloc] at hs2
  have hb2 : Below w1.heap.size w1 V2 := ((Below.refl _ w1).alloc (Nat.le_refl _) _).grown hg2 (by simp) (fun k e => by cases e; exact Nat.le_refl _)
  have hxb : V2.heap[xb]? = some (.cells #[.int .i64 x.now, .map (some mb)] 51 (0, 0)) := (hb2.block xb (blk_lt hxx.blk)).trans hxx.blk
  have hxm : xb ∈ bls g bn bp (N1 ++ (x, xb, mb) :: N2) Q := by rw [bls_mid]; simp
  have hbase : base ≤ w1.heap.size := Nat.le_trans (hI1.lo xb hxm) (Nat.le_of_lt (blk_lt hxx.blk))
  have hne1 : w1.heap.size ≠ xb := fun e => by have := blk_lt hxx.blk; simp only at this; omega
  have hfar : ∀ b, b ≠ xb → (V2.setCell ⟨xb, 1, none⟩ (.map (some w1.heap.size))).heap[b]? = V2.heap[b]? := fun b hb => Below.heap_setCell V2 ⟨xb, 1, none⟩ _ b hb
  have hbn : bn ∈ bls g bn bp (N1 ++ (x, xb, mb) :: N2) Q := by simp [bls]
  have hxr : r ≠ xb := fun e => hI1.not_iter hR xb hxm e.symm
  have hbx : bn ≠ xb := fun e => hI1.hn.ne_cells hxx.blk e.symm
  have hRng : Rng Try.prog 47 (V2.setCell ⟨xb, 1, none⟩ (.map (some w1.heap.size))) bn r (N0.map entN) (l1 ++ l2) := hR.move ((hfar bn hbx).trans (hb2.block bn hI1.hn.lt)) ((hfar r hxr).trans (hb2.block r hR.lt))
  refine ⟨xb, x.now, mb, V2, hv.symm, (blk_cell hxx.blk 0).trans rfl, (blk_cell hxx.blk 1).trans rfl, blk_frozen hxx.blk 1, hrun, (blk_cell hxb 1).trans rfl, blk_frozen hxb 1, ⟨N1 ++ ({ x with ever := [x.now] }, xb, w1.heap.size) :: N2, l1 ++ l2, hRng, ?_, ⟨?_, ?_⟩, ?_⟩, ?_⟩
  · refine hI1.updN (y := { x with ever := [x.now] }) rfl rfl ⟨?_, ?_, hxx.fit⟩ (.inr (Nat.le_refl _)) hbase (fun b hb h1 h2 => (hfar b h1).trans (hb2.block b hb))
    · exact blk_set hxb 1 _
    · exact MapAt.move (b := w1.heap.size) (by simpa [addI] using hM2) (hfar _ hne1)
  · rw [← hM.core]
    simp [Given.core]
  · intro y hy
    rw [List.mem_append, List.mem_cons] at hy
    have hyy : y = ({ x with ever := [x.now] }, xb, w1.heap.size) ∨ (y ∈ N1 ++ (x, xb, mb) :: N2 ∧ entN y ≠ (key, v)) := by
      have hnd := hI1.hn.nodup
      rw [List.map_map, List.map_append, List.map_cons, List.nodup_append] at hnd
      obtain ⟨n1, n2, n3⟩ := hnd
      rw [List.nodup_cons] at n2
      rcases hy with hy | hy | hy
      · refine .inr ⟨by simp [hy], fun e => ?_⟩
        refine n3 (keyN y.1.dir y.1.nm) (List.mem_map.2 ⟨y, hy, rfl⟩) (keyN x.dir x.nm) (by simp [entN]) ?_
        have := congrArg Prod.fst e
        exact this.trans hk.symm
      · exact .inl hy
      · refine .inr ⟨by simp [hy], fun e => n2.1 (List.mem_map.2 ⟨y, hy, ?_⟩)⟩
        have := congrArg Prod.fst e
        exact this.trans hk.symm
    rcases hyy with rfl | ⟨hy2, hne⟩
    · exact .inl rfl
    · refine (hM.ever y hy2).imp id (fun h => ?_)
      rw [List.mem_append, List.mem_cons] at h
      rw [List.mem_append]
      rcases h with h | h | h
      · exact .inl h
      · exact absurd h hne
      · exact .inr h
  · have hgb : Below base wr w1 := (Below.refl base wr).grown hg (by rw [hsz] at hbase; exact hbase) (fun k e => by cases e; exact hr)
    exact ((hB.trans hgb).trans (hb2.mono hbase)).setCell (by exact hI1.lo xb hxm) _
  · rw [hRng.left_eq, hR0.left_eq]
    simp

set_option maxRecDepth 100000 in
set_option maxHeartbeats 1000000 in
theorem synced_calls {base : Nat} {w : World} {g : Nat} {N : List NS} {Q : List PS} (h : WS base w g N Q) :
    Calls Try.prog 8 #[.pointer (some ⟨g, 0, none⟩)] w fun e w' => e = .returned (.tuple #[]) ∧ WS base w' g (syncS N) Q ∧ Below base w w' := by
  obtain ⟨bn, bp, N0, Q', hI, rfl, rfl⟩ := h
  obtain ⟨w0, hrng, hR0, hg0, hs0⟩ := hI.hn.range Try.underlying42
  have hbase : base ≤ w.heap.size := Nat.le_trans (hI.lo g (by simp [bls])) (Nat.le_of_lt (blk_lt hI.hg))
  have hI0 : IsW base w0 g bn bp N0 Q' := hI.move (fun b hb => hg0.block b (hI.lt b hb) (by simp))
  have HS0 : Hid (SyncInv base w g bn bp w.heap.size N0 Q' w0) := Lib.hid ⟨N0, _, hR0, hI0, ⟨rfl, fun x hx => .inr (List.mem_map.2 ⟨x, hx, rfl⟩)⟩, (Below.refl base w).grown hg0 hbase (fun k e => by cases e)⟩
  have c0 := blk_cell hI.hg 0
  simp only [List.getElem?_toArray, List.getElem?_cons_zero, List.getElem?_cons_succ] at c0
  have hmk := fun w => @run_makeMap Try.prog w
  have HBASE := Lib.hid hbase
  clear hR0 hI0 hI hg0 hs0 hbase
  go_enter Try.func8, Try.ntmps8
  go_wp2
  go_loopw [3] (fun x wr => Hid (SyncInv base w g bn bp w.heap.size N0 Q' wr)) (fun _ wr => wr.rangeLeft bn w.heap.size)
  case atStart => exact HS0
  case round =>
    obtain ⟨N1, left, hR, hI, hM, hB⟩ := hrel.out
    rcases hR.next 0 with ⟨rfl, hrun⟩ | ⟨key, v, l1, l2, w1, rfl, hmem, hrun, hR1, hg1, hs1, hen⟩
    · have HE := Lib.hid (And.intro hI (And.intro hM hB))
      clear hR hI hM hB hrel
      go_wp2
      go_end0
      exact ⟨rfl, ⟨bn, bp, _, _, HE.out.1, HE.out.2.1.all, rfl⟩, HE.out.2.2⟩
    · obtain ⟨xb, now, mb, V2, rfl, k0, k1, f1, hput, k2, f2, hinv, hlt⟩ := sync_step hI hM hB hmem hR hR1 hg1 hs1 HBASE.out
      have k3 := pw_cell_below (below_alloc (Below.refl _ w1) (.map #[] 0)) k0
      have HINV := Lib.hid hinv
      have HLT := Lib.hid hlt
      clear hR hI hM hB hrel hmem hR1 hg1 hs1 hinv hlt
      go_wp2
      go_roundw
      case rel => exact HINV
      case measure => exact HLT.out

set_option maxRecDepth 100000 in
set_option maxHeartbeats 1000000 in
/-- whether a name named one inode all the time -/
theorem constant_calls {w : World} {x : NS} {xb mb : Nat} (h : AtN w x xb mb) (hl : x.ever.length ≤ 9223372036854775807) :
    Calls Try.prog 13 #[.pointer (some ⟨xb, 0, none⟩)] w fun e w' => e = .returned (.bool (decide ((x.ever.length : Int) = 1) && decide (x.now ≠ 0))) ∧ w = w' := by
  have c0 := blk_cell h.blk 0
  have c1 := blk_cell h.blk 1
  simp only [List.getElem?_toArray, List.getElem?_cons_zero, List.getElem?_cons_succ] at c0 c1
  have hlen := fun ty => h.map.len Try.underlying49 ty
  simp only [List.length_map] at hlen
  clear h
  obtain ⟨L, hL⟩ : ∃ L, x.ever.length = L := ⟨_, rfl⟩
  rw [hL] at hlen hl ⊢
  clear hL
  generalize x.now = n at *
  by_cases h1 : (L : Int) = 1
  · have e1 : decide ((L : Int) = 1) = true := by simpa using h1
    have e2 : ((L : Int) == 1) = true := by simpa using h1
    have E1 := Lib.hid e1
    clear h1
    go_enter Try.func13, Try.ntmps13
    go_wp2
    go_ret
    exact ⟨ret_bool (by rw [E1.out]; by_cases hn : n = 0 <;> simp [hn]), rfl⟩
  · have e1 : decide ((L : Int) = 1) = false := by simpa using h1
    have e2 : ((L : Int) == 1) = false := by simpa using h1
    have E1 := Lib.hid e1
    clear h1
    go_enter Try.func13, Try.ntmps13
    go_wp2
    go_ret
    exact ⟨ret_bool (by rw [E1.out]; simp), rfl⟩
end Go.Proofs.Ytnnnakgdmhmpmaa.Given
