/- (*Cache).trim: blocks that nobody has pinned, and that are clean, go. -/
import Derived.Test.YthcafgjcgikgpaaC2
namespace Go.Proofs.Ythcafgjcgikgpaa.Given
open Go.RowKit Go.Shelf Go.Proofs.YthcafgjcgikgpaaW.PrintWords Go.Proofs.YthcafgjcgikgpaaW.PrintLast Go.Proofs.YthcafgjcgikgpaaW.PrintMore Go.Proofs.YthcafgjcgikgpaaBase
set_option linter.unusedVariables false
set_option linter.unusedSimpArgs false

/-- it may go -/
def free (x : Bf) : Bool := decide (x.pins = 0) && !x.dirty
/-- without the first one that may go -/
def popL : List Bf → Option (List Bf)
  | [] => none
  | x :: L => if free x then some L else (popL L).map (x :: ·)
def trimF (size : Int) : Nat → List Bf → List Bf
  | 0, L => L
  | n + 1, L => if size < (L.length : Int) then (match popL L with | none => L | some L' => trimF size n L') else L
/-- as many go as are too many -/
def trimL (size : Int) (L : List Bf) : List Bf := trimF size L.length L
theorem popL_some {L L' : List Bf} (h : popL L = some L') : ∃ L1 x L2, L = L1 ++ x :: L2 ∧ (∀ y ∈ L1, free y = false) ∧ free x = true ∧ L' = L1 ++ L2 := by
  induction L generalizing L' with
  | nil => cases h
  | cons x L ih =>
    unfold popL at h
    cases hf : free x with
    | true =>
      rw [hf, if_pos rfl] at h
      cases h
      exact ⟨[], x, L, rfl, by simp, hf, rfl⟩
    | false =>
      rw [hf, if_neg (by simp)] at h
      obtain ⟨M, hM, rfl⟩ := Option.map_eq_some_iff.1 h
      obtain ⟨L1, y, L2, rfl, h1, h2, rfl⟩ := ih hM
      refine ⟨x :: L1, y, L2, rfl, fun z hz => ?_, h2, rfl⟩
      rcases List.mem_cons.1 hz with rfl | hz
      · exact hf
      · exact h1 z hz
theorem popL_none {L : List Bf} (h : popL L = none) : ∀ y ∈ L, free y = false := by
  induction L with
  | nil => simp
  | cons x L ih =>
    unfold popL at h
    cases hf : free x with
    | true => rw [hf, if_pos rfl] at h; cases h
    | false =>
      rw [hf, if_neg (by simp)] at h
      intro z hz
      rcases List.mem_cons.1 hz with rfl | hz
      · exact hf
      · exact ih (Option.map_eq_none_iff.1 h) z hz
theorem popL_len {L L' : List Bf} (h : popL L = some L') : L'.length + 1 = L.length := by
  obtain ⟨L1, x, L2, rfl, _, _, rfl⟩ := popL_some h
  simp
  omega
theorem trimF_succ (size : Int) (n : Nat) (L : List Bf) : trimF size (n + 1) L = if size < (L.length : Int) then (match popL L with | none => L | some L' => trimF size n L') else L := rfl
theorem trimL_small {size : Int} {L : List Bf} (h : (L.length : Int) ≤ size) : trimL size L = L := by
  unfold trimL
  cases L with
  | nil => rfl
  | cons x L => rw [List.length_cons] at h ⊢; rw [trimF_succ, if_neg (by rw [List.length_cons]; omega)]
theorem trimL_stuck {size : Int} {L : List Bf} (h : popL L = none) : trimL size L = L := by
  unfold trimL
  cases L with
  | nil => rfl
  | cons x L => rw [List.length_cons, trimF_succ, h]; split <;> rfl
theorem trimL_pop {size : Int} {L L' : List Bf} (hs : size < (L.length : Int)) (h : popL L = some L') : trimL size L = trimL size L' := by
  have := popL_len h
  unfold trimL
  rw [← this]
  rw [trimF_succ, if_pos hs, h]

/-- a cache whose kept blocks are L, in their order -/
def WC (base : Nat) (ok : Nat → Prop) (W : World) (cg mb : Nat) (dv : Value) (size reads : Int) (L : List Bf) : Prop := ∃ vo E, IsC base ok W cg mb dv vo size reads E (L.map (·.blk)) ∧ (E.map (·.1)).Perm L
theorem IsC.nodup {base : Nat} {ok : Nat → Prop} {W : World} {cg mb : Nat} {dv vo : Value} {size reads : Int} {E : List (Bf × Nat × Value)} {O : List Int} (h : IsC base ok W cg mb dv vo size reads E O) : (E.map (fun x => x.1.blk)).Nodup := by
  have := h.map.nodup
  rw [List.map_map] at this
  have e : (E.map (Prod.fst ∘ entB)) = (E.map (fun x => x.1.blk)).map (fun n => Value.int .i64 n) := by rw [List.map_map]; rfl
  rw [e] at this
  exact List.Pairwise.of_map (fun n => Value.int .i64 n) (fun a b h e => h (by rw [e])) this
theorem WC.nodup {base : Nat} {ok : Nat → Prop} {W : World} {cg mb : Nat} {dv : Value} {size reads : Int} {L : List Bf} (h : WC base ok W cg mb dv size reads L) : (L.map (·.blk)).Nodup := by
  obtain ⟨vo, E, hI, hp⟩ := h
  have := hI.nodup
  have e : E.map (fun x => x.1.blk) = (E.map (·.1)).map (·.blk) := by rw [List.map_map]; rfl
  rw [e] at this
  exact (hp.map _).nodup_iff.1 this
def mapSize (W : World) (b : Nat) : Nat := match W.heap[b]? with
  | some (.map es _) => es.size
  | _ => 0
theorem MapAt_size {P : Program} {k : TypeId} {w : World} {b : Nat} {l : List (Value × Value)} (h : MapAt P k w b l) : mapSize w b = l.length := by
  obtain ⟨es, clock, hb, hE⟩ := h
  unfold mapSize
  rw [hb, ← hE.eq]
  simp
theorem WC.size {base : Nat} {ok : Nat → Prop} {W : World} {cg mb : Nat} {dv : Value} {size reads : Int} {L : List Bf} (h : WC base ok W cg mb dv size reads L) : mapSize W mb = L.length := by
  obtain ⟨vo, E, hI, hp⟩ := h
  rw [MapAt_size hI.map, List.length_map, ← hp.length_eq, List.length_map]
theorem IsC.wf {base : Nat} {ok : Nat → Prop} {W : World} {cg mb : Nat} {dv vo : Value} {size reads : Int} {E : List (Bf × Nat × Value)} {O : List Int} (h : IsC base ok W cg mb dv vo size reads E O) {x : Bf × Nat × Value} (hx : x ∈ E) : I64 x.1.blk := by
  obtain ⟨kl, hkl⟩ := h.map.keyed (List.mem_map.2 ⟨x, hx, rfl⟩)
  obtain ⟨y, h1, h2, h3⟩ := Maps.keyOf_int_inv Try.underlying3 hkl
  simp only [entB, Value.int.injEq, true_and] at h1
  rw [h1]
  exact wf_I64 h3

set_option maxRecDepth 100000 in
set_option maxHeartbeats 1000000 in
theorem trim1_calls {base : Nat} {ok : Nat → Prop} {w : World} {cg mb tb : Nat} {dv vo : Value} {size reads : Int} {E : List (Bf × Nat × Value)} {O : List Int} (h : IsC base ok w cg mb dv vo size reads E O) (ht : w.heap[tb]? = some (.cells #[.pointer (some ⟨cg, 0, none⟩)] 24 (0, 0))) {x : Bf × Nat × Value} (hx : x ∈ E) :
    Calls Try.prog 38 #[.int .i64 x.1.blk, .pointer (some ⟨tb, 0, none⟩)] w fun e w' => e = .returned (.bool (free x.1)) ∧ w = w' := by
  have hl := h.map.look_hit law3 Try.underlying54 (key3 (h.wf hx)) (List.mem_map.2 ⟨x, hx, rfl⟩) false
  have hat := h.each x hx
  have c2 := blk_cell h.hg 2
  have t0 := blk_cell ht 0
  have x1 := blk_cell hat.blk 1
  have x2 := blk_cell hat.blk 2
  simp only [List.getElem?_toArray, List.getElem?_cons_zero, List.getElem?_cons_succ] at c2 t0 x1 x2
  obtain ⟨⟨n, b, p, d⟩, xb, vb⟩ := x
  simp only at hl x1 x2
  clear h ht hx hat
  unfold free
  simp only
  by_cases hp : p = 0
  · subst hp
    cases d with
    | true =>
      go_enter Try.func38, Try.ntmps38
      go_wp2
      go_ret
      exact ⟨ret_bool (by simp), rfl⟩
    | false =>
      go_enter Try.func38, Try.ntmps38
      go_wp2
      go_ret
      exact ⟨ret_bool (by simp), rfl⟩
  · have d1 : (p == 0) = false := by simpa using hp
    have d2 : decide (p = 0) = false := by simpa using hp
    clear hp
    go_enter Try.func38, Try.ntmps38
    go_wp2
    go_ret
    exact ⟨ret_bool (by simp [d2]), rfl⟩

theorem index_callsL {F : Nat} {cap : Value} {p : Int → Bool} {A : Option Addr} {c n : Nat} {l : List Int} {w : World} (hn : l.length = n) (hF : F = 38 ∨ F = 42) (hC : Kd.C (Kd.int .i64) w A l.length l) (hL : Looks w F cap p l) :
    Calls Try.prog 37 #[.slice A n c, .func (.func F) #[] #[cap]] w fun e w' => e = .returned (.int .i64 (idxP p l)) ∧ w = w' := by
  subst hn
  exact index_calls hF hC hL
def pF (E : List (Bf × Nat × Value)) (n : Int) : Bool := E.any fun x => decide (x.1.blk = n) && free x.1
theorem nodup_inj {α β : Type} {f : α → β} : ∀ {l : List α}, (l.map f).Nodup → ∀ {x y : α}, x ∈ l → y ∈ l → f x = f y → x = y
  | [], _, _, _, hx, _, _ => by cases hx
  | a :: l, h, x, y, hx, hy, e => by
    rw [List.map_cons, List.nodup_cons] at h
    rcases List.mem_cons.1 hx with e1 | hx1
    · rcases List.mem_cons.1 hy with e2 | hy1
      · rw [e1, e2]
      · exact absurd (List.mem_map.2 ⟨y, hy1, by rw [← e1]; exact e.symm⟩) h.1
    · rcases List.mem_cons.1 hy with e2 | hy1
      · exact absurd (List.mem_map.2 ⟨x, hx1, by rw [← e2]; exact e⟩) h.1
      · exact nodup_inj h.2 hx1 hy1 e
theorem pF_at {E : List (Bf × Nat × Value)} (hn : (E.map (fun x => x.1.blk)).Nodup) {x : Bf × Nat × Value} (hx : x ∈ E) : pF E x.1.blk = free x.1 := by
  unfold pF
  cases hf : free x.1 with
  | true => exact List.any_eq_true.2 ⟨x, hx, by simp [hf]⟩
  | false =>
    rw [List.any_eq_false]
    intro y hy h
    simp only [Bool.and_eq_true, decide_eq_true_eq] at h
    have := nodup_inj hn hy hx h.1
    rw [this, hf] at h
    exact absurd h.2 (by simp)
theorem IsC.dropE {base : Nat} {ok : Nat → Prop} {w w' : World} {cg mb : Nat} {dv vo : Value} {size reads : Int} {E1 E2 : List (Bf × Nat × Value)} {x : Bf × Nat × Value} {O : List Int} (h : IsC base ok w cg mb dv vo size reads (E1 ++ x :: E2) O) (hm : MapAt Try.prog 3 w' mb ((E1 ++ E2).map entB)) (hg : w.grownBy w' (some mb)) (hok : ∀ k, ok k → k < w.heap.size) :
    IsC base ok w' cg mb dv vo size reads (E1 ++ E2) O := by
  have hmv : ∀ k, ok k → k ≠ mb → w'.heap[k]? = w.heap[k]? := fun k hk hne => hg.block k (hok k hk) (fun e => hne (Option.some.inj e))
  have hnc : ∀ {g : Nat} {cs : Array Value} {ty : TypeId}, w.heap[g]? = some (.cells cs ty (0, 0)) → g ≠ mb := fun hc => h.map.ne_cells hc
  refine ⟨(hmv cg h.okg (hnc h.hg)).trans h.hg, hm, R_noncells h.ord hg (fun r e => ?_), h.okg, h.okm, h.log, h.lom, fun y hy => ?_, ?_⟩
  · cases e
    obtain ⟨es, clock, hb, _⟩ := h.map
    exact ⟨_, hb, rfl⟩
  · have hy' : y ∈ E1 ++ x :: E2 := by simp only [List.mem_append, List.mem_cons] at hy ⊢; rcases hy with hy | hy <;> simp [hy]
    have h1 := h.each y hy'
    refine ⟨(hmv _ h1.ok (hnc h1.blk)).trans h1.blk, R_noncells h1.R hg (fun r e => ?_), h1.ok, h1.lo⟩
    cases e
    obtain ⟨es, clock, hb, _⟩ := h.map
    exact ⟨_, hb, rfl⟩
  · have := h.nd
    rw [List.map_append, List.map_cons] at this
    rw [List.map_append]
    exact this.sublist (List.Sublist.append_left (List.sublist_cons_self _ _) _)
theorem without_map {L1 L2 : List Bf} {x : Bf} (h : ((L1 ++ x :: L2).map (·.blk)).Nodup) : without x.blk ((L1 ++ x :: L2).map (·.blk)) = (L1 ++ L2).map (·.blk) := by
  rw [List.map_append, List.map_cons] at h ⊢
  rw [List.nodup_append] at h
  obtain ⟨h1, h2, h3⟩ := h
  rw [List.nodup_cons] at h2
  unfold without
  rw [List.filter_append, List.filter_cons]
  have e1 : (L1.map (·.blk)).filter (fun y => !(x.blk == y)) = L1.map (·.blk) := List.filter_eq_self.2 (fun y hy => by
    have hne : ¬ x.blk = y := fun e => h3 y hy x.blk (by simp) e.symm
    simpa using hne)
  have e2 : (L2.map (·.blk)).filter (fun y => !(x.blk == y)) = L2.map (·.blk) := List.filter_eq_self.2 (fun y hy => by
    have : ¬ x.blk = y := fun e => h2.1 (e ▸ hy)
    simpa using this)
  rw [e1, e2]
  simp

/-- what trim has at each round's head -/
def TrimI (base : Nat) (ok : Nat → Prop) (w : World) (cg mb tb : Nat) (dv : Value) (size reads : Int) (L0 : List Bf) (wr : World) : Prop :=
  ∃ L, WC base ok wr cg mb dv size reads L ∧ trimL size L = trimL size L0 ∧ (Off ok w wr ∧ KeepT w wr) ∧ wr.heap[tb]? = some (.cells #[.pointer (some ⟨cg, 0, none⟩)] 24 (0, 0))

set_option maxRecDepth 100000 in
set_option maxHeartbeats 2000000 in
theorem trim_calls {base : Nat} {ok : Nat → Prop} {w : World} {cg mb : Nat} {dv : Value} {size reads : Int} {L0 : List Bf} (h : WC base ok w cg mb dv size reads L0) (hok : ∀ k, ok k → k < w.heap.size) :
    Calls Try.prog 30 #[.pointer (some ⟨cg, 0, none⟩)] w fun e w' => e = .returned (.tuple #[]) ∧ WC base ok w' cg mb dv size reads (trimL size L0) ∧ Off ok w w' ∧ KeepT w w' := by
  have hb1 : Below w.heap.size w (w.alloc (.cells #[.pointer (some ⟨cg, 0, none⟩)] 24)) := below_alloc (Below.refl _ _) _
  have HT0 : Hid (TrimI base ok w cg mb w.heap.size dv size reads L0 (w.alloc (.cells #[.pointer (some ⟨cg, 0, none⟩)] 24))) := Lib.hid ⟨L0, by
    obtain ⟨vo, E, hI, hp⟩ := h
    exact ⟨vo, E, hI.below hok hb1, hp⟩, rfl, ⟨Off.of_below hb1 ok, KeepT.of_below hb1⟩, blk_new w _⟩
  have HOK := Lib.hid hok
  have HTB : Hid (¬ ok w.heap.size) := Lib.hid (fun hk => by have := hok _ hk; omega)
  clear h hok hb1
  obtain ⟨tb, htb⟩ : ∃ tb, w.heap.size = tb := ⟨_, rfl⟩
  go_enter Try.func30, Try.ntmps30
  go_wp2
  rw [htb] at HT0 HTB
  go_loopw [2] (fun k wr => Hid (TrimI base ok w cg mb tb dv size reads L0 wr)) (fun _ wr => mapSize wr mb)
  case atStart => exact HT0
  case round =>
    clear HT0
    obtain ⟨L, hW, hT, ⟨hO, hKT⟩, ht⟩ := hrel.out
    have HKT : Hid (KeepT w wr.drew) := Lib.hid hKT
    clear hKT
    obtain ⟨vo, E, hI, hp⟩ := hW
    have hnd := WC.nodup ⟨vo, E, hI, hp⟩
    have hsz := WC.size ⟨vo, E, hI, hp⟩
    obtain ⟨n, hn⟩ : ∃ n, L.length = n := ⟨_, rfl⟩
    have HNL := Lib.hid hn
    obtain ⟨A, c, hvo⟩ := Kd.R_slice hI.ord
    rw [List.length_map, hn] at hvo
    subst hvo
    have hlm := (Kd.R_reads' hI.ord).2.2.2.1
    rw [List.length_map, hn] at hlm
    rw [hn] at hsz
    clear hn
    have hoks : ∀ k, ok k → k < wr.heap.size := fun k hk => Nat.lt_of_lt_of_le (HOK.out k hk) hO.size
    have hID := hI.below hoks (below_drew (Below.refl _ wr))
    have hS : wr.drew.cell? ⟨tb, 0, none⟩ = some (.pointer (some ⟨cg, 0, none⟩)) ∧ wr.drew.cell? ⟨cg, 2, none⟩ = some (.map (some mb)) ∧ wr.drew.cell? ⟨cg, 1, none⟩ = some (.int .i64 size) ∧ ∀ ty, (Builtin.len_ #[54] ty #[.map (some mb)]).run Try.prog wr.drew = .ok (.int .i64 (n : Int)) wr.drew := ⟨blk_cell ht 0, blk_cell hI.hg 2, blk_cell hI.hg 1, fun ty => by
      have := hID.map.len Try.underlying54 ty
      rw [List.length_map, ← List.length_map (f := fun x : Bf × Nat × Value => x.1), hp.length_eq, HNL.out] at this
      exact this⟩
    have HS := Lib.hid hS
    have HT := Lib.hid hT
    have HO9 := Lib.hid (hO.drew)
    have htd : wr.drew.heap[tb]? = some (.cells #[.pointer (some ⟨cg, 0, none⟩)] 24 (0, 0)) := ht
    have HSZ := Lib.hid hsz
    have HP := Lib.hid hp
    have HND := Lib.hid hnd
    have HOKS : Hid (∀ k, ok k → k < wr.drew.heap.size) := Lib.hid hoks
    have HID := Lib.hid hID
    have HTD := Lib.hid htd
    clear hS hT hO htd hI hID hp hnd hsz hrel ht hoks
    by_cases hs : size < (n : Int)
    · have s1 : decide (size < (n : Int)) = true := by simpa using hs
      have HLK : Hid (Looks wr.drew 38 (.pointer (some ⟨tb, 0, none⟩)) (pF E) (L.map (·.blk))) := Lib.hid (fun n hn => by
        obtain ⟨y, hy, rfl⟩ := List.mem_map.1 hn
        obtain ⟨e, he, rfl⟩ := List.mem_map.1 ((HP.out.mem_iff).2 hy)
        rw [pF_at HID.out.nodup he]
        exact trim1_calls HID.out HTD.out he)
      have HORD : Hid (Kd.C (Kd.int .i64) wr.drew A (L.map (·.blk)).length (L.map (·.blk))) := Lib.hid (Kd.R_reads' (by have := HID.out.ord; rw [← HNL.out, ← List.length_map (f := fun x : Bf => x.blk)] at this; exact this)).2.2
      have k0 := blk_cell HTD.out 0
      have k3 := blk_cell HID.out.hg 3
      simp only [List.getElem?_toArray, List.getElem?_cons_zero, List.getElem?_cons_succ] at k0 k3
      have HLM : Hid ((L.map (·.blk)).length = n) := Lib.hid (by rw [List.length_map]; exact HNL.out)
      cases hpop : popL L with
      | none =>
        have HTR : Hid (trimL size L = L) := Lib.hid (trimL_stuck hpop)
        have HIX : Hid (idxP (pF E) (L.map (·.blk)) = -1) := Lib.hid (idxP_no _ _ (fun n hn => by
          obtain ⟨y, hy, rfl⟩ := List.mem_map.1 hn
          obtain ⟨e, he, rfl⟩ := List.mem_map.1 ((HP.out.mem_iff).2 hy)
          rw [pF_at HID.out.nodup he]
          exact popL_none hpop _ hy))
        clear hpop hs
        go_wp2
        refine start_ (n := 10) (S := fun W => W.cell? ⟨tb, 0, none⟩ = some (.pointer (some ⟨cg, 0, none⟩)) ∧ W.cell? ⟨cg, 2, none⟩ = some (.map (some mb)) ∧ W.cell? ⟨cg, 1, none⟩ = some (.int .i64 size) ∧ ∀ ty, (Builtin.len_ #[54] ty #[.map (some mb)]).run Try.prog W = .ok (.int .i64 (n : Int)) W) (ds := []) #[false, false, false, false, false, false, false, false, false, false] (by kernel_rfl) rfl rfl HS.out (fun hHeld => ?_)
        refine take_ (i := 0) (N := some 4) (v := ?_) (a' := ?_) (bm 10 1) rfl rfl (by kernel_rfl) (fun _ _ _ h => h) (Or.inl ⟨by rfl, ?_⟩) hHeld ?_ ?_
        rotate_left
        · rintro w' ⟨s0, s1, s2, s3⟩
          go_simp
          with_reducible rfl
        rotate_left
        · simp only [Act.put, List.setIfInBounds_toArray, List.set_cons_zero, List.set_cons_succ, i64_w, i32_w]
          rfl
        refine pure_ (i := 1) (N := some 5) (v := ?_) (a' := ?_) (bm 10 3) rfl rfl (by kernel_rfl) (fun _ _ _ h => h) (Or.inl ⟨by rfl, ?_⟩) ?_ ?_
        rotate_left
        · intro w'
          go_simp
          with_reducible rfl
        rotate_left
        · simp only [Act.put, List.setIfInBounds_toArray, List.set_cons_zero, List.set_cons_succ, i64_w, i32_w]
          rfl
        refine pure_ (i := 2) (N := some 6) (v := ?_) (a' := ?_) (bm 10 7) rfl rfl (by kernel_rfl) (fun _ _ _ h => h) (Or.inl ⟨by rfl, ?_⟩) ?_ ?_
        rotate_left
        · intro w'
          go_simp
          with_reducible rfl
        rotate_left
        · simp only [Act.put, List.setIfInBounds_toArray, List.set_cons_zero, List.set_cons_succ, i64_w, i32_w]
          rfl
        refine take_ (i := 3) (N := some 7) (v := ?_) (a' := ?_) (bm 10 15) rfl rfl (by kernel_rfl) (fun _ _ _ h => h) (Or.inl ⟨by rfl, ?_⟩) hHeld ?_ ?_
        rotate_left
        · rintro w' ⟨s0, s1, s2, s3⟩
          go_simp
          with_reducible rfl
        rotate_left
        · simp only [Act.put, List.setIfInBounds_toArray, List.set_cons_zero, List.set_cons_succ, i64_w, i32_w]
          rfl
        refine take_ (i := 4) (N := some 8) (v := ?_) (a' := ?_) (bm 10 31) rfl rfl (by kernel_rfl) (fun _ _ _ h => h) (Or.inl ⟨by rfl, ?_⟩) hHeld ?_ ?_
        rotate_left
        · rintro w' ⟨s0, s1, s2, s3⟩
          go_simp
          with_reducible rfl
        rotate_left
        · simp only [Act.put, List.setIfInBounds_toArray, List.set_cons_zero, List.set_cons_succ, i64_w, i32_w]
          rfl
        refine take_ (i := 5) (N := some 9) (v := ?_) (a' := ?_) (bm 10 63) rfl rfl (by kernel_rfl) (fun _ _ _ h => h) (Or.inl ⟨by rfl, ?_⟩) hHeld ?_ ?_
        rotate_left
        · rintro w' ⟨s0, s1, s2, s3⟩
          go_simp
          with_reducible rfl
        rotate_left
        · simp only [Act.put, List.setIfInBounds_toArray, List.set_cons_zero, List.set_cons_succ, i64_w, i32_w]
          rfl
        refine pure_ (i := 6) (N := some 10) (v := ?_) (a' := ?_) (bm 10 127) rfl rfl (by kernel_rfl) (fun _ _ _ h => h) (Or.inl ⟨by rfl, ?_⟩) ?_ ?_
        rotate_left
        · intro w'
          go_simp
          with_reducible rfl
        rotate_left
        · simp only [Act.put, List.setIfInBounds_toArray, List.set_cons_zero, List.set_cons_succ, i64_w, i32_w]
          rfl
        refine pure_ (i := 7) (N := some 11) (v := ?_) (a' := ?_) (bm 10 255) rfl rfl (by kernel_rfl) (fun _ _ _ h => h) (Or.inl ⟨by rfl, ?_⟩) ?_ ?_
        rotate_left
        · intro w'
          go_simp
          with_reducible rfl
        rotate_left
        · simp only [Act.put, List.setIfInBounds_toArray, List.set_cons_zero, List.set_cons_succ, i64_w, i32_w]
          rfl
        refine take_ (i := 8) (N := some 12) (v := ?_) (a' := ?_) (bm 10 511) rfl rfl (by kernel_rfl) (fun _ _ _ h => h) (Or.inl ⟨by rfl, ?_⟩) hHeld ?_ ?_
        rotate_left
        · rintro w' ⟨s0, s1, s2, s3⟩
          go_simp
          with_reducible rfl
        rotate_left
        · simp only [Act.put, List.setIfInBounds_toArray, List.set_cons_zero, List.set_cons_succ, i64_w, i32_w]
          rfl
        refine pure_ (i := 9) (N := some 13) (v := ?_) (a' := ?_) (bm 10 1023) rfl rfl (by kernel_rfl) (fun _ _ _ h => h) (Or.inl ⟨by rfl, ?_⟩) ?_ ?_
        rotate_left
        · intro w'
          go_simp
          with_reducible rfl
        rotate_left
        · simp only [Act.put, List.setIfInBounds_toArray, List.set_cons_zero, List.set_cons_succ, i64_w, i32_w]
          rfl
        refine done_ (by kernel_rfl) ?_
        clear hHeld
        go_wp2_with (go_at_call 37; (with_reducible refine (index_callsL HLM.out (.inl rfl) HORD.out HLK.out).mono ?_); rintro e w' ⟨rfl, rfl⟩; rw [HIX.out])
        exact bodyPost_ret (v := .tuple #[]) (by simp [results, Try.results30, go_sem]) rfl ⟨rfl, by rw [← HT.out, HTR.out]; exact ⟨_, E, HID.out, HP.out⟩, HO9.out, HKT.out⟩
      | some L' =>
        have HTR : Hid (trimL size L = trimL size L') := Lib.hid (trimL_pop (by rw [HNL.out]; exact hs) hpop)
        have HLEN : Hid (L'.length + 1 = n) := Lib.hid (by rw [← HNL.out]; exact popL_len hpop)
        obtain ⟨L1, x, L2, rfl, hno, hfx, rfl⟩ := popL_some hpop
        have hxm : x ∈ E.map (·.1) := (HP.out.mem_iff).2 (by simp)
        obtain ⟨e, he, hex⟩ := List.mem_map.1 hxm
        obtain ⟨E1, E2, rfl⟩ := List.append_of_mem he
        obtain ⟨y, xb, vb⟩ := e
        simp only at hex
        subst hex
        have HP2 : Hid (((E1 ++ E2).map (·.1)).Perm (L1 ++ L2)) := Lib.hid (by
          have h1 := HP.out
          rw [List.map_append, List.map_cons] at h1
          rw [List.map_append]
          exact (List.perm_middle.symm.trans (h1.trans List.perm_middle)).cons_inv)
        have HIX : Hid (idxP (pF (E1 ++ (y, xb, vb) :: E2)) ((L1 ++ y :: L2).map (·.blk)) = (L1.length : Int)) := Lib.hid (by
          rw [List.map_append, List.map_cons, idxP_at, List.length_map]
          · intro n hn
            obtain ⟨z, hz, rfl⟩ := List.mem_map.1 hn
            obtain ⟨e2, he2, rfl⟩ := List.mem_map.1 ((HP.out.mem_iff).2 (by simp [hz] : z ∈ L1 ++ y :: L2))
            rw [pF_at HID.out.nodup he2]
            exact hno _ hz
          · have := pF_at HID.out.nodup he
            rw [this]
            exact hfx)
        have hwf := HID.out.wf he
        have HWF := Lib.hid hwf
        have HWO : Hid (without y.blk ((L1 ++ y :: L2).map (·.blk)) = (L1 ++ L2).map (·.blk)) := Lib.hid (without_map HND.out)
        have hil : (L1.length : Int) < (n : Int) := by rw [← HNL.out]; simp; omega
        obtain ⟨ad, rfl, hcell⟩ := C_cells HORD.out (by rw [List.length_map, HNL.out]; omega)
        have hcl : wr.drew.cell? (ad.add L1.length) = some (.int .i64 y.blk) := hcell L1.length _ (by simp [nums])
        clear hpop hno hfx hxm he hwf hcell hs
        go_wp2
        refine start_ (n := 10) (S := fun W => W.cell? ⟨tb, 0, none⟩ = some (.pointer (some ⟨cg, 0, none⟩)) ∧ W.cell? ⟨cg, 2, none⟩ = some (.map (some mb)) ∧ W.cell? ⟨cg, 1, none⟩ = some (.int .i64 size) ∧ ∀ ty, (Builtin.len_ #[54] ty #[.map (some mb)]).run Try.prog W = .ok (.int .i64 (n : Int)) W) (ds := []) #[false, false, false, false, false, false, false, false, false, false] (by kernel_rfl) rfl rfl HS.out (fun hHeld => ?_)
        refine take_ (i := 0) (N := some 4) (v := ?_) (a' := ?_) (bm 10 1) rfl rfl (by kernel_rfl) (fun _ _ _ h => h) (Or.inl ⟨by rfl, ?_⟩) hHeld ?_ ?_
        rotate_left
        · rintro w' ⟨s0, s1, s2, s3⟩
          go_simp
          with_reducible rfl
        rotate_left
        · simp only [Act.put, List.setIfInBounds_toArray, List.set_cons_zero, List.set_cons_succ, i64_w, i32_w]
          rfl
        refine pure_ (i := 1) (N := some 5) (v := ?_) (a' := ?_) (bm 10 3) rfl rfl (by kernel_rfl) (fun _ _ _ h => h) (Or.inl ⟨by rfl, ?_⟩) ?_ ?_
        rotate_left
        · intro w'
          go_simp
          with_reducible rfl
        rotate_left
        · simp only [Act.put, List.setIfInBounds_toArray, List.set_cons_zero, List.set_cons_succ, i64_w, i32_w]
          rfl
        refine pure_ (i := 2) (N := some 6) (v := ?_) (a' := ?_) (bm 10 7) rfl rfl (by kernel_rfl) (fun _ _ _ h => h) (Or.inl ⟨by rfl, ?_⟩) ?_ ?_
        rotate_left
        · intro w'
          go_simp
          with_reducible rfl
        rotate_left
        · simp only [Act.put, List.setIfInBounds_toArray, List.set_cons_zero, List.set_cons_succ, i64_w, i32_w]
          rfl
        refine take_ (i := 3) (N := some 7) (v := ?_) (a' := ?_) (bm 10 15) rfl rfl (by kernel_rfl) (fun _ _ _ h => h) (Or.inl ⟨by rfl, ?_⟩) hHeld ?_ ?_
        rotate_left
        · rintro w' ⟨s0, s1, s2, s3⟩
          go_simp
          with_reducible rfl
        rotate_left
        · simp only [Act.put, List.setIfInBounds_toArray, List.set_cons_zero, List.set_cons_succ, i64_w, i32_w]
          rfl
        refine take_ (i := 4) (N := some 8) (v := ?_) (a' := ?_) (bm 10 31) rfl rfl (by kernel_rfl) (fun _ _ _ h => h) (Or.inl ⟨by rfl, ?_⟩) hHeld ?_ ?_
        rotate_left
        · rintro w' ⟨s0, s1, s2, s3⟩
          go_simp
          with_reducible rfl
        rotate_left
        · simp only [Act.put, List.setIfInBounds_toArray, List.set_cons_zero, List.set_cons_succ, i64_w, i32_w]
          rfl
        refine take_ (i := 5) (N := some 9) (v := ?_) (a' := ?_) (bm 10 63) rfl rfl (by kernel_rfl) (fun _ _ _ h => h) (Or.inl ⟨by rfl, ?_⟩) hHeld ?_ ?_
        rotate_left
        · rintro w' ⟨s0, s1, s2, s3⟩
          go_simp
          with_reducible rfl
        rotate_left
        · simp only [Act.put, List.setIfInBounds_toArray, List.set_cons_zero, List.set_cons_succ, i64_w, i32_w]
          rfl
        refine pure_ (i := 6) (N := some 10) (v := ?_) (a' := ?_) (bm 10 127) rfl rfl (by kernel_rfl) (fun _ _ _ h => h) (Or.inl ⟨by rfl, ?_⟩) ?_ ?_
        rotate_left
        · intro w'
          go_simp
          with_reducible rfl
        rotate_left
        · simp only [Act.put, List.setIfInBounds_toArray, List.set_cons_zero, List.set_cons_succ, i64_w, i32_w]
          rfl
        refine pure_ (i := 7) (N := some 11) (v := ?_) (a' := ?_) (bm 10 255) rfl rfl (by kernel_rfl) (fun _ _ _ h => h) (Or.inl ⟨by rfl, ?_⟩) ?_ ?_
        rotate_left
        · intro w'
          go_simp
          with_reducible rfl
        rotate_left
        · simp only [Act.put, List.setIfInBounds_toArray, List.set_cons_zero, List.set_cons_succ, i64_w, i32_w]
          rfl
        refine take_ (i := 8) (N := some 12) (v := ?_) (a' := ?_) (bm 10 511) rfl rfl (by kernel_rfl) (fun _ _ _ h => h) (Or.inl ⟨by rfl, ?_⟩) hHeld ?_ ?_
        rotate_left
        · rintro w' ⟨s0, s1, s2, s3⟩
          go_simp
          with_reducible rfl
        rotate_left
        · simp only [Act.put, List.setIfInBounds_toArray, List.set_cons_zero, List.set_cons_succ, i64_w, i32_w]
          rfl
        refine pure_ (i := 9) (N := some 13) (v := ?_) (a' := ?_) (bm 10 1023) rfl rfl (by kernel_rfl) (fun _ _ _ h => h) (Or.inl ⟨by rfl, ?_⟩) ?_ ?_
        rotate_left
        · intro w'
          go_simp
          with_reducible rfl
        rotate_left
        · simp only [Act.put, List.setIfInBounds_toArray, List.set_cons_zero, List.set_cons_succ, i64_w, i32_w]
          rfl
        refine done_ (by kernel_rfl) ?_
        clear hHeld
        go_wp2_with (first
          | (go_at_call 37; (with_reducible refine (index_callsL HLM.out (.inl rfl) HORD.out HLK.out).mono ?_); rintro e w' ⟨rfl, rfl⟩; rw [HIX.out])
          | (go_at_call 36; (with_reducible refine (drop_calls HID.out HOKS.out y.blk).mono ?_); rintro e w2 ⟨rfl, ⟨v2, hI2⟩, ho2, hkt2⟩; have HKT2 := Lib.hid hkt2; clear hkt2; have htb2 := ho2.blk HTD.out HTB.out; have q0 := blk_cell htb2 0; have q2 := blk_cell hI2.hg 2; simp only [List.getElem?_toArray, List.getElem?_cons_zero, List.getElem?_cons_succ] at q0 q2; have m2 := hI2.map; rw [List.map_append, List.map_cons] at m2; obtain ⟨w3, hdel, hm3, hg3, hs3⟩ := MapAt.drop_hit m2 law3 Try.underlying54 0 (key3 HWF.out); have HM3 := Lib.hid hm3; have HG3 := Lib.hid hg3; have HI2 := Lib.hid hI2; have HO2 := Lib.hid ho2; have HTB2 := Lib.hid htb2; clear m2 hm3 hg3 hs3 hI2 ho2 htb2))
        have HOK2 : Hid (∀ k, ok k → k < w2.heap.size) := Lib.hid (fun k hk => Nat.lt_of_lt_of_le (HOKS.out k hk) HO2.out.size)
        have HI3 := Lib.hid (HI2.out.dropE (by rw [List.map_append]; exact HM3.out) HG3.out HOK2.out)
        rw [HWO.out] at HI3
        have HINV : Hid (TrimI base ok w cg mb tb dv size reads L0 w3) := Lib.hid ⟨L1 ++ L2, ⟨_, _, HI3.out, HP2.out⟩, by rw [← HTR.out]; exact HT.out, ⟨(HO9.out.trans HO2.out).trans ((Off.refl ok w2).grown HG3.out (fun k e => by cases e; exact .inl HI2.out.okm)), (HKT.out.trans HKT2.out).trans (KeepT.of_map HI2.out.map HG3.out)⟩, (HG3.out.block _ (blk_lt HTB2.out) (fun e => HI2.out.map.ne_cells HTB2.out (Option.some.inj e))).trans HTB2.out⟩
        have HMS : Hid (mapSize w3 mb < mapSize wr mb) := Lib.hid (by
          rw [HSZ.out, MapAt_size HM3.out]
          have h1 := HP2.out.length_eq
          have h2 := HLEN.out
          simp only [List.length_append, List.length_map] at h1 h2 ⊢
          omega)
        go_roundw
        case rel => exact HINV
        case measure => exact HMS.out
    · have s1 : decide (size < (n : Int)) = false := by simpa using hs
      have HTR : Hid (trimL size L = L) := Lib.hid (trimL_small (by rw [HNL.out]; omega))
      clear hs
      go_wp2
      refine start_ (n := 10) (S := fun W => W.cell? ⟨tb, 0, none⟩ = some (.pointer (some ⟨cg, 0, none⟩)) ∧ W.cell? ⟨cg, 2, none⟩ = some (.map (some mb)) ∧ W.cell? ⟨cg, 1, none⟩ = some (.int .i64 size) ∧ ∀ ty, (Builtin.len_ #[54] ty #[.map (some mb)]).run Try.prog W = .ok (.int .i64 (n : Int)) W) (ds := []) #[false, false, false, false, false, false, false, false, false, false] (by kernel_rfl) rfl rfl HS.out (fun hHeld => ?_)
      refine take_ (i := 0) (N := some 4) (v := ?_) (a' := ?_) (bm 10 1) rfl rfl (by kernel_rfl) (fun _ _ _ h => h) (Or.inl ⟨by rfl, ?_⟩) hHeld ?_ ?_
      rotate_left
      · rintro w' ⟨s0, s1, s2, s3⟩
        go_simp
        with_reducible rfl
      rotate_left
      · simp only [Act.put, List.setIfInBounds_toArray, List.set_cons_zero, List.set_cons_succ, i64_w, i32_w]
        rfl
      refine pure_ (i := 1) (N := some 5) (v := ?_) (a' := ?_) (bm 10 3) rfl rfl (by kernel_rfl) (fun _ _ _ h => h) (Or.inl ⟨by rfl, ?_⟩) ?_ ?_
      rotate_left
      · intro w'
        go_simp
        with_reducible rfl
      rotate_left
      · simp only [Act.put, List.setIfInBounds_toArray, List.set_cons_zero, List.set_cons_succ, i64_w, i32_w]
        rfl
      refine pure_ (i := 2) (N := some 6) (v := ?_) (a' := ?_) (bm 10 7) rfl rfl (by kernel_rfl) (fun _ _ _ h => h) (Or.inl ⟨by rfl, ?_⟩) ?_ ?_
      rotate_left
      · intro w'
        go_simp
        with_reducible rfl
      rotate_left
      · simp only [Act.put, List.setIfInBounds_toArray, List.set_cons_zero, List.set_cons_succ, i64_w, i32_w]
        rfl
      refine take_ (i := 3) (N := some 7) (v := ?_) (a' := ?_) (bm 10 15) rfl rfl (by kernel_rfl) (fun _ _ _ h => h) (Or.inl ⟨by rfl, ?_⟩) hHeld ?_ ?_
      rotate_left
      · rintro w' ⟨s0, s1, s2, s3⟩
        go_simp
        with_reducible rfl
      rotate_left
      · simp only [Act.put, List.setIfInBounds_toArray, List.set_cons_zero, List.set_cons_succ, i64_w, i32_w]
        rfl
      refine take_ (i := 4) (N := some 8) (v := ?_) (a' := ?_) (bm 10 31) rfl rfl (by kernel_rfl) (fun _ _ _ h => h) (Or.inl ⟨by rfl, ?_⟩) hHeld ?_ ?_
      rotate_left
      · rintro w' ⟨s0, s1, s2, s3⟩
        go_simp
        with_reducible rfl
      rotate_left
      · simp only [Act.put, List.setIfInBounds_toArray, List.set_cons_zero, List.set_cons_succ, i64_w, i32_w]
        rfl
      refine take_ (i := 5) (N := some 9) (v := ?_) (a' := ?_) (bm 10 63) rfl rfl (by kernel_rfl) (fun _ _ _ h => h) (Or.inl ⟨by rfl, ?_⟩) hHeld ?_ ?_
      rotate_left
      · rintro w' ⟨s0, s1, s2, s3⟩
        go_simp
        with_reducible rfl
      rotate_left
      · simp only [Act.put, List.setIfInBounds_toArray, List.set_cons_zero, List.set_cons_succ, i64_w, i32_w]
        rfl
      refine pure_ (i := 6) (N := some 10) (v := ?_) (a' := ?_) (bm 10 127) rfl rfl (by kernel_rfl) (fun _ _ _ h => h) (Or.inl ⟨by rfl, ?_⟩) ?_ ?_
      rotate_left
      · intro w'
        go_simp
        with_reducible rfl
      rotate_left
      · simp only [Act.put, List.setIfInBounds_toArray, List.set_cons_zero, List.set_cons_succ, i64_w, i32_w]
        rfl
      refine pure_ (i := 7) (N := some 11) (v := ?_) (a' := ?_) (bm 10 255) rfl rfl (by kernel_rfl) (fun _ _ _ h => h) (Or.inl ⟨by rfl, ?_⟩) ?_ ?_
      rotate_left
      · intro w'
        go_simp
        with_reducible rfl
      rotate_left
      · simp only [Act.put, List.setIfInBounds_toArray, List.set_cons_zero, List.set_cons_succ, i64_w, i32_w]
        rfl
      refine take_ (i := 8) (N := some 12) (v := ?_) (a' := ?_) (bm 10 511) rfl rfl (by kernel_rfl) (fun _ _ _ h => h) (Or.inl ⟨by rfl, ?_⟩) hHeld ?_ ?_
      rotate_left
      · rintro w' ⟨s0, s1, s2, s3⟩
        go_simp
        with_reducible rfl
      rotate_left
      · simp only [Act.put, List.setIfInBounds_toArray, List.set_cons_zero, List.set_cons_succ, i64_w, i32_w]
        rfl
      refine pure_ (i := 9) (N := some 13) (v := ?_) (a' := ?_) (bm 10 1023) rfl rfl (by kernel_rfl) (fun _ _ _ h => h) (Or.inl ⟨by rfl, ?_⟩) ?_ ?_
      rotate_left
      · intro w'
        go_simp
        with_reducible rfl
      rotate_left
      · simp only [Act.put, List.setIfInBounds_toArray, List.set_cons_zero, List.set_cons_succ, i64_w, i32_w]
        rfl
      refine done_ (by kernel_rfl) ?_
      clear hHeld
      go_wp2
      go_end0
      exact ⟨rfl, by rw [← HT.out, HTR.out]; exact ⟨_, E, HID.out, HP.out⟩, HO9.out, HKT.out⟩
end Go.Proofs.Ythcafgjcgikgpaa.Given
