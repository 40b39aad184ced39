/- (*Disk).Write of a block that is there. -/
import Derived.Test.YthcafgjcgikgpaaE6
namespace Go.Proofs.Ythcafgjcgikgpaa.Given
open Go.RowKit Go.Shelf Go.Proofs.YthcafgjcgikgpaaW.PrintWords Go.Proofs.YthcafgjcgikgpaaW.PrintLast Go.Proofs.YthcafgjcgikgpaaW.PrintMore Go.Proofs.YthcafgjcgikgpaaBase
set_option linter.unusedVariables false
set_option linter.unusedSimpArgs false
attribute [local go_sem] Oper.semAt_some

theorem grownBy_setCell'' (W : World) (b j : Nat) (v : Value) : W.grownBy (W.setCell ⟨b, j, none⟩ v) (some b) := ⟨rfl, rfl, rfl, by simp [World.setCell], fun k _ hk => Below.heap_setCell _ _ _ k (fun e => hk (by rw [e]))⟩
theorem okOrNew {ok : Nat → Prop} {g n : Nat} (h : ok g ∨ n + 4 ≤ g) : ok g ∨ n ≤ g := h.imp id (fun h => by omega)
theorem write_resM {F : Fence} {n : Nat} {R : Ending → World → Prop} {a : Act} {w : World} {B D : Nat} {rv : Bool} (hd : a.defers = [{ target := .collected D, args := #[] }]) (hs : a.tmps.getD 6 undef = .pointer (some ⟨B, 0, none⟩)) (hB : Boxed w B 4 (.bool rv))
    (hK : w.heap[D]? = some (.deferred (some []))) (h : R (.returned (.bool rv)) (w.putObj D (.deferred none))) : bodyPostM F n Try.prog Try.f21 R .ret a w := by
  show LeavesInM _ _ _ _ _ _ a.defers _ _
  rw [hd]
  refine ⟨by simp, .inl ⟨_, _, rfl, run_takeDeferred hK, ?_⟩⟩
  refine ⟨.bool rv, ?_, h⟩
  have h2 : Boxed (w.putObj D (.deferred none)) B 4 (.bool rv) := hB.kept (grownBy_putObj' w D _) (fun e => by
    cases e
    rw [show w.heap[B]? = _ from hB] at hK
    cases hK)
  have := h2.cell
  simp only [Array.getD_eq_getD_getElem?] at hs
  simp [results, Try.f21, go_sem, hs, this]
theorem left_ {base : Nat} {ok : Nat → Prop} {w W : World} {g D : Nat} {b : List Int} {l : List S31} {cut : Int} {dead : Bool} (hD : w.heap.size ≤ D) (hK : W.heap[D]? = some (.deferred (some []))) (h : IsD base (fun k => ok k ∨ w.heap.size + 4 ≤ k) W g b l cut dead) (ho : Off ok w W) :
    IsD base (fun k => ok k ∨ w.heap.size ≤ k) (W.putObj D (.deferred none)) g b l cut dead ∧ Off ok w (W.putObj D (.deferred none)) :=
  ⟨(h.noncells (grownBy_putObj' W D _) (fun r e => by cases e; exact ⟨_, hK, rfl⟩)).mono (fun k hk => hk.imp id (fun h => by omega)), ho.grown (grownBy_putObj' W D _) (fun k e => by cases e; exact .inr hD)⟩
/-- which sectors a stopped write has written -/
theorem stopped_at (k : Nat) (x : List Int) (s0 : DS) (p : List (Fin 2)) (j : Fin 2) (hp : (p ++ [j]).map Fin.val = List.range' 0 (p ++ [j]).length) (h1 : (foldW k x (p.map Fin.val) s0).cut = 0) (h2 : GoesW k x (p.map Fin.val) s0) :
    runW k x [0, 1] s0 = ({ foldW k x (p.map Fin.val) s0 with dead := true }, false) := by
  have hl : (p ++ [j]).length = p.length + 1 := by simp
  have hj : j.val = p.length := by
    have := congrArg (fun l => l[p.length]?) hp
    rw [hl] at this
    simpa [List.getElem?_range'] using this
  have hpv : p.map Fin.val = List.range' 0 p.length := by
    have := congrArg (List.take p.length) hp
    rw [hl] at this
    rw [List.map_append, List.range'_concat, List.take_left' (by simp), List.take_left' (by simp)] at this
    exact this
  have hlt := j.isLt
  have hc : p.length = 0 ∨ p.length = 1 := by omega
  rw [hpv] at h1 h2 ⊢
  rcases hc with hc | hc
  · rw [hc] at h1 h2 ⊢
    exact runW_stop k x [] s0 0 [1] h2 h1
  · rw [hc] at h1 h2 ⊢
    exact runW_stop k x [0] s0 1 [] h2 h1
/-- ahead of a round: all sectors of pre are written -/
def WInv (base : Nat) (ok : Nat → Prop) (w : World) (g k : Nat) (x : List Int) (s0 : DS) (pre : List (Fin 2)) (W : World) : Prop :=
  (Boxed W w.heap.size 26 (.pointer (some ⟨g, 0, none⟩)) ∧ ∃ rv, Boxed W (w.heap.size + 1) 4 rv) ∧ (IsD base (fun k => ok k ∨ w.heap.size + 4 ≤ k) W g (foldW k x (pre.map Fin.val) s0).b (foldW k x (pre.map Fin.val) s0).l (foldW k x (pre.map Fin.val) s0).cut false ∧ GoesW k x (pre.map Fin.val) s0) ∧ Off ok w W ∧ w.heap.size + 4 ≤ W.heap.size
/-- a round has found the power cut -/
def WStop (base : Nat) (ok : Nat → Prop) (w : World) (g k : Nat) (x : List Int) (s0 : DS) (c : Code) (pre : List (Fin 2)) (W : World) : Prop :=
  (∃ p j, pre = p ++ [j] ∧ c = .ret ∧ (foldW k x (p.map Fin.val) s0).cut = 0 ∧ GoesW k x (p.map Fin.val) s0 ∧ Boxed W (w.heap.size + 1) 4 (.bool false) ∧ IsD base (fun k => ok k ∨ w.heap.size + 4 ≤ k) W g (foldW k x (p.map Fin.val) s0).b (foldW k x (p.map Fin.val) s0).l 0 true) ∧ Off ok w W
theorem WInv.own {base : Nat} {ok : Nat → Prop} {w : World} {g k : Nat} {x : List Int} {s0 : DS} {B : Nat} (hB : w.heap.size ≤ B) : OwnFrom B (WInv base ok w g k x s0) := by
  unfold WInv
  refine OwnFrom.and (Own.from (fun s A B row hs hg hr => ?_) _) (OwnFrom.and (Own.from (fun s A B row hs hg hr => ⟨hs.1.noncells hg hr, hs.2⟩) _) (OwnFrom.and (ownFrom_off hB) (fun s A B row hs hg hr => Nat.le_trans hs hg.size)))
  obtain ⟨h1, rv, h2⟩ := hs
  exact ⟨boxed_own _ _ (fun (_ : Unit) => .pointer (some ⟨g, 0, none⟩)) () A B row h1 hg hr, rv, boxed_own _ _ (fun (_ : Unit) => rv) () A B row h2 hg hr⟩
theorem WStop.own {base : Nat} {ok : Nat → Prop} {w : World} {g k : Nat} {x : List Int} {s0 : DS} {B : Nat} (hB : w.heap.size ≤ B) (c : Code) : OwnFrom B (WStop base ok w g k x s0 c) := by
  unfold WStop
  refine OwnFrom.and (Own.from (fun s A B row hs hg hr => ?_) _) (ownFrom_off hB)
  obtain ⟨p, j, h1, h2, h3, h4, h5, h6⟩ := hs
  exact ⟨p, j, h1, h2, h3, h4, boxed_own _ _ (fun (_ : Unit) => .bool false) () A B row h5 hg hr, h6.noncells hg hr⟩
set_option maxRecDepth 100000 in
set_option maxHeartbeats 4000000 in
theorem write_yes (g : Nat) (base : Nat) (ok okx : Nat → Prop) (s : DS) (k : Nat) (Ax : Option Addr) (cx : Nat) (x : List Int) (w : World)
    (h : IsD base ok w g s.b s.l s.cut false) (hok : ∀ k, ok k → k < w.heap.size) (hbs : base ≤ w.heap.size) (hF : Kd.F (Kd.int .u8) w okx Ax 1024 x) (hcx : 1024 ≤ cx) (hap : ∀ k, okx k → ¬ ok k)
    (hx : x.length = 1024) (hn : s.b.length < 1000000000) (hl : s.l.length < 1000000000) (hcut : s.cut ≤ 9223372036854775807) (hcut0 : -1 ≤ s.cut) (hk : k < s.b.length / 1024) :
    Calls Try.prog 21 #[.pointer (some ⟨g, 0, none⟩), .int .i64 (k : Int), .slice Ax 1024 cx] w fun e w' => e = .returned (.bool (runW k x [0, 1] { s with dead := false }).2) ∧
      IsD base (fun k => ok k ∨ w.heap.size ≤ k) w' g (runW k x [0, 1] { s with dead := false }).1.b (runW k x [0, 1] { s with dead := false }).1.l (runW k x [0, 1] { s with dead := false }).1.cut (runW k x [0, 1] { s with dead := false }).1.dead ∧ Off ok w w' := by
  obtain ⟨s0, hs0⟩ : ∃ s0 : DS, { s with dead := false } = s0 := ⟨_, rfl⟩
  have hs1 : s0.b = s.b ∧ s0.l = s.l ∧ s0.cut = s.cut ∧ s0.dead = false := by rw [← hs0]; exact ⟨rfl, rfl, rfl, rfl⟩
  rw [hs0]
  obtain ⟨e1, e2, e3, e4⟩ := hs1
  rw [← e1] at h hn hk
  rw [← e2] at h hl
  rw [← e3] at h hcut hcut0
  clear hs0 e1 e2 e3 s
  obtain ⟨vb, vl0, hI, hbok, hR, hS⟩ := h
  obtain ⟨A0, c0, rfl⟩ := Kd.R_slice hR
  have HD : Hid (IsDv base ok w g (.slice A0 s0.b.length c0) vl0 s0.b s0.l s0.cut false) := Lib.hid ⟨hI, hbok, hR, hS⟩
  have HOK := Lib.hid hok
  have HF := Lib.hid (Kd.F_bound hF)
  have HAP := Lib.hid hap
  have HE4 := Lib.hid e4
  have HT : Hid ((!false && decide (0 ≤ (k : Int) ∧ (k : Int) < ((s0.b.length / 1024 : Nat) : Int))) = true) := Lib.hid (by simp; omega)
  have hkk : k * 1024 + 1024 ≤ s0.b.length := by omega
  have HKK := Lib.hid hk
  clear hI hbok hR hS hok hF hap e4 hk
  refine (callsIn_wide (n := 9)).1 ?_
  refine callsIn_of_wp_marks Try.func21 rfl trivial ?_ rfl
  simp only [Try.ntmps21, List.size_toArray, List.length_cons, List.length_nil, Nat.reduceAdd, Nat.reduceSub, Array.replicate_succ, Array.replicate_zero, List.push_toArray, List.append_toArray, List.nil_append, List.cons_append]
  gi_wp2_with (refine ⟨trivial, ?_⟩; first | (gi_at_call 33; refine (callsIn_wide.2 (there_calls g A0 s0.b.length c0 vl0 s0.cut k false _ ((HD.out.1.below (below_alloc (Below.refl _ _) _)).below (below_alloc (Below.refl _ _) _)) (by omega))).mono ?_; rintro e w' ⟨rfl, hd⟩; obtain ⟨nd, rfl⟩ := hd; rw [HT.out]) | (gi_at_call 34; refine (callsIn_wide.2 (sectors_in (k : Int) Ax 1024 cx _)).mono ?_; rintro e w' ⟨rfl, rfl⟩))
  obtain ⟨w2, hw2⟩ : ∃ w2, ((w.alloc (.cells #[.pointer (some ⟨g, 0, none⟩)] 26)).alloc (.cells #[.bool false] 4)).drewN nd = w2 := ⟨_, rfl⟩
  have hz2 : w2.heap.size = w.heap.size + 2 := by rw [← hw2]; simp
  have hB2 : Below w.heap.size w w2 := by rw [← hw2]; exact pw_below_drewN (((Below.refl _ w).alloc (Nat.le_refl _) _).alloc (by simp) _) nd
  have p3 : Boxed w2 w.heap.size 26 (.pointer (some ⟨g, 0, none⟩)) := by rw [← hw2]; exact (Boxed.new w 26 _).alloc _
  have p4 : Boxed w2 (w.heap.size + 1) 4 (.bool false) := by
    rw [← hw2]
    have := Boxed.new (w.alloc (.cells #[.pointer (some ⟨g, 0, none⟩)] 26)) 4 (.bool false)
    rwa [World.size_alloc] at this
  obtain ⟨w5, hw5⟩ : ∃ w5, (w2.alloc (.cells #[.int .i64 (k : Int)] 3)).alloc (.cells #[.slice Ax 1024 cx] 28) = w5 := ⟨_, rfl⟩
  have hsz : w5.heap.size = w.heap.size + 4 := by rw [← hw5]; simp [hz2]
  have hB5 : Below w.heap.size w w5 := by rw [← hw5]; exact (hB2.alloc (by omega) _).alloc (by simp; omega) _
  have q3 : Boxed w5 w.heap.size 26 (.pointer (some ⟨g, 0, none⟩)) := by rw [← hw5]; exact (p3.alloc _).alloc _
  have q4 : Boxed w5 (w.heap.size + 1) 4 (.bool false) := by rw [← hw5]; exact (p4.alloc _).alloc _
  have q1 : Boxed w5 (w.heap.size + 1 + 1) 3 (.int .i64 (k : Int)) := by
    rw [← hw5, ← hz2]
    exact (Boxed.new w2 3 _).alloc _
  have q2 : Boxed w5 (w.heap.size + 1 + 1 + 1) 28 (.slice Ax 1024 cx) := by
    rw [← hw5, show w.heap.size + 1 + 1 + 1 = (w2.alloc (.cells #[.int .i64 (k : Int)] 3)).heap.size by simp [hz2]]
    exact Boxed.new _ 28 _
  have D5 : IsD base (fun k => ok k ∨ w.heap.size + 4 ≤ k) w5 g s0.b s0.l s0.cut false := ((HD.out.below hB5).toks (fun _ h => .inl h)).is
  rw [hw2, hw5]
  clear hw5 hw2 p3 p4 hB2
  have hG : SecG (w.heap.size + 1 + 1) (w.heap.size + 1 + 1 + 1) (k : Int) Ax cx
      (fun W => Boxed W (w.heap.size + 1 + 1) 3 (.int .i64 (k : Int)) ∧ Boxed W (w.heap.size + 1 + 1 + 1) 28 (.slice Ax 1024 cx))
      (fun A B => ∀ b, w.heap.size + 2 ≤ b → b < w.heap.size + 4 → B.heap[b]? = A.heap[b]?) :=
    ⟨fun W h => h.1.cell, fun W h => h.2.cell, fun W k h => h, fun A B h k => ⟨(k _ (by omega) (by omega)).trans h.1, (k _ (by omega) (by omega)).trans h.2⟩⟩
  refine wpIn_rangeFunc_ownG (F := Fence.wide) rfl (by omega) (gf := 40) (lb := #[.pointer (some ⟨w.heap.size + 1 + 1, 0, none⟩), .pointer (some ⟨w.heap.size + 1 + 1 + 1, 0, none⟩)]) rfl trivial (enters_of Try.func40 (by kernel_rfl) rfl)
    (encs := encSec (k : Int) Ax cx) (S := fun ys => ys.map Fin.val = List.range' 0 2) (Sp := fun pre => pre.map Fin.val = List.range' 0 pre.length) (N := 2) (w0 := w5)
    (fun l J Jx W hW hJ _ hY h0 => sec1_in 8 (by omega) l _ _ cx (k : Int) Ax (by omega) (by omega) hcx _ _ hG J Jx hY W
      ⟨(hW.block _ (by omega)).trans q1, (hW.block _ (by omega)).trans q2⟩ hJ h0)
    (fun h k => fun b h1 h2 => (k b h1 h2).trans (h b h1 h2))
    (fun W l o o' hl h1 h2 h3 => fun b hb1 hb2 => World.putObj_heap_other (by omega)) (Below.refl _ _) (fun _ => rfl)
    (WInv base ok w g k x s0) (WStop base ok w g k x s0) (WInv.own (by omega)) (WStop.own (by omega)) ⟨⟨q3, _, q4⟩, ⟨D5, trivial⟩, Off.of_below hB5 ok, by omega⟩
    (fun y => { tmps := #[.pointer (some ⟨g, 0, none⟩), .int .i64 (k : Int), .slice Ax 1024 cx, .pointer (some ⟨w.heap.size, 0, none⟩), undef, undef, .pointer (some ⟨w.heap.size + 1, 0, none⟩), .int .i64 ((k : Int) * 2 + (y.val : Int)), .slice (secA Ax cx y.val) 512 (cx - y.val * 512), .pointer (some ⟨g, 0, none⟩), .int .i64 (k : Int), .bool true, .bool false, .bool false, .slice Ax 1024 cx, .int .i64 1024, .bool false, .bool false, .int .i64 (k : Int), .slice Ax 1024 cx, .func (.func 40) #[] #[.pointer (some ⟨w.heap.size + 1 + 1, 0, none⟩), .pointer (some ⟨w.heap.size + 1 + 1 + 1, 0, none⟩)], .int .i64 ((k : Int) * 2 + (y.val : Int)), .slice (secA Ax cx y.val) 512 (cx - y.val * 512), undef, undef, undef, undef, undef, undef, undef, undef, undef, undef, undef, undef, undef, undef, undef, undef, undef, undef, undef, undef, undef, undef, undef, undef, undef, undef, undef, undef, undef, undef, undef, undef, undef, undef, undef, undef, undef, undef, undef, undef, undef, undef], defers := [] }) ?assign ?body ?done ?stop
  case assign =>
    intro l y W K hK
    gi_wp2
    exact hK
  case body =>
    rintro l pre ⟨j, hj⟩ W ⟨⟨hb3, rv, hb4⟩, ⟨hD, hgo⟩, hoff, hsz6⟩ hlen
    obtain ⟨Z, hZ⟩ : ∃ Z, foldW k x (pre.map Fin.val) s0 = Z := ⟨_, rfl⟩
    rw [hZ] at hD
    have hfl := foldW_length k x hx (pre.map Fin.val) s0 (fun i hi => by
      obtain ⟨q, _, rfl⟩ := List.mem_map.1 hi
      exact q.isLt) HKK.out
    have hfc := foldW_cut k x (pre.map Fin.val) s0
    rw [hZ] at hfl hfc
    rw [List.length_map] at hfl
    obtain ⟨hZb, hZl, hZd⟩ := hfl
    have hlen2 : Z.l.length < 1000000002 := by omega
    have HZB := Lib.hid hZb
    have HLL := Lib.hid hlen2
    have HZD := Lib.hid (hZd.trans HE4.out)
    have HGO := Lib.hid hgo
    have HZ := Lib.hid hZ
    have HOFF := Lib.hid hoff
    have HB3 := Lib.hid hb3
    have HB4 := Lib.hid hb4
    obtain ⟨vb', vl, hDv⟩ := hD
    have hDv : IsDv base (fun k => ok k ∨ w.heap.size + 4 ≤ k) W g vb' vl Z.b Z.l Z.cut false := hDv
    obtain ⟨A, c, rfl⟩ := Kd.R_slice hDv.2.2.1
    have HDW := Lib.hid hDv
    have HSZ := Lib.hid hsz6
    have HSZW := Lib.hid hsz6
    have hgW : g < W.heap.size := hDv.1.lt
    have hgn : ∀ b, w.heap.size ≤ b → b < w.heap.size + 4 → b ≠ g := fun b h1 h2 e => by
      have := hDv.2.1.2
      rcases this with h | h
      · have := HOK.out g h; omega
      · omega
    have HGN := Lib.hid hgn
    have hcut : Z.cut ≤ 9223372036854775807 := by omega
    have k3 := hb3.cell
    have k4 := hb4.cell
    have k4f := hb4.frozen
    have c3 := hDv.1.c3
    have c2 := hDv.1.c2
    have f2 := blk_frozen hDv.1 2
    have f3 := blk_frozen hDv.1 3
    clear hZb hZl hZd hlen2 hgo hZ hoff hb3 hb4 hDv hsz6 hgn hfc
    dsimp only
    by_cases hc0 : Z.cut = 0
    · have t1 : (Z.cut == 0) = true := by simp [hc0]
      have HC0 := Lib.hid hc0
      clear hc0
      gi_wp2
      all_goals
        refine ⟨((KeepsOthers.setCell _ _ _).trans (KeepsOthers.setCell _ _ _)).from _, ⟨pre, ⟨j, hj⟩, rfl, rfl, ?_, ?_, ?_, ?_⟩, ?_⟩
        · rw [HZ.out]; exact HC0.out
        · exact HGO.out
        · exact Boxed.set _ (HB4.out.kept (grownBy_setCell'' W g 3 _) (fun e => HGN.out (w.heap.size + 1) (by omega) (by omega) (by cases e; rfl)))
        · rw [HZ.out]
          have hd := (HDW.out.set3 true).is
          rw [HC0.out] at hd
          exact hd.move (fun i hi => Below.heap_setCell _ _ _ _ (fun e => by
            rcases hi with hi | hi
            · have := HOK.out i hi
              have e : i = w.heap.size + 1 := e
              omega
            · have e : i = w.heap.size + 1 := e
              omega))
        · exact (HOFF.out.setCell (okOrNew HDW.out.2.1.2) _).setCell (.inr (by simp)) _
    · have t1 : (Z.cut == 0) = false := by simp [hc0]
      have HN0 := Lib.hid hc0
      obtain ⟨f, hf⟩ : ∃ f : Nat, (k * 2 + j) * 512 = f := ⟨_, rfl⟩
      have hfb : f + 512 ≤ Z.b.length := by have := HZB.out; omega
      have hcap : Z.b.length ≤ c := (Kd.R_reads' HDW.out.2.2.1).2.1
      have hsl := slice_from A Z.b.length c f (by omega) hcap
      rw [← hf] at hsl
      rw [show (((k * 2 + j) * 512 : Nat) : Int) = ((k : Int) * 2 + (j : Int)) * 512 by omega, hf] at hsl
      have HSL := Lib.hid hsl
      have u1 : wrap64 (((k : Int) * 2 + (j : Int)) * 512) = ((k : Int) * 2 + (j : Int)) * 512 := by unfold wrap64; have := HKK.out; omega
      have hCx : ∀ V, Off ok w V → Kd.C (Kd.int .u8) V (secA Ax cx j) 512 (secOf x j) := fun V hV => by
        have h1 := Kd.F_now (Off.F HF.out hV (fun k_ hk_ => HAP.out k_ hk_.1))
        have h2 := sec_reads Ax cx j hj hcx x hx V (by rw [hx]; exact h1)
        exact h2
      have HCX := Lib.hid hCx
      have HCL : Hid (∀ V, Kd.C (Kd.int .u8) V (secA Ax cx j) 512 (secOf x j) → Calls Try.prog 31 #[.slice (secA Ax cx j) 512 (cx - j * 512)] V fun e w' => ∃ v0_ : Value, e = .returned (v0_) ∧ Kd.R (Kd.int .u8) 5 w' V.heap.size (fun _ => True) v0_ (secOf x j) ∧ Below V.heap.size V w') := Lib.hid fun V hV => by
        have hl5 := secOf_length x j hx hj
        have h1 := clone_calls (secA Ax cx j) (cx - j * 512) (secOf x j) V (by rw [hl5]; exact hV) (by omega) (by omega)
        rw [hl5] at h1
        exact h1
      have hrest : ∀ W1 c1, IsDv base (fun k => ok k ∨ w.heap.size + 4 ≤ k) W1 g (.slice A Z.b.length c) vl Z.b Z.l c1 false → Off (fun k => ok k ∨ w.heap.size + 4 ≤ k) W W1 → KeepsOthers W W1 →
          ∃ W2, (Builtin.copy_ #[28, 28] 3 #[.slice (A.map (fun x => x.add f)) (Z.b.length - f) (c - f), .slice (secA Ax cx j) 512 (cx - j * 512)]).run Try.prog W1 = .ok (.int .i64 512) W2 ∧
            IsDv base (fun k => ok k ∨ w.heap.size + 4 ≤ k) W2 g (.slice A Z.b.length c) vl (Go.splice Z.b f (secOf x j)) Z.l c1 false ∧ Off (fun k => ok k ∨ w.heap.size + 4 ≤ k) W W2 ∧ KeepsOthers W W2 := fun W1 c1 hd ho hko => by
        have hO : Off ok w W1 := HOFF.out.then_ ho (fun k_ hk_ => hk_.imp id (fun h => by omega))
        obtain ⟨W2, h1, h2, h3⟩ := copy_from (P := Try.prog) (dT := 28) (sT := 28) (ty := 3) (elem := 5) Try.underlying28 (by kernel_rfl) hd.2.2.1 (HCX.out W1 hO) (by omega) hfb (cm := cx - j * 512)
        exact ⟨W2, h1, hd.image h3 h2, ho.grown h3 (fun k_ hk_ => .inl (hd.imgOk k_ hk_)), hko.trans (hd.keepsB h3)⟩
      have HREST := Lib.hid hrest
      have HFE := Lib.hid hf
      have hnk : ∀ b, w.heap.size ≤ b → b < w.heap.size + 4 → ¬ (ok b ∨ w.heap.size + 4 ≤ b) := fun b h1 h2 h => by
        rcases h with h | h
        · have := HOK.out b h; omega
        · omega
      have HNK := Lib.hid hnk
      have hne : some w.heap.size ≠ vl.ownBlock := fun e => hnk _ (Nat.le_refl _) (by omega) (HDW.out.logOk _ e.symm)
      have HNE := Lib.hid hne
      have c0 := HDW.out.1.c0
      clear hCx hrest hf hnk hne c3 f3 k4 k4f
      by_cases hp : 0 < Z.cut
      · have t2 : decide (Z.cut > 0) = true := decide_eq_true hp
        obtain ⟨W2, hcp, hD2, hO2, hK2⟩ := HREST.out (W.setCell ⟨g, 2, none⟩ (.int .i64 (Z.cut - 1))) (Z.cut - 1) (HDW.out.set2 _) (Off.set1 _ _ HDW.out.2.1.2 _) (KeepsOthers.setCell _ _ _)
        have hc1 : (Z.cut - 1) = (if 0 < Z.cut then Z.cut - 1 else Z.cut) := by rw [if_pos hp]
        have HC1 := Lib.hid hc1
        clear hc1
        have HD2 := Lib.hid hD2
        have HO2 := Lib.hid hO2
        have HK2 := Lib.hid hK2
        clear hD2 hO2 hK2 hc0
        gi_wp2
        have hOV : Off ok w W2.drew := (HOFF.out.then_ HO2.out (fun k_ hk_ => hk_.imp id (fun h => by omega))).drew
        have hCV := HCX.out W2.drew hOV
        have HCV := Lib.hid hCV
        have HOV := Lib.hid hOV
        have hszV : w.heap.size + 4 ≤ W2.drew.heap.size := by
          have h1 := HO2.out.size
          have h2 := HSZ.out
          have h3 : W2.drew.heap.size = W2.heap.size := rfl
          omega
        have HDV := Lib.hid (HD2.out.below (below_drew (Below.refl _ _)))
        have hS0 : W2.drew.cell? ⟨w.heap.size, 0, none⟩ = some (.pointer (some ⟨g, 0, none⟩)) ∧ W2.drew.cell? ⟨g, 1, none⟩ = some vl := ⟨(HO2.out.drew.cell HB3.out.cell (fun h => HNK.out _ (Nat.le_refl _) (by omega) h)), HDV.out.1.c1⟩
        clear HSZ hOV hCV hcp
        have HSZ := Lib.hid hszV
        clear hszV
        refine region_in_round (by kernel_rfl) (by kernel_rfl) (fun ⟨_, _, hx⟩ => hx) (wpAny_of_last (S := fun w' => w'.cell? ⟨w.heap.size, 0, none⟩ = some (.pointer (some ⟨g, 0, none⟩)) ∧ w'.cell? ⟨g, 1, none⟩ = some vl) (ds := [13]) 14 #[false, false, false, false, false, false, false, false, false, false, false, false, false, false] _ _ ?_)
        have hHeld := hS0
        have hHeld0 := Lib.hid hS0
        clear hS0
        have HO2V := Lib.hid HO2.out.drew
        have HK2V := Lib.hid (HK2.out.trans (KeepsOthers.drew W2))
        generalize W2.drew = V at HCV HOV HSZ HDV hHeld hHeld0 HO2V HK2V ⊢
        refine take_ (i := 0) (N := some 52) (v := ?_) (a' := ?_) #[true, false, false, false, false, false, false, false, false, false, false, false, false, false] rfl rfl (by kernel_rfl) (fun _ _ _ h => h) (Or.inl ⟨by rfl, ?_⟩) hHeld ?_ ?_
        rotate_left
        · rintro w' ⟨s0, s1⟩
          go_simp
          with_reducible rfl
        rotate_left
        · simp only [Act.put, List.setIfInBounds_toArray, List.set_cons_zero, List.set_cons_succ, i64_w, i32_w]
          rfl
        refine take_ (i := 1) (N := some 53) (v := ?_) (a' := ?_) #[true, true, false, false, false, false, false, false, false, false, false, false, false, false] rfl rfl (by kernel_rfl) (fun _ _ _ h => h) (Or.inl ⟨by rfl, ?_⟩) hHeld ?_ ?_
        rotate_left
        · rintro w' ⟨s0, s1⟩
          go_simp
          with_reducible rfl
        rotate_left
        · simp only [Act.put, List.setIfInBounds_toArray, List.set_cons_zero, List.set_cons_succ, i64_w, i32_w]
          rfl
        refine pure_ (i := 2) (N := some 54) (v := ?_) (a' := ?_) #[true, true, true, false, false, false, false, false, false, false, false, false, false, false] rfl rfl (by kernel_rfl) (fun _ _ _ h => h) (Or.inl ⟨by rfl, ?_⟩) ?_ ?_
        rotate_left
        · intro w'
          go_simp
          with_reducible rfl
        rotate_left
        · simp only [Act.put, List.setIfInBounds_toArray, List.set_cons_zero, List.set_cons_succ, i64_w, i32_w]
          rfl
        refine pure_ (i := 3) (N := some 55) (v := ?_) (a' := ?_) #[true, true, true, true, false, false, false, false, false, false, false, false, false, false] rfl rfl (by kernel_rfl) (fun _ _ _ h => h) (Or.inl ⟨by rfl, ?_⟩) ?_ ?_
        rotate_left
        · intro w'
          go_simp
          with_reducible rfl
        rotate_left
        · simp only [Act.put, List.setIfInBounds_toArray, List.set_cons_zero, List.set_cons_succ, i64_w, i32_w]
          rfl
        refine take_ (i := 4) (N := some 56) (v := ?_) (a' := ?_) #[true, true, true, true, true, false, false, false, false, false, false, false, false, false] rfl rfl (by kernel_rfl) (fun _ _ _ h => h) (Or.inl ⟨by rfl, ?_⟩) hHeld ?_ ?_
        rotate_left
        · rintro w' ⟨s0, s1⟩
          go_simp
          with_reducible rfl
        rotate_left
        · simp only [Act.put, List.setIfInBounds_toArray, List.set_cons_zero, List.set_cons_succ, i64_w, i32_w]
          rfl
        refine pure_ (i := 5) (N := some 57) (v := ?_) (a' := ?_) #[true, true, true, true, true, true, false, false, false, false, false, false, false, false] rfl rfl (by kernel_rfl) (fun _ _ _ h => h) (Or.inl ⟨by rfl, ?_⟩) ?_ ?_
        rotate_left
        · intro w'
          go_simp
          with_reducible rfl
        rotate_left
        · simp only [Act.put, List.setIfInBounds_toArray, List.set_cons_zero, List.set_cons_succ, i64_w, i32_w]
          rfl
        refine pure_ (i := 6) (N := some 58) (v := ?_) (a' := ?_) #[true, true, true, true, true, true, true, false, false, false, false, false, false, false] rfl rfl (by kernel_rfl) (fun _ _ _ h => h) (Or.inl ⟨by rfl, ?_⟩) ?_ ?_
        rotate_left
        · intro w'
          go_simp
          with_reducible rfl
        rotate_left
        · simp only [Act.put, List.setIfInBounds_toArray, List.set_cons_zero, List.set_cons_succ, i64_w, i32_w]
          rfl
        refine one_ (i := 7) (N := some 59) #[true, true, true, true, true, true, true, true, false, false, false, false, false, false] rfl rfl (by kernel_rfl) (by decide) (fun K hK => ?_)
        refine goes_ Try.func31 (by kernel_rfl) rfl #[.slice (secA Ax cx j) 512 (cx - j * 512)] (by rfl) rfl rfl (by (try simp only [List.map_toArray, List.map_cons, List.map_nil]); first | done | rfl) ?_
        refine (HCL.out V HCV.out).mono ?_
        rintro e V1 ⟨v9, rfl, hR9, hb9⟩
        obtain ⟨A9, c9, hv9⟩ := Kd.R_slice hR9
        subst hv9
        have hPU := HDV.out.pushes (n := (((k * 2 + j : Nat) : Int))) (fun k_ hk => .inr (by have := HSZ.out; omega)) (by have := HSZ.out; omega) hb9 hR9
        have HPU := Lib.hid hPU
        have HB9 := Lib.hid hb9
        have hS1 := And.intro ((hb9.cell (World.block_lt_of_cell? _ _ hHeld0.out.1)).trans hHeld0.out.1) ((hb9.cell (World.block_lt_of_cell? _ _ hHeld0.out.2)).trans hHeld0.out.2)
        clear hPU hR9 hb9
        refine ⟨_, rfl, hK.out _ _ hS1 (fun hHeld => ?_)⟩
        clear hK K
        refine norm_ (a' := ?_) ?_ ?_
        rotate_left
        · show Act.put _ (some 59) _ = _
          simp only [Act.put, List.setIfInBounds_toArray, List.set_cons_zero, List.set_cons_succ, i64_w, i32_w]
          rfl
        refine pure_ (i := 8) (N := some 60) (v := ?_) (a' := ?_) #[true, true, true, true, true, true, true, true, true, false, false, false, false, false] rfl rfl (by kernel_rfl) (fun _ _ _ h => h) (Or.inl ⟨by rfl, ?_⟩) ?_ ?_
        rotate_left
        · intro w'
          go_simp
          with_reducible rfl
        rotate_left
        · simp only [Act.put, List.setIfInBounds_toArray, List.set_cons_zero, List.set_cons_succ, i64_w, i32_w]
          rfl
        refine one_ (i := 9) (N := some 61) #[true, true, true, true, true, true, true, true, true, true, false, false, false, false] rfl rfl (by kernel_rfl) (by decide) (fun K hK => ?_)
        refine value_ (w1 := ?_) (v := ?_) (by rfl) rfl ?_ ?_
        rotate_left 2
        · go_simp
          constructor
          · rfl
          · rfl
        refine hK.out _ _ ⟨(World.cell?_alloc_lt _ _ _ (World.block_lt_of_cell? _ _ hS1.1)).trans hS1.1, (World.cell?_alloc_lt _ _ _ (World.block_lt_of_cell? _ _ hS1.2)).trans hS1.2⟩ (fun hHeld => ?_)
        clear hK K
        refine norm_ (a' := ?_) ?_ ?_
        rotate_left
        · show Act.put _ (some 61) _ = _
          simp only [Act.put, List.setIfInBounds_toArray, List.set_cons_zero, List.set_cons_succ, i64_w, i32_w]
          rfl
        refine one_ (i := 10) (N := some 62) #[true, true, true, true, true, true, true, true, true, true, true, false, false, false] rfl rfl (by kernel_rfl) (by decide) (fun K hK => ?_)
        refine Kd.S_append_step k31 (w0 := V1) base (by rfl) (.tmp 56) (.tmp 61) 52 73 (.agg #[.int .i64 0, .slice none 0 0]) 32 (by rfl) Try.underlying52 info31 rfl (by decide) (by omega) vl Z.l (⟨((k * 2 + j : Nat) : Int), secOf x j⟩ : S31) [.int .i64 (((k * 2 + j : Nat) : Int)), .slice A9 (secOf x j).length c9] (okS (fun k => ok k ∨ w.heap.size + 4 ≤ k) (.slice A Z.b.length c)) (okP V V1) (by rfl) (by rfl) HPU.out.1 HPU.out.2.1 HPU.out.2.2.1 HPU.out.2.2.2 (Below.refl _ _) (by have := HSZ.out; have := HB9.out.size; omega) (by have := HLL.out; omega) ?_
        intro v10 w10 ho10 hb10 hg10 hat10
        obtain ⟨A10, c10, hv10⟩ := Kd.S_slice ho10
        subst hv10
        have hEnd := HDV.out.pushed (fun k_ hk => .inr (by have := HSZ.out; omega)) HB9.out ho10 hg10
        have HEND := Lib.hid hEnd
        have hS2 := And.intro (cell_grown (a := ⟨w.heap.size, 0, none⟩) hg10 hS1.1 HNE.out) (cell_grown (a := ⟨g, 1, none⟩) hg10 hS1.2 (Kd.S_ne (HDV.out.below HB9.out).2.2.2 (HDV.out.below HB9.out).1 (by decide)))
        have hfz := blk_frozen ((HDV.out.below HB9.out).1.grown hg10 (Kd.S_ne (HDV.out.below HB9.out).2.2.2 (HDV.out.below HB9.out).1 (by decide))) 1
        clear hEnd ho10 hb10 hg10 hat10
        refine hK.out _ _ hS2 (fun hHeld => ?_)
        clear hK K
        refine norm_ (a' := ?_) ?_ ?_
        rotate_left
        · show Act.put _ (some 62) _ = _
          simp only [Act.put, List.setIfInBounds_toArray, List.set_cons_zero, List.set_cons_succ, i64_w, i32_w]
          rfl
        refine pure_ (i := 11) (N := some 63) (v := ?_) (a' := ?_) #[true, true, true, true, true, true, true, true, true, true, true, true, false, false] rfl rfl (by kernel_rfl) (fun _ _ _ h => h) (Or.inl ⟨by rfl, ?_⟩) ?_ ?_
        rotate_left
        · intro w'
          go_simp
          with_reducible rfl
        rotate_left
        · simp only [Act.put, List.setIfInBounds_toArray, List.set_cons_zero, List.set_cons_succ, i64_w, i32_w]
          rfl
        refine pure_ (i := 12) (N := some 64) (v := ?_) (a' := ?_) #[true, true, true, true, true, true, true, true, true, true, true, true, true, false] rfl rfl (by kernel_rfl) (fun _ _ _ h => h) (Or.inl ⟨by rfl, ?_⟩) ?_ ?_
        rotate_left
        · intro w'
          go_simp
          with_reducible rfl
        rotate_left
        · simp only [Act.put, List.setIfInBounds_toArray, List.set_cons_zero, List.set_cons_succ, i64_w, i32_w]
          rfl
        refine last_ (i := 13) (N := none) #[true, true, true, true, true, true, true, true, true, true, true, true, true, true] rfl rfl (by kernel_rfl) (by decide) (fun K hK => ?_)
        refine skip_ (w1 := ?_) (by rfl) rfl ?_ ?_
        rotate_left
        · go_simp
          rfl
        refine hK.out _ _ ?_
        clear hK K
        refine done_ (by kernel_rfl) ?_
        obtain ⟨hd3, ho3, hk3⟩ := HEND.out
        simp only [List.length_append, List.length_cons, List.length_nil, Nat.zero_add] at hd3 ho3 hk3
        have hoW : Off (fun k => ok k ∨ w.heap.size + 4 ≤ k) W _ := HO2V.out.trans ho3
        have hst : foldW k x ((pre ++ [(⟨j, hj⟩ : Fin 2)]).map Fin.val) s0 = stepW k x Z j := by
          rw [List.map_append, List.map_cons, List.map_nil, foldW_snoc, HZ.out]
        have hww : Off ok w _ := HOFF.out.then_ hoW (fun k_ hk_ => hk_.imp id (fun h => by omega))
        refine ⟨((HK2V.out.trans hk3).from _), fun b' h1 h2 => hoW.block b' (by have := HSZ.out; have := HOFF.out.size; have := HSZW.out; omega) (HNK.out b' (by omega) h2), ⟨?_, ?_⟩, ⟨?_, ?_⟩, ?_, ?_⟩
        · exact hoW.blk HB3.out (HNK.out _ (Nat.le_refl _) (by omega))
        · exact ⟨rv, hoW.blk HB4.out (HNK.out _ (by omega) (by omega))⟩
        · rw [hst]
          have := hd3.is
          rw [← HFE.out, HC1.out] at this
          exact this
        · rw [List.map_append, List.map_cons, List.map_nil]
          exact GoesW_snoc k x _ s0 j HGO.out (by rw [HZ.out]; exact HN0.out)
        · exact hww
        · have h1 := hoW.size
          have h2 := HSZW.out
          omega
      · have t2 : decide (Z.cut > 0) = false := decide_eq_false hp
        obtain ⟨W2, hcp, hD2, hO2, hK2⟩ := HREST.out W Z.cut HDW.out (Off.refl _ _) (KeepsOthers.refl _)
        have hc1 : Z.cut = (if 0 < Z.cut then Z.cut - 1 else Z.cut) := by rw [if_neg hp]
        have HC1 := Lib.hid hc1
        clear hc1
        have HD2 := Lib.hid hD2
        have HO2 := Lib.hid hO2
        have HK2 := Lib.hid hK2
        clear hD2 hO2 hK2 hc0
        gi_wp2
        have hOV : Off ok w W2.drew := (HOFF.out.then_ HO2.out (fun k_ hk_ => hk_.imp id (fun h => by omega))).drew
        have hCV := HCX.out W2.drew hOV
        have HCV := Lib.hid hCV
        have HOV := Lib.hid hOV
        have hszV : w.heap.size + 4 ≤ W2.drew.heap.size := by
          have h1 := HO2.out.size
          have h2 := HSZ.out
          have h3 : W2.drew.heap.size = W2.heap.size := rfl
          omega
        have HDV := Lib.hid (HD2.out.below (below_drew (Below.refl _ _)))
        have hS0 : W2.drew.cell? ⟨w.heap.size, 0, none⟩ = some (.pointer (some ⟨g, 0, none⟩)) ∧ W2.drew.cell? ⟨g, 1, none⟩ = some vl := ⟨(HO2.out.drew.cell HB3.out.cell (fun h => HNK.out _ (Nat.le_refl _) (by omega) h)), HDV.out.1.c1⟩
        clear HSZ hOV hCV hcp
        have HSZ := Lib.hid hszV
        clear hszV
        refine region_in_round (by kernel_rfl) (by kernel_rfl) (fun ⟨_, _, hx⟩ => hx) (wpAny_of_last (S := fun w' => w'.cell? ⟨w.heap.size, 0, none⟩ = some (.pointer (some ⟨g, 0, none⟩)) ∧ w'.cell? ⟨g, 1, none⟩ = some vl) (ds := [13]) 14 #[false, false, false, false, false, false, false, false, false, false, false, false, false, false] _ _ ?_)
        have hHeld := hS0
        have hHeld0 := Lib.hid hS0
        clear hS0
        have HO2V := Lib.hid HO2.out.drew
        have HK2V := Lib.hid (HK2.out.trans (KeepsOthers.drew W2))
        generalize W2.drew = V at HCV HOV HSZ HDV hHeld hHeld0 HO2V HK2V ⊢
        refine take_ (i := 0) (N := some 52) (v := ?_) (a' := ?_) #[true, false, false, false, false, false, false, false, false, false, false, false, false, false] rfl rfl (by kernel_rfl) (fun _ _ _ h => h) (Or.inl ⟨by rfl, ?_⟩) hHeld ?_ ?_
        rotate_left
        · rintro w' ⟨s0, s1⟩
          go_simp
          with_reducible rfl
        rotate_left
        · simp only [Act.put, List.setIfInBounds_toArray, List.set_cons_zero, List.set_cons_succ, i64_w, i32_w]
          rfl
        refine take_ (i := 1) (N := some 53) (v := ?_) (a' := ?_) #[true, true, false, false, false, false, false, false, false, false, false, false, false, false] rfl rfl (by kernel_rfl) (fun _ _ _ h => h) (Or.inl ⟨by rfl, ?_⟩) hHeld ?_ ?_
        rotate_left
        · rintro w' ⟨s0, s1⟩
          go_simp
          with_reducible rfl
        rotate_left
        · simp only [Act.put, List.setIfInBounds_toArray, List.set_cons_zero, List.set_cons_succ, i64_w, i32_w]
          rfl
        refine pure_ (i := 2) (N := some 54) (v := ?_) (a' := ?_) #[true, true, true, false, false, false, false, false, false, false, false, false, false, false] rfl rfl (by kernel_rfl) (fun _ _ _ h => h) (Or.inl ⟨by rfl, ?_⟩) ?_ ?_
        rotate_left
        · intro w'
          go_simp
          with_reducible rfl
        rotate_left
        · simp only [Act.put, List.setIfInBounds_toArray, List.set_cons_zero, List.set_cons_succ, i64_w, i32_w]
          rfl
        refine pure_ (i := 3) (N := some 55) (v := ?_) (a' := ?_) #[true, true, true, true, false, false, false, false, false, false, false, false, false, false] rfl rfl (by kernel_rfl) (fun _ _ _ h => h) (Or.inl ⟨by rfl, ?_⟩) ?_ ?_
        rotate_left
        · intro w'
          go_simp
          with_reducible rfl
        rotate_left
        · simp only [Act.put, List.setIfInBounds_toArray, List.set_cons_zero, List.set_cons_succ, i64_w, i32_w]
          rfl
        refine take_ (i := 4) (N := some 56) (v := ?_) (a' := ?_) #[true, true, true, true, true, false, false, false, false, false, false, false, false, false] rfl rfl (by kernel_rfl) (fun _ _ _ h => h) (Or.inl ⟨by rfl, ?_⟩) hHeld ?_ ?_
        rotate_left
        · rintro w' ⟨s0, s1⟩
          go_simp
          with_reducible rfl
        rotate_left
        · simp only [Act.put, List.setIfInBounds_toArray, List.set_cons_zero, List.set_cons_succ, i64_w, i32_w]
          rfl
        refine pure_ (i := 5) (N := some 57) (v := ?_) (a' := ?_) #[true, true, true, true, true, true, false, false, false, false, false, false, false, false] rfl rfl (by kernel_rfl) (fun _ _ _ h => h) (Or.inl ⟨by rfl, ?_⟩) ?_ ?_
        rotate_left
        · intro w'
          go_simp
          with_reducible rfl
        rotate_left
        · simp only [Act.put, List.setIfInBounds_toArray, List.set_cons_zero, List.set_cons_succ, i64_w, i32_w]
          rfl
        refine pure_ (i := 6) (N := some 58) (v := ?_) (a' := ?_) #[true, true, true, true, true, true, true, false, false, false, false, false, false, false] rfl rfl (by kernel_rfl) (fun _ _ _ h => h) (Or.inl ⟨by rfl, ?_⟩) ?_ ?_
        rotate_left
        · intro w'
          go_simp
          with_reducible rfl
        rotate_left
        · simp only [Act.put, List.setIfInBounds_toArray, List.set_cons_zero, List.set_cons_succ, i64_w, i32_w]
          rfl
        refine one_ (i := 7) (N := some 59) #[true, true, true, true, true, true, true, true, false, false, false, false, false, false] rfl rfl (by kernel_rfl) (by decide) (fun K hK => ?_)
        refine goes_ Try.func31 (by kernel_rfl) rfl #[.slice (secA Ax cx j) 512 (cx - j * 512)] (by rfl) rfl rfl (by (try simp only [List.map_toArray, List.map_cons, List.map_nil]); first | done | rfl) ?_
        refine (HCL.out V HCV.out).mono ?_
        rintro e V1 ⟨v9, rfl, hR9, hb9⟩
        obtain ⟨A9, c9, hv9⟩ := Kd.R_slice hR9
        subst hv9
        have hPU := HDV.out.pushes (n := (((k * 2 + j : Nat) : Int))) (fun k_ hk => .inr (by have := HSZ.out; omega)) (by have := HSZ.out; omega) hb9 hR9
        have HPU := Lib.hid hPU
        have HB9 := Lib.hid hb9
        have hS1 := And.intro ((hb9.cell (World.block_lt_of_cell? _ _ hHeld0.out.1)).trans hHeld0.out.1) ((hb9.cell (World.block_lt_of_cell? _ _ hHeld0.out.2)).trans hHeld0.out.2)
        clear hPU hR9 hb9
        refine ⟨_, rfl, hK.out _ _ hS1 (fun hHeld => ?_)⟩
        clear hK K
        refine norm_ (a' := ?_) ?_ ?_
        rotate_left
        · show Act.put _ (some 59) _ = _
          simp only [Act.put, List.setIfInBounds_toArray, List.set_cons_zero, List.set_cons_succ, i64_w, i32_w]
          rfl
        refine pure_ (i := 8) (N := some 60) (v := ?_) (a' := ?_) #[true, true, true, true, true, true, true, true, true, false, false, false, false, false] rfl rfl (by kernel_rfl) (fun _ _ _ h => h) (Or.inl ⟨by rfl, ?_⟩) ?_ ?_
        rotate_left
        · intro w'
          go_simp
          with_reducible rfl
        rotate_left
        · simp only [Act.put, List.setIfInBounds_toArray, List.set_cons_zero, List.set_cons_succ, i64_w, i32_w]
          rfl
        refine one_ (i := 9) (N := some 61) #[true, true, true, true, true, true, true, true, true, true, false, false, false, false] rfl rfl (by kernel_rfl) (by decide) (fun K hK => ?_)
        refine value_ (w1 := ?_) (v := ?_) (by rfl) rfl ?_ ?_
        rotate_left 2
        · go_simp
          constructor
          · rfl
          · rfl
        refine hK.out _ _ ⟨(World.cell?_alloc_lt _ _ _ (World.block_lt_of_cell? _ _ hS1.1)).trans hS1.1, (World.cell?_alloc_lt _ _ _ (World.block_lt_of_cell? _ _ hS1.2)).trans hS1.2⟩ (fun hHeld => ?_)
        clear hK K
        refine norm_ (a' := ?_) ?_ ?_
        rotate_left
        · show Act.put _ (some 61) _ = _
          simp only [Act.put, List.setIfInBounds_toArray, List.set_cons_zero, List.set_cons_succ, i64_w, i32_w]
          rfl
        refine one_ (i := 10) (N := some 62) #[true, true, true, true, true, true, true, true, true, true, true, false, false, false] rfl rfl (by kernel_rfl) (by decide) (fun K hK => ?_)
        refine Kd.S_append_step k31 (w0 := V1) base (by rfl) (.tmp 56) (.tmp 61) 52 73 (.agg #[.int .i64 0, .slice none 0 0]) 32 (by rfl) Try.underlying52 info31 rfl (by decide) (by omega) vl Z.l (⟨((k * 2 + j : Nat) : Int), secOf x j⟩ : S31) [.int .i64 (((k * 2 + j : Nat) : Int)), .slice A9 (secOf x j).length c9] (okS (fun k => ok k ∨ w.heap.size + 4 ≤ k) (.slice A Z.b.length c)) (okP V V1) (by rfl) (by rfl) HPU.out.1 HPU.out.2.1 HPU.out.2.2.1 HPU.out.2.2.2 (Below.refl _ _) (by have := HSZ.out; have := HB9.out.size; omega) (by have := HLL.out; omega) ?_
        intro v10 w10 ho10 hb10 hg10 hat10
        obtain ⟨A10, c10, hv10⟩ := Kd.S_slice ho10
        subst hv10
        have hEnd := HDV.out.pushed (fun k_ hk => .inr (by have := HSZ.out; omega)) HB9.out ho10 hg10
        have HEND := Lib.hid hEnd
        have hS2 := And.intro (cell_grown (a := ⟨w.heap.size, 0, none⟩) hg10 hS1.1 HNE.out) (cell_grown (a := ⟨g, 1, none⟩) hg10 hS1.2 (Kd.S_ne (HDV.out.below HB9.out).2.2.2 (HDV.out.below HB9.out).1 (by decide)))
        have hfz := blk_frozen ((HDV.out.below HB9.out).1.grown hg10 (Kd.S_ne (HDV.out.below HB9.out).2.2.2 (HDV.out.below HB9.out).1 (by decide))) 1
        clear hEnd ho10 hb10 hg10 hat10
        refine hK.out _ _ hS2 (fun hHeld => ?_)
        clear hK K
        refine norm_ (a' := ?_) ?_ ?_
        rotate_left
        · show Act.put _ (some 62) _ = _
          simp only [Act.put, List.setIfInBounds_toArray, List.set_cons_zero, List.set_cons_succ, i64_w, i32_w]
          rfl
        refine pure_ (i := 11) (N := some 63) (v := ?_) (a' := ?_) #[true, true, true, true, true, true, true, true, true, true, true, true, false, false] rfl rfl (by kernel_rfl) (fun _ _ _ h => h) (Or.inl ⟨by rfl, ?_⟩) ?_ ?_
        rotate_left
        · intro w'
          go_simp
          with_reducible rfl
        rotate_left
        · simp only [Act.put, List.setIfInBounds_toArray, List.set_cons_zero, List.set_cons_succ, i64_w, i32_w]
          rfl
        refine pure_ (i := 12) (N := some 64) (v := ?_) (a' := ?_) #[true, true, true, true, true, true, true, true, true, true, true, true, true, false] rfl rfl (by kernel_rfl) (fun _ _ _ h => h) (Or.inl ⟨by rfl, ?_⟩) ?_ ?_
        rotate_left
        · intro w'
          go_simp
          with_reducible rfl
        rotate_left
        · simp only [Act.put, List.setIfInBounds_toArray, List.set_cons_zero, List.set_cons_succ, i64_w, i32_w]
          rfl
        refine last_ (i := 13) (N := none) #[true, true, true, true, true, true, true, true, true, true, true, true, true, true] rfl rfl (by kernel_rfl) (by decide) (fun K hK => ?_)
        refine skip_ (w1 := ?_) (by rfl) rfl ?_ ?_
        rotate_left
        · go_simp
          rfl
        refine hK.out _ _ ?_
        clear hK K
        refine done_ (by kernel_rfl) ?_
        obtain ⟨hd3, ho3, hk3⟩ := HEND.out
        simp only [List.length_append, List.length_cons, List.length_nil, Nat.zero_add] at hd3 ho3 hk3
        have hoW : Off (fun k => ok k ∨ w.heap.size + 4 ≤ k) W _ := HO2V.out.trans ho3
        have hst : foldW k x ((pre ++ [(⟨j, hj⟩ : Fin 2)]).map Fin.val) s0 = stepW k x Z j := by
          rw [List.map_append, List.map_cons, List.map_nil, foldW_snoc, HZ.out]
        have hww : Off ok w _ := HOFF.out.then_ hoW (fun k_ hk_ => hk_.imp id (fun h => by omega))
        refine ⟨((HK2V.out.trans hk3).from _), fun b' h1 h2 => hoW.block b' (by have := HSZ.out; have := HOFF.out.size; have := HSZW.out; omega) (HNK.out b' (by omega) h2), ⟨?_, ?_⟩, ⟨?_, ?_⟩, ?_, ?_⟩
        · exact hoW.blk HB3.out (HNK.out _ (Nat.le_refl _) (by omega))
        · exact ⟨rv, hoW.blk HB4.out (HNK.out _ (by omega) (by omega))⟩
        · rw [hst]
          have := hd3.is
          rw [← HFE.out, HC1.out] at this
          exact this
        · rw [List.map_append, List.map_cons, List.map_nil]
          exact GoesW_snoc k x _ s0 j HGO.out (by rw [HZ.out]; exact HN0.out)
        · exact hww
        · have h1 := hoW.size
          have h2 := HSZW.out
          omega
  case done =>
    rintro D ys W hD hys ⟨⟨hb3, rv, hb4⟩, ⟨hDi, hgo⟩, hoff, hsz6⟩ hK
    rw [hys, show List.range' 0 2 = [0, 1] from rfl] at hDi hgo
    have hrun := runW_done k x [0, 1] s0 hgo
    have hfd := foldW_length k x hx [0, 1] s0 (by simp) HKK.out
    have hfd2 := hfd.2.2.trans HE4.out
    obtain ⟨Z, hZ⟩ : ∃ Z, foldW k x [0, 1] s0 = Z := ⟨_, rfl⟩
    rw [hZ] at hDi hrun hfd2
    have HRUN := Lib.hid hrun
    have HFD := Lib.hid hfd2
    have HFIN := Lib.hid (fun v : Bool => left_ (W := W.setCell ⟨w.heap.size + 1, 0, none⟩ (.bool v)) (D := D) (by omega) ((KeepsOthers.setCell W ⟨w.heap.size + 1, 0, none⟩ (.bool v)).same D _ hK rfl) (hDi.move (W1 := W.setCell ⟨w.heap.size + 1, 0, none⟩ (.bool v)) (fun i hi => Below.heap_setCell _ _ _ _ (fun e => by
      have e : i = w.heap.size + 1 := e
      rcases hi with hi | hi
      · have := HOK.out i hi; omega
      · omega))) (hoff.setCell (p := ⟨w.heap.size + 1, 0, none⟩) (.inr (by simp)) (.bool v)))
    have HB4 := Lib.hid hb4
    have HKD := Lib.hid hK
    have k4 := hb4.cell
    have k4f := hb4.frozen
    clear hrun hDi hoff hb3 hb4 hgo hys hfd hK hZ hfd2
    gi_wp2
    refine write_resM rfl rfl (Boxed.set (.bool true) HB4.out) ((KeepsOthers.setCell W ⟨w.heap.size + 1, 0, none⟩ (.bool true)).same D _ HKD.out rfl) ?_
    rw [HRUN.out]
    dsimp only
    rw [HFD.out]
    exact ⟨rfl, (HFIN.out true).1, (HFIN.out true).2⟩
  case stop =>
    rintro D c pre W hD hpre ⟨⟨p, j, rfl, rfl, h1, h2, h3, h4⟩, hoff⟩ hK
    have HS2 := Lib.hid (stopped_at k x s0 p j hpre h1 h2)
    have HFIN := Lib.hid (left_ (by omega) hK h4 hoff)
    have HKD := Lib.hid hK
    have HB4 := Lib.hid h3
    have H1 := Lib.hid h1
    clear hK h3 h4 hoff h1 h2 hpre
    gi_wp2
    refine write_resM rfl rfl HB4.out HKD.out ?_
    rw [HS2.out]
    dsimp only
    rw [H1.out]
    exact ⟨rfl, HFIN.out.1, HFIN.out.2⟩
end Go.Proofs.Ythcafgjcgikgpaa.Given
