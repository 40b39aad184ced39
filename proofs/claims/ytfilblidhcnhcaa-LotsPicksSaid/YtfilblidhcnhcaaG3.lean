/- (*Lot).Call of package lots: a write, whose bytes are drawn; all kinds together. -/
import Derived.Test.YtfilblidhcnhcaaG2
namespace Go.Proofs.Ytfilblidhcnhcaa.Given
open Go.RowKit Go.Shelf Go.Proofs.YtfilblidhcnhcaaW.PrintWords Go.Proofs.YtfilblidhcnhcaaW.PrintLast Go.Proofs.YtfilblidhcnhcaaBase Go.Proofs.Ytfilblidhcnhcaa.PLotsFns
set_option linter.unusedVariables false
set_option linter.unusedSimpArgs false
attribute [local go_sem] Oper.semAt_some

theorem Two.far {w W : World} {k : Int} {p t : ByteArray} {o n : Int} {v : Value} (h : Two w W k p t o n v) {q : Addr} (h1 : q.block ≠ w.heap.size) (h2 : q.block ≠ w.heap.size + 1) (u : Value) : Two w (W.setCell q u) k p t o n v :=
  ⟨blk_far h.r (by omega) _, blk_far h.c (by omega) _⟩
theorem Two.alloc {w W : World} {k : Int} {p t : ByteArray} {o n : Int} {v : Value} (h : Two w W k p t o n v) (x : Obj) : Two w (W.alloc x) k p t o n v := ⟨blk_alloc h.r x, blk_alloc h.c x⟩
theorem Two.setO {w W : World} {k : Int} {p t : ByteArray} {o n : Int} {v : Value} (h : Two w W k p t o n v) (q : Int) : Two w (W.setCell ⟨w.heap.size + 1, 3, none⟩ (.int .i64 q)) k p t q n v :=
  ⟨blk_far h.r (by simp) _, by simpa using blk_set h.c 3 (.int .i64 q)⟩
theorem Two.setV {w W : World} {k : Int} {p t : ByteArray} {o n : Int} {v : Value} (h : Two w W k p t o n v) (q : Value) : Two w (W.setCell ⟨w.heap.size + 1, 5, none⟩ q) k p t o n q :=
  ⟨blk_far h.r (by simp) _, by simpa using blk_set h.c 5 q⟩
theorem Two.grown {w W V : World} {k : Int} {p t : ByteArray} {o n : Int} {v : Value} {row : Option Nat} (h : Two w W k p t o n v) (hg : W.grownBy V row) (hr : ∀ b, row = some b → w.heap.size + 1 < b) : Two w V k p t o n v :=
  ⟨blk_grown h.r hg (fun e => by have := hr _ e.symm; omega), blk_grown h.c hg (fun e => by have := hr _ e.symm; omega)⟩
theorem two_own {β : Type} {w : World} {k : Int} {p t : ByteArray} {o n : Int} {v : Value} : Own (fun (_ : β) W => Two w W k p t o n v) := fun s X Y row hs hg hr =>
  ⟨blk_grown hs.r hg (fun e => by obtain ⟨o', ho, hc⟩ := hr _ e.symm; rw [hs.r] at ho; cases ho; cases hc), blk_grown hs.c hg (fun e => by obtain ⟨o', ho, hc⟩ := hr _ e.symm; rw [hs.c] at ho; cases ho; cases hc)⟩
theorem boxed_far {W : World} {B : Nat} {t : TypeId} {v : Value} (h : Boxed W B t v) {q : Addr} (hq : B ≠ q.block) (u : Value) : Boxed (W.setCell q u) B t v := blk_far h hq u

set_option maxRecDepth 100000 in
set_option maxHeartbeats 4000000 in
theorem call_8 (g : Nat) (s : Int) (w0 w : World) (hI : IsS44 w0 w g s) (hB : Below w0.heap.size w0 w) (hd : drw s 13 = 7) :
    Calls Try.prog 15 #[.pointer (some ⟨g, 0, none⟩)] w (CallPost g w0 w 8 (pathR (stp s)).1 emp (drw (pathR (stp s)).2 4 * 700) 0 (drawL (stp (stp (pathR (stp s)).2)) 256 (drw (stp (pathR (stp s)).2) 1500).toNat) (stpN (stp (stp (pathR (stp s)).2)) (drw (stp (pathR (stp s)).2) 1500).toNat)) := by
  have HI := Lib.hid hI
  have HB := Lib.hid hB
  have HL : Hid (Lotted w g s) := Lib.hid hI.1
  have hlt : g < w.heap.size := blk_lt hI.1
  have HD := Lib.hid hd
  have h0 := HB.out.size
  have hge := HI.out.ge
  obtain ⟨x, hx⟩ : ∃ y, drw ((pathR (stp s)).2) 4 = y := ⟨_, rfl⟩
  have hrx := drw_range ((pathR (stp s)).2) 4 (by omega)
  rw [hx] at hrx
  obtain ⟨x0, x1⟩ := hrx
  have HX := Lib.hid hx
  rw [hx]
  clear hx
  obtain ⟨K, hK⟩ : ∃ K : Nat, drw (stp (pathR (stp s)).2) 1500 = (K : Int) := ⟨(drw (stp (pathR (stp s)).2) 1500).toNat, by have := drw_range (stp (pathR (stp s)).2) 1500 (by omega); omega⟩
  have hK1 : K < 1500 := by have := drw_range (stp (pathR (stp s)).2) 1500 (by omega); omega
  have hK0 : (0 : Int) ≤ K := by omega
  have hK2 : (K : Int) < 1500 := by omega
  have HK := Lib.hid hK
  rw [hK, Int.toNat_natCast]
  obtain ⟨s5, hs5⟩ : ∃ y, stp (stp (pathR (stp s)).2) = y := ⟨_, rfl⟩
  have HS5 := Lib.hid hs5
  rw [hs5]
  clear hI hB hd hK hs5
  refine (callsIn_wide (n := 9)).1 ?_
  refine callsIn_of_wp_marks Try.func15 rfl trivial ?_ rfl
  simp only [Try.ntmps15, List.size_toArray, List.length_cons, List.length_nil, Nat.reduceAdd, Nat.reduceSub, Array.replicate_succ, Array.replicate_zero, List.push_toArray, List.append_toArray, List.nil_append, List.cons_append]
  gi_wp2_with (refine ⟨trivial, ?_⟩; first | (gi_at_call 10; (with_reducible refine (callsIn_wide.2 (next_any g s 13 _ (HL.out.alloc _))).mono ?_); rintro e w' ⟨rfl, rfl⟩; rw [HD.out]) | (gi_at_call 20; (with_reducible refine (callsIn_wide.2 (lots_Lot_path.calls g (stp s) (pathR (stp s)).1 (pathR (stp s)).2 w0 _ (((HI.out.set_0 _).alloc _).alloc _) (((HB.out.setCell (p := ⟨g, 0, none⟩) HI.out.ge _).alloc (by simp; omega) _).alloc (by simp; omega) _) (path_f _))).mono ?_); rintro e w1 ⟨rfl, hi, hb, hk⟩; have HI1 := Lib.hid hi; have HB1 := Lib.hid hb; have HK1 := Lib.hid (((keep_alloc (keep_alloc ((KeepBut.refl w g none).set_ 0 _) _) _)).trans hk (.inl rfl)); clear hi hb; have HT := two_path (k := 8) hlt hk; clear hk; have k0 := (blk_cell HT.c 0).trans rfl; have k1 := (blk_cell HT.c 1).trans rfl; have k3 := (blk_cell HT.c 3).trans rfl; have kf := fun i => blk_frozen HT.c i; have lw := blk_lt HT.c) | (gi_at_call 10; (with_reducible refine (callsIn_wide.2 (next_any g ((pathR (stp s)).2) 4 _ (Lotted.far (lot_of HI1.out) (by simp only; omega) _))).mono ?_); rintro e w' ⟨rfl, rfl⟩; rw [HX.out]) | (gi_at_call 10; (with_reducible refine (callsIn_wide.2 (next_any g (stp (pathR (stp s)).2) 1500 _ (by repeat (first | (with_reducible exact lot_of HI1.out) | refine Lotted.far ?_ (by simp only; omega) _ | refine SomeS.lot (w0 := w0) ?_ _ | (with_reducible exact SomeS.of HI1.out) | refine SomeS.far ?_ (by simp only; omega) _ | refine SomeS.set ?_ _)))).mono ?_); rintro e w' ⟨rfl, rfl⟩; rw [HK.out, HS5.out]) | (gi_at_call 21; (with_reducible refine (callsIn_wide.2 (draws_in g K 256 _)).mono ?_); rintro e w' ⟨rfl, rfl⟩))
  obtain ⟨w5, hw5⟩ : ∃ w5, (((((((w1.setCell ⟨w.heap.size + 1, 1, none⟩ (.string (pathR (stp s)).1)).setCell ⟨g, 0, none⟩ (.int .i64 (stp (pathR (stp s)).2))).setCell ⟨w.heap.size + 1, 3, none⟩ (.int .i64 (x * 700))).setCell ⟨g, 0, none⟩ (.int .i64 s5)).alloc (.cells #[.pointer (some ⟨g, 0, none⟩)] 24)).alloc (.cells #[.int .i64 K] 3)).alloc (.cells #[.int .i64 256] 3)) = w5 := ⟨_, rfl⟩
  obtain ⟨w4, hw4⟩ : ∃ w4, (((w1.setCell ⟨w.heap.size + 1, 1, none⟩ (.string (pathR (stp s)).1)).setCell ⟨g, 0, none⟩ (.int .i64 (stp (pathR (stp s)).2))).setCell ⟨w.heap.size + 1, 3, none⟩ (.int .i64 (x * 700))).setCell ⟨g, 0, none⟩ (.int .i64 s5) = w4 := ⟨_, rfl⟩
  have hz4 : w4.heap.size = w1.heap.size := by rw [← hw4]; simp
  have hT4 : Two w w4 8 (pathR (stp s)).1 ⟨#[]⟩ (x * 700) 0 (.slice none 0 0) := by
    rw [← hw4]
    exact (((HT.setP _).far (by simp only; omega) (by simp only; omega) _).setO _).far (by simp only; omega) (by simp only; omega) _
  have hI4 : IsS44 w0 w4 g s5 := by
    rw [← hw4]
    exact SomeS.is ((((SomeS.of HI1.out).far (by simp only; omega) _).set _).far (by simp only; omega) _) _
  have hB4 : Below w0.heap.size w0 w4 := by
    rw [← hw4]
    exact (((HB1.out.setCell (by simp only; omega) _).setCell (by simp only; omega) _).setCell (by simp only; omega) _).setCell (by simp only; omega) _
  have hK4 : KeepBut w w4 g none := by
    rw [← hw4]
    exact (((HK1.out.setNew (by simp only; omega) _).set_ 0 _).setNew (by simp only; omega) _).set_ 0 _
  rw [hw4] at hw5
  have hsz : w5.heap.size = w1.heap.size + 3 := by rw [← hw5]; simp [hz4]
  have hT5 : Two w w5 8 (pathR (stp s)).1 ⟨#[]⟩ (x * 700) 0 (.slice none 0 0) := by rw [← hw5]; exact ((hT4.alloc _).alloc _).alloc _
  have hI5 : IsS44 w0 w5 g s5 := by rw [← hw5]; exact ((hI4.alloc _).alloc _).alloc _
  have hB5 : Below w0.heap.size w0 w5 := by rw [← hw5]; exact ((hB4.alloc (by omega) _).alloc (by simp; omega) _).alloc (by simp; omega) _
  have hK5 : KeepBut w w5 g none := by rw [← hw5]; exact keep_alloc (keep_alloc (keep_alloc hK4 _) _) _
  have q1 : Boxed w5 w1.heap.size 24 (.pointer (some ⟨g, 0, none⟩)) := by
    rw [← hw5, ← hz4]
    exact ((Boxed.new w4 24 (.pointer (some ⟨g, 0, none⟩))).alloc _).alloc _
  have q2 : Boxed w5 (w1.heap.size + 1) 3 (.int .i64 K) := by
    rw [← hw5, ← hz4]
    have := Boxed.new (w4.alloc (.cells #[.pointer (some ⟨g, 0, none⟩)] 24)) 3 (.int .i64 K)
    rw [World.size_alloc] at this
    exact this.alloc _
  have q3 : Boxed w5 (w1.heap.size + 2) 3 (.int .i64 256) := by
    rw [← hw5, ← hz4]
    have := Boxed.new ((w4.alloc (.cells #[.pointer (some ⟨g, 0, none⟩)] 24)).alloc (.cells #[.int .i64 K] 3)) 3 (.int .i64 256)
    rwa [World.size_alloc, World.size_alloc] at this
  rw [hw4, hw5]
  clear hw5 hw4 hT4 hI4 hB4 hK4 HT k0 k1 k3 kf hz4 w4
  have hgn : g ≠ w.heap.size + 1 := by omega
  have hG : DrawsG (w1.heap.size + 1) w1.heap.size (w1.heap.size + 2) g K 256
      (fun W => Boxed W w1.heap.size 24 (.pointer (some ⟨g, 0, none⟩)) ∧ Boxed W (w1.heap.size + 1) 3 (.int .i64 K) ∧ Boxed W (w1.heap.size + 2) 3 (.int .i64 256))
      (fun A B => (∀ b, w1.heap.size ≤ b → b < w1.heap.size + 3 → B.heap[b]? = A.heap[b]?) ∧ B.heap[g]? = A.heap[g]?) :=
    ⟨fun W h => h.2.1.cell, fun W h => h.1.cell, fun W h => h.2.2.cell, fun W v h => ⟨h.1.other (by omega) _, h.2.1.other (by omega) _, h.2.2.other (by omega) _⟩,
      fun A B h k => ⟨(k.1 _ (by omega) (by omega)).trans h.1, (k.1 _ (by omega) (by omega)).trans h.2.1, (k.1 _ (by omega) (by omega)).trans h.2.2⟩, fun A B k => k.2⟩
  refine wpIn_rangeFunc_W (F := Fence.wide) rfl (by omega) (gf := 23) (lb := #[.pointer (some ⟨w1.heap.size + 1, 0, none⟩), .pointer (some ⟨w1.heap.size, 0, none⟩), .pointer (some ⟨w1.heap.size + 2, 0, none⟩)]) rfl trivial (enters_of Try.func23 (by kernel_rfl) rfl)
    (encs := encD 256) (Wr := WrLot g) (S := fun ys W => ys.map Subtype.val = drawL s5 256 K ∧ Lotted W g (stpN s5 K)) (Sp := fun _ _ => True) (N := K) (w0 := w5)
    (fun l J Jx W hW hJ _ hJw hY h0 => draws1_in 8 (by omega) l _ _ _ g K 256 s5 (by omega) (by omega) _ _ hG J Jx hJw hY W
      ⟨(hW.block _ (by omega)).trans q1, (hW.block _ (by omega)).trans q2, (hW.block _ (by omega)).trans q3⟩ (Lotted.below (lot_of hI5) hW) h0)
    (fun h k => ⟨fun b h1 h2 => (k.1 b h1 h2).trans (h.1 b h1 h2), k.2.trans h.2⟩)
    (fun W l o o' hl h1 h2 h3 => ⟨fun b hb1 hb2 => World.putObj_heap_other (by omega), World.putObj_heap_other (by omega)⟩)
    (fun A B h => by obtain ⟨s, rfl⟩ := h; exact KeepsOthers.setCell _ _ _) (Below.refl _ _) (fun _ => rfl)
    (fun pre W => ((∃ v, Two w W 8 (pathR (stp s)).1 ⟨#[]⟩ (x * 700) 0 v ∧ Kd.R (Kd.int .u8) 5 W w.heap.size (fun k => w1.heap.size + 3 ≤ k) v (pre.map Subtype.val)) ∧ pre.length ≤ K) ∧ KeepBut w W g none ∧ Below w0.heap.size w0 W ∧ w5.heap.size ≤ W.heap.size)
    (fun c pre W => False)
    (OwnFrom.and (Own.from (fun s A B row hs hg hr => by
        obtain ⟨⟨v, h1, h2⟩, h3⟩ := hs
        exact ⟨⟨v, two_own () A B row h1 hg hr, R_noncells h2 hg hr⟩, h3⟩) _) (OwnFrom.and (ownFrom_keepBut (by omega)) (OwnFrom.and (ownFrom_below (Nat.le_refl _) (by have := HB.out.size; omega)) (fun s A B row hs hg hr => Nat.le_trans hs hg.size))))
    (fun s A B hs hw => by
      obtain ⟨t, rfl⟩ := hw
      obtain ⟨⟨⟨v, h1, h2⟩, h3⟩, h4, h5, h6⟩ := hs
      exact ⟨⟨⟨v, h1.far (by simp only; omega) (by simp only; omega) _, Kd.R_far h2 (fun k hk => by simp only; omega) _⟩, h3⟩, h4.set_ 0 _, h5.setCell (p := ⟨g, 0, none⟩) hge _, by rw [World.size_setCell]; exact h6⟩)
    (fun c s A B row hs hg hr => hs)
    (OwnFrom.and (ownFrom_pure _ _) (Own.from (boxed_own g 44 (fun (_ : List (Drw 256)) => .int .i64 (stpN s5 K))) _))
    (fun s A B row hs hg hr => trivial)
    ⟨⟨⟨_, hT5, Kd.R_nil _ _ _ _ _⟩, Nat.zero_le _⟩, hK5, hB5, Nat.le_refl _⟩
    (fun y => { tmps := #[.pointer (some ⟨g, 0, none⟩), undef, .pointer (some ⟨w.heap.size, 0, none⟩), .pointer (some ⟨w.heap.size + 1, 0, none⟩), .int .i64 y.val, .pointer (some ⟨g, 0, none⟩), .int .i64 7, .int .i64 8, .agg #[.int .i64 8, .string ⟨#[]⟩, .string ⟨#[]⟩, .int .i64 0, .int .i64 0, .slice none 0 0], .pointer (some ⟨w.heap.size + 1, 0, none⟩), .int .i64 8, .bool true, .pointer (some ⟨g, 0, none⟩), .string (pathR (stp s)).1, .pointer (some ⟨w.heap.size + 1, 1, none⟩), .pointer (some ⟨w.heap.size + 1, 0, none⟩), .int .i64 8, .bool false, .bool false, .pointer (some ⟨w.heap.size + 1, 0, none⟩), .int .i64 8, .bool false, .bool false, undef, undef, undef, .pointer (some ⟨w.heap.size + 1, 0, none⟩), .int .i64 8, .bool false, .bool false, .pointer (some ⟨w.heap.size + 1, 0, none⟩), .int .i64 8, .bool true, .bool true, .pointer (some ⟨g, 0, none⟩), .int .i64 x, .int .i64 (x * 700), .pointer (some ⟨w.heap.size + 1, 3, none⟩), .pointer (some ⟨w.heap.size + 1, 0, none⟩), .int .i64 8, .bool false, .bool false, .pointer (some ⟨w.heap.size + 1, 0, none⟩), .int .i64 8, .bool false, .bool false, undef, undef, undef, .pointer (some ⟨w.heap.size + 1, 0, none⟩), .int .i64 8, .bool true, .pointer (some ⟨g, 0, none⟩), .pointer (some ⟨g, 0, none⟩), .int .i64 K, .func (.func 23) #[] #[.pointer (some ⟨w1.heap.size + 1, 0, none⟩), .pointer (some ⟨w1.heap.size, 0, none⟩), .pointer (some ⟨w1.heap.size + 2, 0, none⟩)], .int .i64 y.val, undef, undef, undef, undef, undef, undef, undef, undef], defers := [] }) ?assign ?body ?done ?stop
  case assign =>
    intro l x W K hK
    gi_wp2
    exact hK
  case body =>
    rintro l pre ⟨y, hy0, hy1⟩ W ⟨⟨⟨v, hT, hR⟩, hpl⟩, hkb, hbb, hsz6⟩ hlen
    obtain ⟨zs, hzs⟩ : ∃ zs, pre.map Subtype.val = zs := ⟨_, rfl⟩
    rw [hzs] at hR
    have hzl : zs.length < K := by rw [← hzs, List.length_map]; exact hlen
    have HZ := Lib.hid hzs
    have HR := Lib.hid hR
    have HKB := Lib.hid hkb
    have HBB := Lib.hid hbb
    have HT := Lib.hid hT
    have k5 := (blk_cell hT.c 5).trans rfl
    have kf := fun i => blk_frozen hT.c i
    have kl := blk_lt hT.c
    have hlw : w.heap.size ≤ W.heap.size := by omega
    clear hzs hR hT hkb hbb
    dsimp only
    gi_wp2_with (gi_at_builtin; go_loud (refine append_in rfl rfl (Kd.R_append (Kd.int .u8) (w0 := W) w.heap.size rfl (.tmp 58) (.tmp 61) 33 5 (.int .u8 0) 1 rfl Try.underlying33 info5 rfl (by decide) (by omega) v zs y [.int .u8 y] (fun k => w1.heap.size + 3 ≤ k) (fun _ => False) rfl rfl rfl (fun _ hk => hk.elim) (fun k hk => by omega) HR.out (Below.refl _ _) hlw (by omega) ?_); intro v1 w2 hR1 hb1 hg1 hat1; refine ⟨rfl, ?_⟩; have HT1 := Lib.hid (HT.out.grown hg1 (fun b hb => by have := HR.out.1 b hb; omega)); have k6 := (blk_cell HT1.out.c 5).trans rfl; have kf6 := fun i => blk_frozen HT1.out.c i; have kl6 := blk_lt HT1.out.c; obtain ⟨Ap, cp, rfl⟩ := Kd.R_slice hR1))
    have hrow : ∀ k, v.ownBlock = some k → w1.heap.size + 3 ≤ k := fun k hk => HR.out.1 k hk
    have hlen2 : (zs ++ [y]).length = zs.length + 1 := by simp
    rw [hlen2] at hR1
    have hkeep : ∀ b, b < w1.heap.size + 3 → b ≠ w.heap.size + 1 → (w2.setCell ⟨w.heap.size + 1, 5, none⟩ (.slice Ap (zs.length + 1) cp)).heap[b]? = W.heap[b]? := fun b h1 h2 =>
      (Below.heap_setCell w2 _ _ b (by simp only; omega)).trans (hg1.block b (by omega) (fun e => by have := hrow b e.symm; omega))
    refine ⟨((keeps_R HR.out hg1).trans (KeepsOthers.setCell _ _ _)).from _, ⟨fun b h1 h2 => hkeep b h2 (by omega), hkeep g (by omega) hgn⟩, ⟨⟨_, HT1.out.setV _, ?_⟩, ?_⟩, ?_, ?_, ?_⟩
    · rw [List.map_append, HZ.out]
      exact Kd.R_far hR1 (fun k hk => by simp only; omega) _
    · simp
      omega
    · exact (HKB.out.trans (KeepBut.of_grown hg1 g) (by cases hv : v.ownBlock with
        | none => exact .inl rfl
        | some b => exact .inr ⟨b, rfl, by have := hrow b hv; omega⟩)).setNew (by simp only; omega) _
    · exact (HBB.out.grown hg1 (by omega) (fun k hk => by have := hrow k hk; omega)).setCell (by simp only; omega) _
    · rw [World.size_setCell]
      exact Nat.le_trans hsz6 hg1.size
  case done =>
    rintro D ys W hD ⟨hys, hlt5⟩ ⟨⟨⟨v, hT, hR⟩, hpl⟩, hkb, hbb, hsz6⟩ hK
    rw [hys] at hR
    obtain ⟨Ap, cp, rfl⟩ := Kd.R_slice hR
    have HR := Lib.hid hR
    have HKB := Lib.hid hkb
    have HBB := Lib.hid hbb
    have HT := Lib.hid hT
    have HL5 := Lib.hid hlt5
    have HKD := Lib.hid hK
    have k0 := (blk_cell hT.c 0).trans rfl
    have k1 := (blk_cell hT.c 1).trans rfl
    have k2 := (blk_cell hT.c 2).trans rfl
    have k3 := (blk_cell hT.c 3).trans rfl
    have k4 := (blk_cell hT.c 4).trans rfl
    have k5 := (blk_cell hT.c 5).trans rfl
    have rf := fun i => blk_frozen hT.r i
    have r0 := (blk_cell hT.r 0).trans rfl
    have r1 := (blk_cell hT.r 1).trans rfl
    have r2 := (blk_cell hT.r 2).trans rfl
    have r3 := (blk_cell hT.r 3).trans rfl
    have r4 := (blk_cell hT.r 4).trans rfl
    have r5 := (blk_cell hT.r 5).trans rfl
    clear hys hR hkb hbb hT hlt5 hK
    obtain ⟨lq, hlq⟩ : ∃ n, (drawL s5 256 K).length = n := ⟨_, rfl⟩
    rw [hlq] at k5 HT HR
    gi_wp2
    obtain ⟨W6, hW6⟩ : ∃ W6, ((((((W.setCell ⟨w.heap.size, 0, none⟩ (.int .i64 8)).setCell ⟨w.heap.size, 1, none⟩ (.string (pathR (stp s)).1)).setCell ⟨w.heap.size, 2, none⟩ (.string ⟨#[]⟩)).setCell ⟨w.heap.size, 3, none⟩ (.int .i64 (x * 700))).setCell ⟨w.heap.size, 4, none⟩ (.int .i64 0)).setCell ⟨w.heap.size, 5, none⟩ (.slice Ap lq cp)) = W6 := ⟨_, rfl⟩
    have z0 : W6.heap[w.heap.size]? = some (.cells (C35 8 (pathR (stp s)).1 ⟨#[]⟩ (x * 700) 0 (.slice Ap lq cp)) 35 (0, 0)) := by
      rw [← hW6]
      have := blk_set (blk_set (blk_set (blk_set (blk_set (blk_set HT.out.r 0 (.int .i64 8)) 1 (.string (pathR (stp s)).1)) 2 (.string ⟨#[]⟩)) 3 (.int .i64 (x * 700))) 4 (.int .i64 0)) 5 (.slice Ap lq cp)
      simpa using this
    have zK : KeepsOthers W W6 := by
      rw [← hW6]
      exact (((((KeepsOthers.setCell W _ _).trans (KeepsOthers.setCell _ _ _)).trans (KeepsOthers.setCell _ _ _)).trans (KeepsOthers.setCell _ _ _)).trans (KeepsOthers.setCell _ _ _)).trans (KeepsOthers.setCell _ _ _)
    have zo : ∀ b, b ≠ w.heap.size → W6.heap[b]? = W.heap[b]? := fun b hb => by
      rw [← hW6]
      rw [Below.heap_setCell _ _ _ b hb, Below.heap_setCell _ _ _ b hb, Below.heap_setCell _ _ _ b hb, Below.heap_setCell _ _ _ b hb, Below.heap_setCell _ _ _ b hb, Below.heap_setCell _ _ _ b hb]
    have zB : Below w0.heap.size w0 W6 := by
      rw [← hW6]
      repeat (first | (with_reducible exact HBB.out) | refine Below.setCell ?_ (by simp only; omega) _)
    have zU : KeepBut w W6 g none := by
      rw [← hW6]
      repeat (first | (with_reducible exact HKB.out) | refine KeepBut.setNew ?_ (by simp only; omega) _)
    have zR : Kd.R (Kd.int .u8) 5 W6 w.heap.size (fun k => w1.heap.size + 3 ≤ k) (.slice Ap lq cp) (drawL s5 256 K) := by
      rw [← hW6]
      repeat (first | (with_reducible exact HR.out) | refine Kd.R_far ?_ (fun k hk => by simp only; omega) _)
    rw [hW6]
    clear hW6 k0 k1 k2 k3 k4 k5 rf r0 r1 r2 r3 r4 r5
    have hKD6 := zK.same D _ HKD.out rfl
    refine ⟨by simp, .inl ⟨_, _, rfl, run_takeDeferred hKD6, ?_⟩⟩
    have hgD : g ≠ D := by omega
    have hRD : w.heap.size ≠ D := by omega
    have y0 : (W6.putObj D (.deferred none)).heap[w.heap.size]? = _ := (World.putObj_heap_other hRD).trans z0
    have r0 := (blk_cell y0 0).trans rfl
    have r1 := (blk_cell y0 1).trans rfl
    have r2 := (blk_cell y0 2).trans rfl
    have r3 := (blk_cell y0 3).trans rfl
    have r4 := (blk_cell y0 4).trans rfl
    have r5 := (blk_cell y0 5).trans rfl
    refine ⟨.agg #[.int .i64 8, .string (pathR (stp s)).1, .string ⟨#[]⟩, .int .i64 (x * 700), .int .i64 0, .slice Ap lq cp], ?_, ⟨_, rfl, R_noncells (Kd.R_mono zR (fun _ _ => trivial)) (grownBy_putObj' _ D (.deferred none)) (fun r e => by cases e; exact ⟨_, hKD6, rfl⟩), ⟨(World.putObj_heap_other hgD).trans ((zo g (by omega)).trans HL5.out), hge⟩, zB.trans (belowK_b (w := w) HB.out.size W6 D _ _ (by omega) hKD6 rfl rfl), zU.trans (KeepBut.of_grown (grownBy_putObj' _ D (.deferred none)) g) (.inr ⟨D, rfl, by omega⟩)⟩⟩
    simp [results, Try.f15, go_sem, r0, r1, r2, r3, r4, r5]
  case stop =>
    rintro D c pre W hD hpre h hK
    exact h.elim
theorem lots_Lot_Call.calls (g : Nat) (s0_0 : Int) (r1 : Int) (r2 : ByteArray) (r3 : ByteArray) (r4 : Int) (r5 : Int) (r6 : List Int) (r7 : Int) (w0 w : World) (hI : IsS44 w0 w g s0_0) (hB : Below w0.heap.size w0 w) (h : lots_Lot_Call.f s0_0 = some (r1, r2, r3, r4, r5, r6, r7)) :
    Calls Try.prog 15 #[.pointer (some ⟨g, 0, none⟩)] w fun e w' => ∃ v5_ : Value, e = .returned (.agg #[.int .i64 r1, .string r2, .string r3, .int .i64 r4, .int .i64 r5, v5_]) ∧ Kd.R (Kd.int .u8) 5 w' w.heap.size (fun _ => True) v5_ r6 ∧ IsS44 w0 w' g r7 ∧ Below w0.heap.size w0 w' ∧ KeepBut w w' g none := by
  show Calls Try.prog 15 #[.pointer (some ⟨g, 0, none⟩)] w (CallPost g w0 w r1 r2 r3 r4 r5 r6 r7)
  unfold lots_Lot_Call.f at h
  by_cases c12 : drw s0_0 13 = 12
  · rw [if_pos c12] at h
    simp only [Option.some.injEq, Prod.mk.injEq] at h
    obtain ⟨rfl, rfl, rfl, rfl, rfl, rfl, rfl⟩ := h
    exact call_13 g s0_0 w0 w hI hB c12
  rw [if_neg c12] at h
  by_cases c25 : drw s0_0 13 = 2 ∨ drw s0_0 13 = 5
  · rw [if_pos c25] at h
    simp only [Option.some.injEq, Prod.mk.injEq] at h
    obtain ⟨rfl, rfl, rfl, rfl, rfl, rfl, rfl⟩ := h
    rcases c25 with c | c
    · have := call_3 g s0_0 w0 w hI hB c
      rw [c]
      exact this
    · have := call_6 g s0_0 w0 w hI hB c
      rw [c]
      exact this
  rw [if_neg c25] at h
  by_cases c6 : drw s0_0 13 = 6
  · rw [if_pos c6] at h
    simp only [Option.some.injEq, Prod.mk.injEq] at h
    obtain ⟨rfl, rfl, rfl, rfl, rfl, rfl, rfl⟩ := h
    exact call_7 g s0_0 w0 w hI hB c6
  rw [if_neg c6] at h
  by_cases c7 : drw s0_0 13 = 7
  · rw [if_pos c7] at h
    simp only [Option.some.injEq, Prod.mk.injEq] at h
    obtain ⟨rfl, rfl, rfl, rfl, rfl, rfl, rfl⟩ := h
    exact call_8 g s0_0 w0 w hI hB c7
  rw [if_neg c7] at h
  by_cases c8 : drw s0_0 13 = 8
  · rw [if_pos c8] at h
    simp only [Option.some.injEq, Prod.mk.injEq] at h
    obtain ⟨rfl, rfl, rfl, rfl, rfl, rfl, rfl⟩ := h
    exact call_9 g s0_0 w0 w hI hB c8
  rw [if_neg c8] at h
  simp only [Option.some.injEq, Prod.mk.injEq] at h
  obtain ⟨rfl, rfl, rfl, rfl, rfl, rfl, rfl⟩ := h
  exact call_other g s0_0 _ w0 w hI hB rfl c12 (fun e => c25 (.inl e)) (fun e => c25 (.inr e)) c6 c7 c8
end Go.Proofs.Ytfilblidhcnhcaa.Given
