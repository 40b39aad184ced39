-- written by the session's program wip/print/patch.py (a turned copy of the print) over contracts that the session proved by hand
import Derived.Test.YtfilblidhcnhcaaPLotsFnsx0
namespace Go.Proofs.Ytfilblidhcnhcaa.PLotsFns
open Go.RowKit Go.Proofs.YtfilblidhcnhcaaW.PrintWords Go.Proofs.YtfilblidhcnhcaaW.PrintLast Go.Proofs.YtfilblidhcnhcaaW.PrintMore
attribute [local go_sem] max2_int min2_int max_two min_two max_three min_three max_four min_four   -- for this text's walks alone
set_option linter.unusedVariables false
set_option linter.unusedSimpArgs false

/-- A state of type 44 at block g of W; what its slices lead to came in by w0. -/
def IsS44 (w0 W : World) (g : Nat) (f0 : Int) : Prop := W.heap[g]? = some (.cells #[.int .i64 f0] 44 (0, 0)) ∧ w0.heap.size ≤ g
theorem IsS44.grown {w0 W : World} {g : Nat} {f0 : Int} {W1 : World} {row : Option Nat} (h : IsS44 w0 W g f0) (hw : W.grownBy W1 row) (hne : some g ≠ row) : IsS44 w0 W1 g f0 := by
  obtain ⟨hb, hg⟩ := h
  exact ⟨blk_grown hb hw hne, hg⟩
theorem IsS44.own_neN {w0 W : World} {g : Nat} {f0 : Int} {α : Type} {d : Kd α} {e : Nat} {base : Nat} {ok : Nat → Prop} {v : Value} {xs : List α} (h : IsS44 w0 W g f0) (ho : Kd.N d e W base ok v xs) (ht : e ≠ 44) : some g ≠ v.ownBlock := by
  obtain ⟨hb, hg⟩ := h
  exact Kd.N_ne ho hb ht
theorem IsS44.fresh {w0 W : World} {g : Nat} {f0 : Int} (h : IsS44 w0 W g f0) : ∀ k, W.heap.size ≤ k → k ≠ g := by
  obtain ⟨hb, hg⟩ := h
  exact Kd.freshB hb
theorem IsS44.kept {w0 W : World} {g : Nat} {f0 : Int} {W1 : World} {S : Nat → Prop} (h : IsS44 w0 W g f0) (hk : Kept W W1 S) (hne : ¬ S g) : IsS44 w0 W1 g f0 := by
  obtain ⟨hb, hg⟩ := h
  exact ⟨blk_kept hb hk hne, hg⟩
theorem IsS44.below {w0 W : World} {g : Nat} {f0 : Int} {W1 : World} (h : IsS44 w0 W g f0) (hw : Below W.heap.size W W1) : IsS44 w0 W1 g f0 := h.grown (grown_of_below hw none) (by simp)
theorem IsS44.alloc {w0 W : World} {g : Nat} {f0 : Int} (h : IsS44 w0 W g f0) (o : Obj) : IsS44 w0 (W.alloc o) g f0 := h.below (below_alloc (Below.refl _ _) o)
theorem IsS44.drewN {w0 W : World} {g : Nat} {f0 : Int} (h : IsS44 w0 W g f0) (m : Nat) : IsS44 w0 (W.drewN m) g f0 := h
theorem IsS44.drew {w0 W : World} {g : Nat} {f0 : Int} (h : IsS44 w0 W g f0) : IsS44 w0 W.drew g f0 := h
theorem IsS44.at_ {w0 W : World} {g : Nat} {f0 : Int} {w' : World} {m : Nat} (hq : W.drewN m = w') (h : IsS44 w0 W g f0) : IsS44 w0 w' g f0 := by subst hq; exact IsS44.drewN h m
theorem IsS44.apart {w0 W : World} {g : Nat} {f0 : Int} {α : Type} {d : Kd α} {e : Nat} {base : Nat} {ok : Nat → Prop} {v : Value} {xs : List α} (h : IsS44 w0 W g f0) (ho : d.R e W base ok v xs) (ht : ∀ q, q ∈ e :: d.E → q ≠ 44) : d.R e W base (fun k => ok k ∧ k ≠ g) v xs := by
  obtain ⟨hb, hg⟩ := h
  exact Kd.R_types ho hb ht
theorem IsS44.own_ne {w0 W : World} {g : Nat} {f0 : Int} {α : Type} {d : Kd α} {e : Nat} {base : Nat} {ok : Nat → Prop} {v : Value} {xs : List α} (h : IsS44 w0 W g f0) (ho : d.R e W base ok v xs) (ht : e ≠ 44) : some g ≠ v.ownBlock := by
  obtain ⟨hb, hg⟩ := h
  exact Kd.R_ne ho hb ht
theorem IsS44.apartQ {w0 W : World} {g : Nat} {f0 : Int} {α : Type} {d : Kd α} {e : Nat} {base : Nat} {ok : Nat → Prop} {v : Value} {xs : List α} (h : IsS44 w0 W g f0) (ho : d.Q e W base ok v xs) (ht : ∀ q, q ∈ e :: d.E → q ≠ 44) : d.Q e W base (fun k => ok k ∧ k ≠ g) v xs := by
  obtain ⟨hb, hg⟩ := h
  exact Kd.Q_types ho hb ht
theorem IsS44.own_neQ {w0 W : World} {g : Nat} {f0 : Int} {α : Type} {d : Kd α} {e : Nat} {base : Nat} {ok : Nat → Prop} {v : Value} {xs : List α} (h : IsS44 w0 W g f0) (ho : d.Q e W base ok v xs) (ht : e ≠ 44) : some g ≠ v.ownBlock := by
  obtain ⟨hb, hg⟩ := h
  exact Kd.Q_ne ho hb ht
theorem IsS44.apartS {w0 W : World} {g : Nat} {f0 : Int} {α : Type} {d : Kd α} {e : Nat} {base : Nat} {ok : Nat → Prop} {v : Value} {xs : List α} (h : IsS44 w0 W g f0) (ho : d.S e W base ok v xs) (ht : ∀ q, q ∈ e :: d.E → q ≠ 44) : d.S e W base (fun k => ok k ∧ k ≠ g) v xs := by
  obtain ⟨hb, hg⟩ := h
  exact Kd.S_types ho hb ht
theorem IsS44.own_neS {w0 W : World} {g : Nat} {f0 : Int} {α : Type} {d : Kd α} {e : Nat} {base : Nat} {ok : Nat → Prop} {v : Value} {xs : List α} (h : IsS44 w0 W g f0) (ho : d.S e W base ok v xs) (ht : e ≠ 44) : some g ≠ v.ownBlock := by
  obtain ⟨hb, hg⟩ := h
  exact Kd.S_ne ho hb ht
theorem IsS44.lt {w0 W : World} {g : Nat} {f0 : Int} (h : IsS44 w0 W g f0) : g < W.heap.size := by
  obtain ⟨hb, hg⟩ := h
  exact blk_lt hb
theorem IsS44.ge {w0 W : World} {g : Nat} {f0 : Int} (h : IsS44 w0 W g f0) : w0.heap.size ≤ g := by
  obtain ⟨hb, hg⟩ := h
  exact hg
theorem IsS44.ne_blk {w0 W : World} {g : Nat} {f0 : Int} {a : Nat} {cs : Array Value} {t : TypeId} {fr : Nat × Nat} (h : IsS44 w0 W g f0) (hb2 : W.heap[a]? = some (.cells cs t fr)) (ht : t ≠ 44) : g ≠ a := by
  obtain ⟨hb, hg⟩ := h
  rintro rfl
  rw [hb] at hb2
  injection hb2 with hb2
  injection hb2 with _ ht2
  exact ht ht2.symm
theorem IsS44.far {w0 W : World} {g : Nat} {f0 : Int} {p : Addr} (h : IsS44 w0 W g f0) (hne : g ≠ p.block) (u : Value) : IsS44 w0 (W.setCell p u) g f0 := by
  obtain ⟨hb, hg⟩ := h
  exact ⟨blk_far hb hne u, hg⟩
theorem cellS44_0 {W : World} {g : Nat} {f0 : Int} (h : W.heap[g]? = some (.cells #[.int .i64 f0] 44 (0, 0))) : W.cell? ⟨g, 0, none⟩ = some (.int .i64 f0) := (blk_cell h 0).trans rfl
theorem IsS44.set_0 {w0 W : World} {g : Nat} {f0 : Int} (h : IsS44 w0 W g f0) (x : Int) : IsS44 w0 (W.setCell ⟨g, 0, none⟩ (.int .i64 x)) g x := by
  obtain ⟨hb, hg⟩ := h
  exact ⟨by simpa using blk_set hb 0 (.int .i64 x), hg⟩
theorem IsS44.new (w0 W : World) (f0 : Int) (hB : Below w0.heap.size w0 W) : IsS44 w0 (W.alloc (.cells #[.int .i64 f0] 44)) W.heap.size f0 := ⟨by simpa using heap_alloc_new W _, hB.size⟩

/-! ### lots_New: function 8 -/
def lots_New.f (a0 : Int) : Option (Int) := some (Go.bits .and .i64 a0 4294967295)
set_option maxHeartbeats 8000000 in
set_option maxRecDepth 100000 in
theorem lots_New.calls (a0 : Int) (r : Int) (w0 w : World) (hB : Below w0.heap.size w0 w) (h : lots_New.f a0 = some r) :
    Calls Try.prog 8 #[.int .i64 a0] w fun e w' => ∃ g_ : Nat, e = .returned (.pointer (some ⟨g_, 0, none⟩)) ∧ IsS44 w0 w' g_ r ∧ Below w0.heap.size w0 w' ∧ Below w.heap.size w w' := by
  have hu44 := Try.underlying44
  have HBW := Aside0.mk (Below.refl w.heap.size w)
  have HW0 := Aside0.mk hB.size
  have HB := Aside0.mk hB
  clear hB
  have H : (some (Go.bits .and .i64 a0 4294967295)) = some r := h
  clear h
  obtain rfl := Option.some.inj H
  go_enter Try.func8, Try.ntmps8
  go_wp2_with (first | ((with_reducible refine gate_dst (N := 6) rfl ?_); refine box_event ?hg (N := 6) ?hd (cs := #[.int .i64 (Go.bits .and .i64 a0 4294967295)]) (t := 44) ?hr ?_; (case hd => rfl); (case hg => rfl); (case hr => first | (go_simp; done) | (go_simp; rfl)); intro gb101 hg w2 hbox hb; have n0_ := Aside0.mk (below_step HBW.out hb); have n1_ := Aside0.mk (below_step (by repeat (first | (with_reducible first | exact HB.out | apply below_alloc | apply pw_below_drewN | apply below_drew1) | exact HB.out)) hb); have n2_ := Aside0.mk (hbox); have n3_ := Aside0.mk ((by rw [hg]; exact (below_size (by repeat (first | (with_reducible first | exact HBW.out | apply below_alloc | apply pw_below_drewN | apply below_drew1) | exact HBW.out))) : w.heap.size ≤ gb101)); have n4_ := Aside0.mk ((Nat.le_trans HW0.out (by rw [hg]; exact (below_size (by repeat (first | (with_reducible first | exact HBW.out | apply below_alloc | apply pw_below_drewN | apply below_drew1) | exact HBW.out))) : w.heap.size ≤ gb101) : w0.heap.size ≤ gb101)); clear HBW; clear HB; have HBW := n0_; have HB := n1_; have BK101 := n2_; have GW101 := n3_; have GE101 := n4_; clear n0_ n1_ n2_ n3_ n4_; clear hb hbox hg))
  go_ret
  exact ⟨_, rfl, (show IsS44 w0 _ gb101 (Go.bits .and .i64 a0 4294967295) from ⟨by (with_reducible repeat (first | refine blk_drewN ?_ _ | refine blk_drew ?_ | refine blk_alloc ?_ _)); exact BK101.out, GE101.out⟩), by repeat (first | (with_reducible first | exact HB.out | apply below_alloc | apply pw_below_drewN | apply below_drew1 | refine below_set ?_ GE101.out) | exact HB.out), by repeat (first | (with_reducible first | exact HBW.out | apply below_alloc | apply pw_below_drewN | apply below_drew1 | refine below_set ?_ GW101.out) | exact HBW.out)⟩

/-! ### lots_Lot_Next: function 10 -/
def lots_Lot_Next.f (s0_0 : Int) (a1 : Int) : Option (Int × Int) := if a1 < 1 then (some (0, Go.bits .and .i64 (wrap64 ((wrap64 (s0_0 * 1664525)) + 1013904223)) 4294967295)) else (if a1 = 0 then (none) else (some (Int.tmod ((Go.bits .and .i64 (wrap64 ((wrap64 (s0_0 * 1664525)) + 1013904223)) 4294967295) / 256) a1, Go.bits .and .i64 (wrap64 ((wrap64 (s0_0 * 1664525)) + 1013904223)) 4294967295)))
set_option maxHeartbeats 8000000 in
set_option maxRecDepth 100000 in
theorem lots_Lot_Next.calls (g : Nat) (s0_0 : Int) (a1 : Int) (r1 : Int) (r2 : Int) (w0 w : World) (hI : IsS44 w0 w g s0_0) (hB : Below w0.heap.size w0 w) (h : lots_Lot_Next.f s0_0 a1 = some (r1, r2)) :
    Calls Try.prog 10 #[.pointer (some ⟨g, 0, none⟩), .int .i64 a1] w fun e w' => e = .returned (.int .i64 r1) ∧ IsS44 w0 w' g r2 ∧ Below w0.heap.size w0 w' ∧ KeepBut w w' g none := by
  have HI0 := Aside0.mk hI
  have HK := Aside0.mk (KeepBut.refl w g none)
  have HL := Aside0.mk hB.size
  clear hI
  have HW0 := Aside0.mk hB.size
  have HB := Aside0.mk hB
  clear hB
  have H : (if a1 < 1 then (some (0, Go.bits .and .i64 (wrap64 ((wrap64 (s0_0 * 1664525)) + 1013904223)) 4294967295)) else (if a1 = 0 then (none) else (some (Int.tmod ((Go.bits .and .i64 (wrap64 ((wrap64 (s0_0 * 1664525)) + 1013904223)) 4294967295) / 256) a1, Go.bits .and .i64 (wrap64 ((wrap64 (s0_0 * 1664525)) + 1013904223)) 4294967295)))) = some (r1, r2) := h
  clear h
  by_cases c3 : a1 < 1
  · rw [if_pos c3] at H
    have c3b0 : decide (a1 < 1) = true := decide_eq_true c3
    clear c3
    simp only [Option.some.injEq, Prod.mk.injEq] at H
    obtain ⟨rfl, rfl⟩ := H
    obtain ⟨HGz4, hgz4⟩ := HI0.out
    have hcz4_0 := cellS44_0 HGz4
    have hfz4_0 := blk_frozen HGz4 0
    clear HGz4 hgz4
    go_enter Try.func10, Try.ntmps10
    go_wp2
    go_ret
    exact ⟨by first | rfl | (simp [errW_none, errW_some] <;> rfl) | (simp [*, errW_none, errW_some] <;> rfl), by repeat (first | (with_reducible first | exact HI0.out | apply IsS44.alloc | apply IsS44.drewN | apply IsS44.drew | apply IsS44.set_0) | exact HI0.out), by repeat (first | (with_reducible first | exact HB.out | apply below_alloc | apply pw_below_drewN | apply below_drew1 | refine below_set ?_ (IsS44.ge HI0.out)) | exact HB.out), by repeat (first | (with_reducible first | exact HK.out | apply KeepBut.set_ | apply keep_drewN | apply keep_drew | apply keep_alloc) | exact HK.out)⟩
  · rw [if_neg c3] at H
    have c3b0 : decide (a1 < 1) = false := decide_eq_false c3
    clear c3
    by_cases c5 : a1 = 0
    · rw [if_pos c5] at H
      exact absurd H (by simp)
    · rw [if_neg c5] at H
      have c5b0 : (a1 == 0) = false := beq_eq_false_iff_ne.mpr c5
      have c5b1 : (a1 != 0) = true := bne_iff_ne.mpr c5
      simp only [Option.some.injEq, Prod.mk.injEq] at H
      obtain ⟨rfl, rfl⟩ := H
      obtain ⟨HGz6, hgz6⟩ := HI0.out
      have hcz6_0 := cellS44_0 HGz6
      have hfz6_0 := blk_frozen HGz6 0
      clear HGz6 hgz6
      go_enter Try.func10, Try.ntmps10
      go_wp2
      go_ret
      exact ⟨by first | rfl | (simp [errW_none, errW_some] <;> rfl) | (simp [*, errW_none, errW_some] <;> rfl), by repeat (first | (with_reducible first | exact HI0.out | apply IsS44.alloc | apply IsS44.drewN | apply IsS44.drew | apply IsS44.set_0) | exact HI0.out), by repeat (first | (with_reducible first | exact HB.out | apply below_alloc | apply pw_below_drewN | apply below_drew1 | refine below_set ?_ (IsS44.ge HI0.out)) | exact HB.out), by repeat (first | (with_reducible first | exact HK.out | apply KeepBut.set_ | apply keep_drewN | apply keep_drew | apply keep_alloc) | exact HK.out)⟩

/-! ### lockgatelaw31_alive: function 7 -/
def lockgatelaw31_alive.f  : Option (Bool) := (lots_New.f 0).bind fun t102 => ((lots_Lot_Next.f t102 256).bind fun bt104 => (some (bt104.1 == 243)))
set_option maxHeartbeats 8000000 in
set_option maxRecDepth 100000 in
theorem lockgatelaw31_alive.calls  (r : Bool) (w : World) (h : lockgatelaw31_alive.f  = some r) :
    Calls Try.prog 7 #[] w fun e w' => e = .returned (.bool r) ∧ Below w.heap.size w w' := by
  have HB := Aside0.mk (Below.refl w.heap.size w)
  have H : ((lots_New.f 0).bind fun t102 => ((lots_Lot_Next.f t102 256).bind fun bt104 => (some (bt104.1 == 243)))) = some r := h
  clear h
  replace H := Option.bind_eq_some_iff.mp H
  obtain ⟨t102, A10, H⟩ := H
  replace H : ((lots_Lot_Next.f t102 256).bind fun bt104 => (some (bt104.1 == 243))) = some r := H
  have A1 := Aside0.mk A10
  clear A10
  replace H := Option.bind_eq_some_iff.mp H
  obtain ⟨⟨t104, t105⟩, A20, H⟩ := H
  replace H : (some (t104 == 243)) = some r := H
  have A2 := Aside0.mk A20
  clear A20
  obtain rfl := Option.some.inj H
  go_enter Try.func7, Try.ntmps7
  go_wp2_with (first | ((with_reducible refine gate_callee (f := 8) rfl ?_); refine goesL_ (some 2) rfl rfl Try.func8 (by kernel_rfl) rfl #[.int .i64 0] rfl (by (try simp only [List.map_toArray, List.map_cons, List.map_nil]); first | done | rfl | (simp only [List.length_drop, List.length_take]; rfl)) ?_; (with_reducible refine (lots_New.calls 0 t102 w _ ?side1 A1.out).mono ?_); (case side1 => repeat (first | (with_reducible first | exact HB.out | apply below_alloc | apply pw_below_drewN | apply below_drew1) | exact HB.out)); rintro e w3 ⟨g103, rfl, hi, hb, hb2⟩; refine ⟨_, rfl, ?_⟩; have n0_ := Aside0.mk (hb); have n1_ := Aside0.mk (hi); clear HB; have HB := n0_; have HI103 := n1_; clear n0_ n1_; (try clear hb); (try clear hb2); (try clear hk); (try clear hi)) | (go_at_call 10; (with_reducible refine (lots_Lot_Next.calls g103 t102 256 t104 t105 w _ ?side1 ?side2 A2.out).mono ?_); (case side1 => repeat (first | (with_reducible first | exact HI103.out | apply IsS44.alloc | apply IsS44.drewN | apply IsS44.drew | apply IsS44.set_0) | exact HI103.out)); (case side2 => repeat (first | (with_reducible first | exact HB.out | apply below_alloc | apply pw_below_drewN | apply below_drew1 | refine below_set ?_ (IsS44.ge HI103.out)) | exact HB.out)); rintro e w4 ⟨rfl, hi, hb, hk⟩; have n0_ := Aside0.mk (hb); have n1_ := Aside0.mk (hi); clear HB; clear HI103; have HB := n0_; have HI103 := n1_; clear n0_ n1_; (try clear hb); (try clear hb2); (try clear hk); (try clear hi)))
  go_ret
  exact ⟨by first | rfl | (simp [errW_none, errW_some] <;> rfl) | (simp [*, errW_none, errW_some] <;> rfl), by repeat (first | (with_reducible first | exact HB.out | apply below_alloc | apply pw_below_drewN | apply below_drew1 | refine below_set ?_ (IsS44.ge HI103.out)) | exact HB.out)⟩

-- NOT PRINTED: function 21 (lots_Lot_draws)

-- NOT PRINTED: function 20 (lots_Lot_path)

-- NOT PRINTED: function 15 (lots_Lot_Call)

-- NOT PRINTED: function 12 (lots_Calls)

/-- A state of type 46 at block g of W; what its slices lead to came in by w0. -/
def IsS46 (w0 W : World) (g : Nat) (f0 : Int) : Prop := W.heap[g]? = some (.cells #[.int .i64 f0] 46 (0, 0)) ∧ w0.heap.size ≤ g
theorem IsS46.grown {w0 W : World} {g : Nat} {f0 : Int} {W1 : World} {row : Option Nat} (h : IsS46 w0 W g f0) (hw : W.grownBy W1 row) (hne : some g ≠ row) : IsS46 w0 W1 g f0 := by
  obtain ⟨hb, hg⟩ := h
  exact ⟨blk_grown hb hw hne, hg⟩
theorem IsS46.own_neN {w0 W : World} {g : Nat} {f0 : Int} {α : Type} {d : Kd α} {e : Nat} {base : Nat} {ok : Nat → Prop} {v : Value} {xs : List α} (h : IsS46 w0 W g f0) (ho : Kd.N d e W base ok v xs) (ht : e ≠ 46) : some g ≠ v.ownBlock := by
  obtain ⟨hb, hg⟩ := h
  exact Kd.N_ne ho hb ht
theorem IsS46.fresh {w0 W : World} {g : Nat} {f0 : Int} (h : IsS46 w0 W g f0) : ∀ k, W.heap.size ≤ k → k ≠ g := by
  obtain ⟨hb, hg⟩ := h
  exact Kd.freshB hb
theorem IsS46.kept {w0 W : World} {g : Nat} {f0 : Int} {W1 : World} {S : Nat → Prop} (h : IsS46 w0 W g f0) (hk : Kept W W1 S) (hne : ¬ S g) : IsS46 w0 W1 g f0 := by
  obtain ⟨hb, hg⟩ := h
  exact ⟨blk_kept hb hk hne, hg⟩
theorem IsS46.below {w0 W : World} {g : Nat} {f0 : Int} {W1 : World} (h : IsS46 w0 W g f0) (hw : Below W.heap.size W W1) : IsS46 w0 W1 g f0 := h.grown (grown_of_below hw none) (by simp)
theorem IsS46.alloc {w0 W : World} {g : Nat} {f0 : Int} (h : IsS46 w0 W g f0) (o : Obj) : IsS46 w0 (W.alloc o) g f0 := h.below (below_alloc (Below.refl _ _) o)
theorem IsS46.drewN {w0 W : World} {g : Nat} {f0 : Int} (h : IsS46 w0 W g f0) (m : Nat) : IsS46 w0 (W.drewN m) g f0 := h
theorem IsS46.drew {w0 W : World} {g : Nat} {f0 : Int} (h : IsS46 w0 W g f0) : IsS46 w0 W.drew g f0 := h
theorem IsS46.at_ {w0 W : World} {g : Nat} {f0 : Int} {w' : World} {m : Nat} (hq : W.drewN m = w') (h : IsS46 w0 W g f0) : IsS46 w0 w' g f0 := by subst hq; exact IsS46.drewN h m
theorem IsS46.apart {w0 W : World} {g : Nat} {f0 : Int} {α : Type} {d : Kd α} {e : Nat} {base : Nat} {ok : Nat → Prop} {v : Value} {xs : List α} (h : IsS46 w0 W g f0) (ho : d.R e W base ok v xs) (ht : ∀ q, q ∈ e :: d.E → q ≠ 46) : d.R e W base (fun k => ok k ∧ k ≠ g) v xs := by
  obtain ⟨hb, hg⟩ := h
  exact Kd.R_types ho hb ht
theorem IsS46.own_ne {w0 W : World} {g : Nat} {f0 : Int} {α : Type} {d : Kd α} {e : Nat} {base : Nat} {ok : Nat → Prop} {v : Value} {xs : List α} (h : IsS46 w0 W g f0) (ho : d.R e W base ok v xs) (ht : e ≠ 46) : some g ≠ v.ownBlock := by
  obtain ⟨hb, hg⟩ := h
  exact Kd.R_ne ho hb ht
theorem IsS46.apartQ {w0 W : World} {g : Nat} {f0 : Int} {α : Type} {d : Kd α} {e : Nat} {base : Nat} {ok : Nat → Prop} {v : Value} {xs : List α} (h : IsS46 w0 W g f0) (ho : d.Q e W base ok v xs) (ht : ∀ q, q ∈ e :: d.E → q ≠ 46) : d.Q e W base (fun k => ok k ∧ k ≠ g) v xs := by
  obtain ⟨hb, hg⟩ := h
  exact Kd.Q_types ho hb ht
theorem IsS46.own_neQ {w0 W : World} {g : Nat} {f0 : Int} {α : Type} {d : Kd α} {e : Nat} {base : Nat} {ok : Nat → Prop} {v : Value} {xs : List α} (h : IsS46 w0 W g f0) (ho : d.Q e W base ok v xs) (ht : e ≠ 46) : some g ≠ v.ownBlock := by
  obtain ⟨hb, hg⟩ := h
  exact Kd.Q_ne ho hb ht
theorem IsS46.apartS {w0 W : World} {g : Nat} {f0 : Int} {α : Type} {d : Kd α} {e : Nat} {base : Nat} {ok : Nat → Prop} {v : Value} {xs : List α} (h : IsS46 w0 W g f0) (ho : d.S e W base ok v xs) (ht : ∀ q, q ∈ e :: d.E → q ≠ 46) : d.S e W base (fun k => ok k ∧ k ≠ g) v xs := by
  obtain ⟨hb, hg⟩ := h
  exact Kd.S_types ho hb ht
theorem IsS46.own_neS {w0 W : World} {g : Nat} {f0 : Int} {α : Type} {d : Kd α} {e : Nat} {base : Nat} {ok : Nat → Prop} {v : Value} {xs : List α} (h : IsS46 w0 W g f0) (ho : d.S e W base ok v xs) (ht : e ≠ 46) : some g ≠ v.ownBlock := by
  obtain ⟨hb, hg⟩ := h
  exact Kd.S_ne ho hb ht
theorem IsS46.lt {w0 W : World} {g : Nat} {f0 : Int} (h : IsS46 w0 W g f0) : g < W.heap.size := by
  obtain ⟨hb, hg⟩ := h
  exact blk_lt hb
theorem IsS46.ge {w0 W : World} {g : Nat} {f0 : Int} (h : IsS46 w0 W g f0) : w0.heap.size ≤ g := by
  obtain ⟨hb, hg⟩ := h
  exact hg
theorem IsS46.ne_blk {w0 W : World} {g : Nat} {f0 : Int} {a : Nat} {cs : Array Value} {t : TypeId} {fr : Nat × Nat} (h : IsS46 w0 W g f0) (hb2 : W.heap[a]? = some (.cells cs t fr)) (ht : t ≠ 46) : g ≠ a := by
  obtain ⟨hb, hg⟩ := h
  rintro rfl
  rw [hb] at hb2
  injection hb2 with hb2
  injection hb2 with _ ht2
  exact ht ht2.symm
theorem IsS46.far {w0 W : World} {g : Nat} {f0 : Int} {p : Addr} (h : IsS46 w0 W g f0) (hne : g ≠ p.block) (u : Value) : IsS46 w0 (W.setCell p u) g f0 := by
  obtain ⟨hb, hg⟩ := h
  exact ⟨blk_far hb hne u, hg⟩
theorem cellS46_0 {W : World} {g : Nat} {f0 : Int} (h : W.heap[g]? = some (.cells #[.int .i64 f0] 46 (0, 0))) : W.cell? ⟨g, 0, none⟩ = some (.int .i64 f0) := (blk_cell h 0).trans rfl
theorem IsS46.set_0 {w0 W : World} {g : Nat} {f0 : Int} (h : IsS46 w0 W g f0) (x : Int) : IsS46 w0 (W.setCell ⟨g, 0, none⟩ (.int .i64 x)) g x := by
  obtain ⟨hb, hg⟩ := h
  exact ⟨by simpa using blk_set hb 0 (.int .i64 x), hg⟩
theorem IsS46.new (w0 W : World) (f0 : Int) (hB : Below w0.heap.size w0 W) : IsS46 w0 (W.alloc (.cells #[.int .i64 f0] 46)) W.heap.size f0 := ⟨by simpa using heap_alloc_new W _, hB.size⟩

/-! ### lockgateref28_NewLot: function 9 -/
def lockgateref28_NewLot.f (a0 : Int) : Option (Int) := some (Go.bits .and .i64 a0 4294967295)
set_option maxHeartbeats 8000000 in
set_option maxRecDepth 100000 in
theorem lockgateref28_NewLot.calls (a0 : Int) (r : Int) (w0 w : World) (hB : Below w0.heap.size w0 w) (h : lockgateref28_NewLot.f a0 = some r) :
    Calls Try.prog 9 #[.int .i64 a0] w fun e w' => ∃ g_ : Nat, e = .returned (.pointer (some ⟨g_, 0, none⟩)) ∧ IsS46 w0 w' g_ r ∧ Below w0.heap.size w0 w' ∧ Below w.heap.size w w' := by
  have hu46 := Try.underlying46
  have HBW := Aside0.mk (Below.refl w.heap.size w)
  have HW0 := Aside0.mk hB.size
  have HB := Aside0.mk hB
  clear hB
  have H : (some (Go.bits .and .i64 a0 4294967295)) = some r := h
  clear h
  obtain rfl := Option.some.inj H
  go_enter Try.func9, Try.ntmps9
  go_wp2_with (first | ((with_reducible refine gate_dst (N := 6) rfl ?_); refine box_event ?hg (N := 6) ?hd (cs := #[.int .i64 (Go.bits .and .i64 a0 4294967295)]) (t := 46) ?hr ?_; (case hd => rfl); (case hg => rfl); (case hr => first | (go_simp; done) | (go_simp; rfl)); intro gb112 hg w2 hbox hb; have n0_ := Aside0.mk (below_step HBW.out hb); have n1_ := Aside0.mk (below_step (by repeat (first | (with_reducible first | exact HB.out | apply below_alloc | apply pw_below_drewN | apply below_drew1) | exact HB.out)) hb); have n2_ := Aside0.mk (hbox); have n3_ := Aside0.mk ((by rw [hg]; exact (below_size (by repeat (first | (with_reducible first | exact HBW.out | apply below_alloc | apply pw_below_drewN | apply below_drew1) | exact HBW.out))) : w.heap.size ≤ gb112)); have n4_ := Aside0.mk ((Nat.le_trans HW0.out (by rw [hg]; exact (below_size (by repeat (first | (with_reducible first | exact HBW.out | apply below_alloc | apply pw_below_drewN | apply below_drew1) | exact HBW.out))) : w.heap.size ≤ gb112) : w0.heap.size ≤ gb112)); clear HBW; clear HB; have HBW := n0_; have HB := n1_; have BK112 := n2_; have GW112 := n3_; have GE112 := n4_; clear n0_ n1_ n2_ n3_ n4_; clear hb hbox hg))
  go_ret
  exact ⟨_, rfl, (show IsS46 w0 _ gb112 (Go.bits .and .i64 a0 4294967295) from ⟨by (with_reducible repeat (first | refine blk_drewN ?_ _ | refine blk_drew ?_ | refine blk_alloc ?_ _)); exact BK112.out, GE112.out⟩), by repeat (first | (with_reducible first | exact HB.out | apply below_alloc | apply pw_below_drewN | apply below_drew1 | refine below_set ?_ GE112.out) | exact HB.out), by repeat (first | (with_reducible first | exact HBW.out | apply below_alloc | apply pw_below_drewN | apply below_drew1 | refine below_set ?_ GW112.out) | exact HBW.out)⟩

/-! ### lockgateref28_many: function 18 -/
def lockgateref28_many.f (a0 : Int) : Option (Int) := if a0 > 1000 then (some 1000) else (some a0)
set_option maxHeartbeats 8000000 in
set_option maxRecDepth 100000 in
theorem lockgateref28_many.calls (a0 : Int) (r : Int) (w : World) (h : lockgateref28_many.f a0 = some r) :
    Calls Try.prog 18 #[.int .i64 a0] w fun e w' => e = .returned (.int .i64 r) ∧ Drawn0 w w' := by
  have H : (if a0 > 1000 then (some 1000) else (some a0)) = some r := h
  clear h
  by_cases c2 : a0 > 1000
  · rw [if_pos c2] at H
    have c2b0 : decide (1000 < a0) = true := decide_eq_true c2
    clear c2
    obtain rfl := Option.some.inj H
    go_enter Try.func18, Try.ntmps18
    go_wp2
    go_ret
    exact ⟨by first | rfl | (simp; done) | (simp [*]; done), by repeat (first | exact Drawn0.refl _ | apply Drawn0.step)⟩
  · rw [if_neg c2] at H
    have c2b0 : decide (1000 < a0) = false := decide_eq_false c2
    clear c2
    obtain rfl := Option.some.inj H
    go_enter Try.func18, Try.ntmps18
    go_wp2
    go_ret
    exact ⟨by first | rfl | (simp; done) | (simp [*]; done), by repeat (first | exact Drawn0.refl _ | apply Drawn0.step)⟩

/-! ### lockgateref28_Lot_Next: function 11 -/
def lockgateref28_Lot_Next.f (s0_0 : Int) (a1 : Int) : Option (Int × Int) := if a1 < 1 then (some (0, Go.bits .and .i64 (wrap64 ((wrap64 (s0_0 * 1664525)) + 1013904223)) 4294967295)) else (if a1 = 0 then (none) else (some (Int.tmod ((Go.bits .and .i64 (wrap64 ((wrap64 (s0_0 * 1664525)) + 1013904223)) 4294967295) / 256) a1, Go.bits .and .i64 (wrap64 ((wrap64 (s0_0 * 1664525)) + 1013904223)) 4294967295)))
set_option maxHeartbeats 8000000 in
set_option maxRecDepth 100000 in
theorem lockgateref28_Lot_Next.calls (g : Nat) (s0_0 : Int) (a1 : Int) (r1 : Int) (r2 : Int) (w0 w : World) (hI : IsS46 w0 w g s0_0) (hB : Below w0.heap.size w0 w) (h : lockgateref28_Lot_Next.f s0_0 a1 = some (r1, r2)) :
    Calls Try.prog 11 #[.pointer (some ⟨g, 0, none⟩), .int .i64 a1] w fun e w' => e = .returned (.int .i64 r1) ∧ IsS46 w0 w' g r2 ∧ Below w0.heap.size w0 w' ∧ KeepBut w w' g none := by
  have HI0 := Aside0.mk hI
  have HK := Aside0.mk (KeepBut.refl w g none)
  have HL := Aside0.mk hB.size
  clear hI
  have HW0 := Aside0.mk hB.size
  have HB := Aside0.mk hB
  clear hB
  have H : (if a1 < 1 then (some (0, Go.bits .and .i64 (wrap64 ((wrap64 (s0_0 * 1664525)) + 1013904223)) 4294967295)) else (if a1 = 0 then (none) else (some (Int.tmod ((Go.bits .and .i64 (wrap64 ((wrap64 (s0_0 * 1664525)) + 1013904223)) 4294967295) / 256) a1, Go.bits .and .i64 (wrap64 ((wrap64 (s0_0 * 1664525)) + 1013904223)) 4294967295)))) = some (r1, r2) := h
  clear h
  by_cases c3 : a1 < 1
  · rw [if_pos c3] at H
    have c3b0 : decide (a1 < 1) = true := decide_eq_true c3
    clear c3
    simp only [Option.some.injEq, Prod.mk.injEq] at H
    obtain ⟨rfl, rfl⟩ := H
    obtain ⟨HGz4, hgz4⟩ := HI0.out
    have hcz4_0 := cellS46_0 HGz4
    have hfz4_0 := blk_frozen HGz4 0
    clear HGz4 hgz4
    go_enter Try.func11, Try.ntmps11
    go_wp2
    go_ret
    exact ⟨by first | rfl | (simp [errW_none, errW_some] <;> rfl) | (simp [*, errW_none, errW_some] <;> rfl), by repeat (first | (with_reducible first | exact HI0.out | apply IsS46.alloc | apply IsS46.drewN | apply IsS46.drew | apply IsS46.set_0) | exact HI0.out), by repeat (first | (with_reducible first | exact HB.out | apply below_alloc | apply pw_below_drewN | apply below_drew1 | refine below_set ?_ (IsS46.ge HI0.out)) | exact HB.out), by repeat (first | (with_reducible first | exact HK.out | apply KeepBut.set_ | apply keep_drewN | apply keep_drew | apply keep_alloc) | exact HK.out)⟩
  · rw [if_neg c3] at H
    have c3b0 : decide (a1 < 1) = false := decide_eq_false c3
    clear c3
    by_cases c5 : a1 = 0
    · rw [if_pos c5] at H
      exact absurd H (by simp)
    · rw [if_neg c5] at H
      have c5b0 : (a1 == 0) = false := beq_eq_false_iff_ne.mpr c5
      have c5b1 : (a1 != 0) = true := bne_iff_ne.mpr c5
      simp only [Option.some.injEq, Prod.mk.injEq] at H
      obtain ⟨rfl, rfl⟩ := H
      obtain ⟨HGz6, hgz6⟩ := HI0.out
      have hcz6_0 := cellS46_0 HGz6
      have hfz6_0 := blk_frozen HGz6 0
      clear HGz6 hgz6
      go_enter Try.func11, Try.ntmps11
      go_wp2
      go_ret
      exact ⟨by first | rfl | (simp [errW_none, errW_some] <;> rfl) | (simp [*, errW_none, errW_some] <;> rfl), by repeat (first | (with_reducible first | exact HI0.out | apply IsS46.alloc | apply IsS46.drewN | apply IsS46.drew | apply IsS46.set_0) | exact HI0.out), by repeat (first | (with_reducible first | exact HB.out | apply below_alloc | apply pw_below_drewN | apply below_drew1 | refine below_set ?_ (IsS46.ge HI0.out)) | exact HB.out), by repeat (first | (with_reducible first | exact HK.out | apply KeepBut.set_ | apply keep_drewN | apply keep_drew | apply keep_alloc) | exact HK.out)⟩

/-! ### lockgateref28_Lot_path: function 22 -/
def lockgateref28_Lot_path.l0 : Nat → ByteArray → Int → Int → Int → Option (ByteArray × Int)
  | 0, _, _, _, _ => none
  | k + 1, x3, x4, x5, x1000 => if x5 < x4 then ((lockgateref28_Lot_Next.f x1000 4).bind fun bt115 => (if x3.size + 1 ≤ 9223372036854775807 then (if 0 ≤ bt115.1 then (if bt115.1 ≤ (wrap64 (bt115.1 + 1)) then (if (wrap64 (bt115.1 + 1)) ≤ 4 then (if (x3 ++ (⟨#[47]⟩ : ByteArray)).size + ((⟨#[97, 98, 99, 100]⟩ : ByteArray).extract (bt115.1 : Int).toNat ((wrap64 (bt115.1 + 1)) : Int).toNat).size ≤ 9223372036854775807 then (lockgateref28_Lot_path.l0 k ((x3 ++ (⟨#[47]⟩ : ByteArray)) ++ ((⟨#[97, 98, 99, 100]⟩ : ByteArray).extract (bt115.1 : Int).toNat ((wrap64 (bt115.1 + 1)) : Int).toNat)) x4 (wrap64 (x5 + 1)) bt115.2) else (none)) else (none)) else (none)) else (none)) else (none))) else (some (x3, x1000))
def lockgateref28_Lot_path.f (k : Nat) (s0_0 : Int) : Option (ByteArray × Int) := (lockgateref28_Lot_Next.f s0_0 2).bind fun bt113 => (lockgateref28_Lot_path.l0 k (⟨#[]⟩ : ByteArray) (wrap64 (bt113.1 + 1)) 0 bt113.2)
theorem lockgateref28_Lot_path.mono_l : ∀ k, (∀ y0 y1 y2 y3, LeO (lockgateref28_Lot_path.l0 k y0 y1 y2 y3) (lockgateref28_Lot_path.l0 (k + 1) y0 y1 y2 y3))
  | 0 => fun _ _ _ _ r h => by simp [lockgateref28_Lot_path.l0] at h
  | k + 1 => by
    have ih0 := lockgateref28_Lot_path.mono_l k
    · intro y0 y1 y2 y3
      unfold lockgateref28_Lot_path.l0
      repeat' first
      | (with_reducible exact ih0 _ _ _ _)
      | (with_reducible exact LeO.refl _)
      | (with_reducible exact LeO.none _)
      | (with_reducible refine LeO.ite ?_ ?_)
      | (with_reducible refine LeO.bind ?_ (fun _ => ?_))
      | exact ih0 _ _ _ _
      | exact LeO.none _
      | refine LeO.ite ?_ ?_
      | refine LeO.bind ?_ (fun _ => ?_)
theorem lockgateref28_Lot_path.mono : ∀ a0 k, LeO (lockgateref28_Lot_path.f k a0) (lockgateref28_Lot_path.f (k + 1) a0) := by
  intro a0 k
  have ih0 := lockgateref28_Lot_path.mono_l k
  unfold lockgateref28_Lot_path.f
  repeat' first
      | (with_reducible exact ih0 _ _ _ _)
      | (with_reducible exact LeO.refl _)
      | (with_reducible exact LeO.none _)
      | (with_reducible refine LeO.ite ?_ ?_)
      | (with_reducible refine LeO.bind ?_ (fun _ => ?_))
      | exact ih0 _ _ _ _
      | exact LeO.none _
      | refine LeO.ite ?_ ?_
      | refine LeO.bind ?_ (fun _ => ?_)
set_option maxHeartbeats 8000000 in
set_option maxRecDepth 100000 in
theorem lockgateref28_Lot_path.calls (k : Nat) (g : Nat) (s0_0 : Int) (r1 : ByteArray) (r2 : Int) (w0 w : World) (hI : IsS46 w0 w g s0_0) (hB : Below w0.heap.size w0 w) (h : lockgateref28_Lot_path.f k s0_0 = some (r1, r2)) :
    Calls Try.prog 22 #[.pointer (some ⟨g, 0, none⟩)] w fun e w' => e = .returned (.string r1) ∧ IsS46 w0 w' g r2 ∧ Below w0.heap.size w0 w' ∧ KeepBut w w' g none := by
  have HI0 := Aside0.mk hI
  have HK := Aside0.mk (KeepBut.refl w g none)
  have HL := Aside0.mk hB.size
  clear hI
  have HW0 := Aside0.mk hB.size
  have HB := Aside0.mk hB
  clear hB
  have H : ((lockgateref28_Lot_Next.f s0_0 2).bind fun bt113 => (lockgateref28_Lot_path.l0 k (⟨#[]⟩ : ByteArray) (wrap64 (bt113.1 + 1)) 0 bt113.2)) = some (r1, r2) := h
  clear h
  replace H := Option.bind_eq_some_iff.mp H
  obtain ⟨⟨t113, t114⟩, A20, H⟩ := H
  replace H : (lockgateref28_Lot_path.l0 k (⟨#[]⟩ : ByteArray) (wrap64 (t113 + 1)) 0 t114) = some (r1, r2) := H
  have A2 := Aside0.mk A20
  clear A20
  have H' := Aside0.mk H
  clear H
  go_enter Try.func22, Try.ntmps22
  go_wp2_with (first | ((with_reducible refine gate_callee (f := 11) rfl ?_); refine goesL_ (some 8) rfl rfl Try.func11 (by kernel_rfl) rfl #[.pointer (some ⟨g, 0, none⟩), .int .i64 2] rfl (by (try simp only [List.map_toArray, List.map_cons, List.map_nil]); first | done | rfl | (simp only [List.length_drop, List.length_take]; rfl)) ?_; (with_reducible refine (lockgateref28_Lot_Next.calls g s0_0 2 t113 t114 w0 _ ?side1 ?side2 A2.out).mono ?_); (case side1 => repeat (first | (with_reducible first | exact HI0.out | apply IsS46.alloc | apply IsS46.drewN | apply IsS46.drew | apply IsS46.set_0) | exact HI0.out)); (case side2 => repeat (first | (with_reducible first | exact HB.out | apply below_alloc | apply pw_below_drewN | apply below_drew1 | refine below_set ?_ (IsS46.ge HI0.out)) | exact HB.out)); rintro e w3 ⟨rfl, hi, hb, hk⟩; refine ⟨_, rfl, ?_⟩; have n0_ := Aside0.mk (KeepBut.trans (by repeat (first | (with_reducible first | exact HK.out | apply KeepBut.set_ | apply keep_drewN | apply keep_drew | apply keep_alloc) | exact HK.out)) hk (.inl rfl)); have n1_ := Aside0.mk (hb); have n2_ := Aside0.mk (hi); clear HK; clear HB; clear HI0; have HK := n0_; have HB := n1_; have HI0 := n2_; clear n0_ n1_ n2_; (try clear hb); (try clear hb2); (try clear hk); (try clear hi)))
  go_loopg [3, 5] k (fun kq v3 v5 w' => ∃ (x3_1 : ByteArray) (x5_1 : Int) (x1000_1 : Int), v3 = .string x3_1 ∧ v5 = .int .i64 x5_1 ∧ Aside0 (lockgateref28_Lot_path.l0 kq x3_1 (wrap64 (t113 + 1)) x5_1 x1000_1 = some (r1, r2)) ∧ Aside0 (kq ≤ k) ∧ Aside0 (IsS46 w0 w' g x1000_1) ∧ Aside0 (KeepBut w w' g none) ∧ Aside0 (Below w0.heap.size w0 w'))
  case atStart => exact ⟨((⟨#[]⟩ : ByteArray)), (0), (t114), (by first | rfl | (simp; done) | (simp [*]; done)), (by first | rfl | (simp; done) | (simp [*]; done)), H', ⟨Nat.le_refl _⟩, ⟨by repeat (first | (with_reducible first | exact HI0.out | apply IsS46.alloc | apply IsS46.drewN | apply IsS46.drew | apply IsS46.set_0) | exact HI0.out)⟩, ⟨by repeat (first | (with_reducible first | exact HK.out | apply KeepBut.set_ | apply keep_drewN | apply keep_drew | apply keep_alloc) | exact HK.out)⟩, ⟨by repeat (first | (with_reducible first | exact HB.out | apply below_alloc | apply pw_below_drewN | apply below_drew1 | refine below_set ?_ (IsS46.ge HI0.out)) | exact HB.out)⟩⟩
  case round =>
    clear H'
    try clear c1
    try clear c2
    try clear p2
    obtain ⟨x3_1, x5_1, x1000_1, rfl, rfl, HA, HK1, HI0, HK, HB⟩ := hrel
    cases gk with
    | zero => exact absurd HA.out (by simp [lockgateref28_Lot_path.l0])
    | succ k1 =>
      have H := HA.out
      clear HA
      simp only [lockgateref28_Lot_path.l0] at H
      by_cases c4 : x5_1 < (wrap64 (t113 + 1))
      · rw [if_pos c4] at H
        have c4b0 : decide (x5_1 < (wrap64 (t113 + 1))) = true := decide_eq_true c4
        clear c4
        replace H := Option.bind_eq_some_iff.mp H
        obtain ⟨⟨t115, t116⟩, A50, H⟩ := H
        replace H : (if x3_1.size + 1 ≤ 9223372036854775807 then (if 0 ≤ t115 then (if t115 ≤ (wrap64 (t115 + 1)) then (if (wrap64 (t115 + 1)) ≤ 4 then (if (x3_1 ++ (⟨#[47]⟩ : ByteArray)).size + ((⟨#[97, 98, 99, 100]⟩ : ByteArray).extract (t115 : Int).toNat ((wrap64 (t115 + 1)) : Int).toNat).size ≤ 9223372036854775807 then (lockgateref28_Lot_path.l0 k1 ((x3_1 ++ (⟨#[47]⟩ : ByteArray)) ++ ((⟨#[97, 98, 99, 100]⟩ : ByteArray).extract (t115 : Int).toNat ((wrap64 (t115 + 1)) : Int).toNat)) (wrap64 (t113 + 1)) (wrap64 (x5_1 + 1)) t116) else (none)) else (none)) else (none)) else (none)) else (none)) = some (r1, r2) := H
        have A5 := Aside0.mk A50
        clear A50
        by_cases c6 : x3_1.size + 1 ≤ 9223372036854775807
        · rw [if_pos c6] at H
          have c6b0 := eq_true c6
          have c6b1 : decide (x3_1.size + 1 ≤ 9223372036854775807) = true := decide_eq_true c6
          try have c6b2 : (9223372036854775807 < x3_1.size + 1) = False := eq_false (Nat.not_lt.2 c6)
          by_cases c7 : 0 ≤ t115
          · rw [if_pos c7] at H
            have c7b0 := eq_true c7
            have c7b1 : decide (0 ≤ t115) = true := decide_eq_true c7
            clear c7
            by_cases c8 : t115 ≤ (wrap64 (t115 + 1))
            · rw [if_pos c8] at H
              have c8b0 := eq_true c8
              have c8b1 : decide (t115 ≤ (wrap64 (t115 + 1))) = true := decide_eq_true c8
              by_cases c9 : (wrap64 (t115 + 1)) ≤ 4
              · rw [if_pos c9] at H
                have c9b0 := eq_true c9
                have c9b1 : decide ((wrap64 (t115 + 1)) ≤ 4) = true := decide_eq_true c9
                by_cases c10 : (x3_1 ++ (⟨#[47]⟩ : ByteArray)).size + ((⟨#[97, 98, 99, 100]⟩ : ByteArray).extract (t115 : Int).toNat ((wrap64 (t115 + 1)) : Int).toNat).size ≤ 9223372036854775807
                · rw [if_pos c10] at H
                  have c10b0 := eq_true c10
                  have c10b1 : decide ((x3_1 ++ (⟨#[47]⟩ : ByteArray)).size + ((⟨#[97, 98, 99, 100]⟩ : ByteArray).extract (t115 : Int).toNat ((wrap64 (t115 + 1)) : Int).toNat).size ≤ 9223372036854775807) = true := decide_eq_true c10
                  try have c10b2 : (9223372036854775807 < (x3_1 ++ (⟨#[47]⟩ : ByteArray)).size + ((⟨#[97, 98, 99, 100]⟩ : ByteArray).extract (t115 : Int).toNat ((wrap64 (t115 + 1)) : Int).toNat).size) = False := eq_false (Nat.not_lt.2 c10)
                  have H' := Aside0.mk H
                  clear H
                  go_wp2_with (first | ((with_reducible refine gate_callee (f := 11) rfl ?_); refine goesL_ (some 16) rfl rfl Try.func11 (by kernel_rfl) rfl #[.pointer (some ⟨g, 0, none⟩), .int .i64 4] rfl (by (try simp only [List.map_toArray, List.map_cons, List.map_nil]); first | done | rfl | (simp only [List.length_drop, List.length_take]; rfl)) ?_; (with_reducible refine (lockgateref28_Lot_Next.calls g x1000_1 4 t115 t116 w0 _ ?side1 ?side2 A5.out).mono ?_); (case side1 => repeat (first | (with_reducible first | exact HI0.out | apply IsS46.alloc | apply IsS46.drewN | apply IsS46.drew | apply IsS46.set_0) | exact HI0.out)); (case side2 => repeat (first | (with_reducible first | exact HB.out | apply below_alloc | apply pw_below_drewN | apply below_drew1 | refine below_set ?_ (IsS46.ge HI0.out)) | exact HB.out)); rintro e w11 ⟨rfl, hi, hb, hk⟩; refine ⟨_, rfl, ?_⟩; have n0_ := Aside0.mk (KeepBut.trans (by repeat (first | (with_reducible first | exact HK.out | apply KeepBut.set_ | apply keep_drewN | apply keep_drew | apply keep_alloc) | exact HK.out)) hk (.inl rfl)); have n1_ := Aside0.mk (hb); have n2_ := Aside0.mk (hi); clear HK; clear HB; clear HI0; have HK := n0_; have HB := n1_; have HI0 := n2_; clear n0_ n1_ n2_; (try clear hb); (try clear hb2); (try clear hk); (try clear hi)))
                  go_roundg k1
                  case measure => have := HK1.out; omega
                  case rel => exact ⟨((x3_1 ++ (⟨#[47]⟩ : ByteArray)) ++ ((⟨#[97, 98, 99, 100]⟩ : ByteArray).extract (t115 : Int).toNat ((wrap64 (t115 + 1)) : Int).toNat)), (wrap64 (x5_1 + 1)), (t116), (by first | rfl | (simp; done) | (simp [*]; done)), (by first | rfl | (simp; done) | (simp [*]; done)), H', ⟨by have := HK1.out; omega⟩, ⟨by repeat (first | (with_reducible first | exact HI0.out | apply IsS46.alloc | apply IsS46.drewN | apply IsS46.drew | apply IsS46.set_0) | exact HI0.out)⟩, ⟨by repeat (first | (with_reducible first | exact HK.out | apply KeepBut.set_ | apply keep_drewN | apply keep_drew | apply keep_alloc) | exact HK.out)⟩, ⟨by repeat (first | (with_reducible first | exact HB.out | apply below_alloc | apply pw_below_drewN | apply below_drew1 | refine below_set ?_ (IsS46.ge HI0.out)) | exact HB.out)⟩⟩
                · rw [if_neg c10] at H
                  exact absurd H (by simp)
              · rw [if_neg c9] at H
                exact absurd H (by simp)
            · rw [if_neg c8] at H
              exact absurd H (by simp)
          · rw [if_neg c7] at H
            exact absurd H (by simp)
        · rw [if_neg c6] at H
          exact absurd H (by simp)
      · rw [if_neg c4] at H
        have c4b0 : decide (x5_1 < (wrap64 (t113 + 1))) = false := decide_eq_false c4
        clear c4
        simp only [Option.some.injEq, Prod.mk.injEq] at H
        obtain ⟨rfl, rfl⟩ := H
        go_wp2
        go_ret
        exact ⟨by first | rfl | (simp [errW_none, errW_some] <;> rfl) | (simp [*, errW_none, errW_some] <;> rfl), by repeat (first | (with_reducible first | exact HI0.out | apply IsS46.alloc | apply IsS46.drewN | apply IsS46.drew | apply IsS46.set_0) | exact HI0.out), by repeat (first | (with_reducible first | exact HB.out | apply below_alloc | apply pw_below_drewN | apply below_drew1 | refine below_set ?_ (IsS46.ge HI0.out)) | exact HB.out), by repeat (first | (with_reducible first | exact HK.out | apply KeepBut.set_ | apply keep_drewN | apply keep_drew | apply keep_alloc) | exact HK.out)⟩

end Go.Proofs.Ytfilblidhcnhcaa.PLotsFns
