/- (*Lot).Call of package lots: what it answers and what it leaves in the lot, for every state. -/
import Derived.Test.YtfilblidhcnhcaaG1
import Derived.Outline
namespace Go.Proofs.Ytfilblidhcnhcaa.Given
open Go.RowKit Go.Shelf Go.Proofs.YtfilblidhcnhcaaW.PrintWords Go.Proofs.YtfilblidhcnhcaaW.PrintLast Go.Proofs.YtfilblidhcnhcaaBase Go.Proofs.Ytfilblidhcnhcaa.PLotsFns
set_option linter.unusedVariables false
set_option linter.unusedSimpArgs false
attribute [local go_sem] Oper.semAt_some

/-- a path, and the state behind it -/
def pathR (s : Int) : ByteArray × Int := (pathOf (drawL (stp s) 4 (pathLen s)), stpN (stp s) (pathLen s))
theorem path_f (s : Int) : lots_Lot_path.f s = some ((pathR s).1, (pathR s).2) := rfl
def emp : ByteArray := ⟨#[]⟩
def lots_Lot_Call.f (s : Int) : Option (Int × ByteArray × ByteArray × Int × Int × List Int × Int) :=
  if drw s 13 = 12 then some (13, emp, emp, 0, 0, [], stp s)
  else if drw s 13 = 2 ∨ drw s 13 = 5 then some (drw s 13 + 1, (pathR (stp s)).1, (pathR (pathR (stp s)).2).1, 0, 0, [], (pathR (pathR (stp s)).2).2)
  else if drw s 13 = 6 then some (7, (pathR (stp s)).1, emp, drw (pathR (stp s)).2 4 * 700, drw (stp (pathR (stp s)).2) 3000, [], stp (stp (pathR (stp s)).2))
  else if drw s 13 = 7 then some (8, (pathR (stp s)).1, emp, drw (pathR (stp s)).2 4 * 700, 0, drawL (stp (stp (pathR (stp s)).2)) 256 (drw (stp (pathR (stp s)).2) 1500).toNat, stpN (stp (stp (pathR (stp s)).2)) (drw (stp (pathR (stp s)).2) 1500).toNat)
  else if drw s 13 = 8 then some (9, (pathR (stp s)).1, emp, 0, drw (pathR (stp s)).2 3000, [], stp (pathR (stp s)).2)
  else some (drw s 13 + 1, (pathR (stp s)).1, emp, 0, 0, [], (pathR (stp s)).2)

def CallPost (g : Nat) (w0 w : World) (r1 : Int) (r2 : ByteArray) (r3 : ByteArray) (r4 : Int) (r5 : Int) (r6 : List Int) (r7 : Int) (e : Ending) (w' : World) : Prop :=
  ∃ v5_ : Value, e = .returned (.agg #[.int .i64 r1, .string r2, .string r3, .int .i64 r4, .int .i64 r5, v5_]) ∧ Kd.R (Kd.int .u8) 5 w' w.heap.size (fun _ => True) v5_ r6 ∧ IsS44 w0 w' g r7 ∧ Below w0.heap.size w0 w' ∧ KeepBut w w' g none

set_option maxRecDepth 100000 in
set_option maxHeartbeats 1000000 in
theorem call_13 (g : Nat) (s : Int) (w0 w : World) (hI : IsS44 w0 w g s) (hB : Below w0.heap.size w0 w) (hd : drw s 13 = 12) :
    Calls Try.prog 15 #[.pointer (some ⟨g, 0, none⟩)] w (CallPost g w0 w 13 emp emp 0 0 [] (stp s)) := by
  have HI := Lib.hid hI
  have HB := Lib.hid hB
  have HL : Hid (Lotted w g s) := Lib.hid hI.1
  have hlt : g < w.heap.size := blk_lt hI.1
  have HD := Lib.hid hd
  clear hI hB hd
  go_enter Try.func15, Try.ntmps15
  go_wp2_with (go_at_call 10; (with_reducible refine (next_any g s 13 _ (HL.out.alloc _)).mono ?_); rintro e w' ⟨rfl, rfl⟩; rw [HD.out])
  have h0 := HB.out.size
  refine bodyPost_ret (v := .agg #[.int .i64 13, .string ⟨#[]⟩, .string ⟨#[]⟩, .int .i64 0, .int .i64 0, .slice none 0 0]) (by simp [results, Try.results15, go_sem]) rfl ⟨_, rfl, Kd.R_nil _ _ _ _ _, ((HI.out.set_0 _).alloc _).alloc _, ((HB.out.setCell (p := ⟨g, 0, none⟩) HI.out.ge _).alloc (by simp; omega) _).alloc (by simp; omega) _, keep_alloc (keep_alloc ((KeepBut.refl w g none).set_ 0 _) _) _⟩

abbrev C35 (k : Int) (p t : ByteArray) (o n : Int) (v : Value) : Array Value := #[.int .i64 k, .string p, .string t, .int .i64 o, .int .i64 n, v]
/-- what is known of the call's two blocks -/
structure Two (w W : World) (k : Int) (p t : ByteArray) (o n : Int) (v : Value) : Prop where
  r : W.heap[w.heap.size]? = some (.cells (C35 0 ⟨#[]⟩ ⟨#[]⟩ 0 0 (.slice none 0 0)) 35 (0, 0))
  c : W.heap[w.heap.size + 1]? = some (.cells (C35 k p t o n v) 35 (0, 0))
theorem Two.keep {w W V : World} {g : Nat} {k : Int} {p t : ByteArray} {o n : Int} {v : Value} (h : Two w W k p t o n v) (hg : g < w.heap.size) (hk : KeepBut W V g none) : Two w V k p t o n v :=
  ⟨hk.blk h.r (by omega) (by simp), hk.blk h.c (by omega) (by simp)⟩
theorem Two.setP {w W : World} {k : Int} {p t : ByteArray} {o n : Int} {v : Value} (h : Two w W k p t o n v) (q : ByteArray) : Two w (W.setCell ⟨w.heap.size + 1, 1, none⟩ (.string q)) k q t o n v :=
  ⟨blk_far h.r (by simp) _, by simpa using blk_set h.c 1 (.string q)⟩
theorem two_path {g : Nat} {w w1 : World} {s k : Int} (hlt : g < w.heap.size) (hk : KeepBut (((w.setCell ⟨g, 0, none⟩ (.int .i64 (stp s))).alloc (.cells (C35 0 ⟨#[]⟩ ⟨#[]⟩ 0 0 (.slice none 0 0)) 35)).alloc (.cells (C35 k ⟨#[]⟩ ⟨#[]⟩ 0 0 (.slice none 0 0)) 35)) w1 g none) :
    Two w w1 k ⟨#[]⟩ ⟨#[]⟩ 0 0 (.slice none 0 0) :=
  Two.keep ⟨blk_alloc (by have := blk_new (w.setCell ⟨g, 0, none⟩ (.int .i64 (stp s))) (.cells (C35 0 ⟨#[]⟩ ⟨#[]⟩ 0 0 (.slice none 0 0)) 35); rwa [World.size_setCell] at this) _,
    by have := blk_new ((w.setCell ⟨g, 0, none⟩ (.int .i64 (stp s))).alloc (.cells (C35 0 ⟨#[]⟩ ⟨#[]⟩ 0 0 (.slice none 0 0)) 35)) (.cells (C35 k ⟨#[]⟩ ⟨#[]⟩ 0 0 (.slice none 0 0)) 35); rwa [World.size_alloc, World.size_setCell] at this⟩ hlt hk
theorem Lotted.far {W : World} {g : Nat} {s : Int} (h : Lotted W g s) {p : Addr} (hp : g ≠ p.block) (u : Value) : Lotted (W.setCell p u) g s := blk_far h hp u
theorem lot_of {w0 W : World} {g : Nat} {s : Int} (h : IsS44 w0 W g s) : Lotted W g s := h.1
/-- a lot of some state -/
def SomeS (w0 W : World) (g : Nat) : Prop := ∃ f, IsS44 w0 W g f
theorem SomeS.of {w0 W : World} {g : Nat} {f : Int} (h : IsS44 w0 W g f) : SomeS w0 W g := ⟨f, h⟩
theorem SomeS.far {w0 W : World} {g : Nat} {p : Addr} (h : SomeS w0 W g) (hp : g ≠ p.block) (u : Value) : SomeS w0 (W.setCell p u) g := by
  obtain ⟨f, h⟩ := h
  exact ⟨f, h.far hp u⟩
theorem SomeS.set {w0 W : World} {g : Nat} (h : SomeS w0 W g) (x : Int) : SomeS w0 (W.setCell ⟨g, 0, none⟩ (.int .i64 x)) g := by
  obtain ⟨f, h⟩ := h
  exact ⟨x, h.set_0 x⟩
theorem SomeS.is {w0 W : World} {g : Nat} (h : SomeS w0 W g) (x : Int) : IsS44 w0 (W.setCell ⟨g, 0, none⟩ (.int .i64 x)) g x := by
  obtain ⟨f, h⟩ := h
  exact h.set_0 x
theorem SomeS.lot {w0 W : World} {g : Nat} (h : SomeS w0 W g) (x : Int) : Lotted (W.setCell ⟨g, 0, none⟩ (.int .i64 x)) g x := (h.is x).1

set_option maxRecDepth 100000 in
set_option maxHeartbeats 1000000 in
theorem call_other (g : Nat) (s d : Int) (w0 w : World) (hI : IsS44 w0 w g s) (hB : Below w0.heap.size w0 w) (hd : drw s 13 = d) (h12 : d ≠ 12) (h2 : d ≠ 2) (h5 : d ≠ 5) (h6 : d ≠ 6) (h7 : d ≠ 7) (h8 : d ≠ 8) :
    Calls Try.prog 15 #[.pointer (some ⟨g, 0, none⟩)] w (CallPost g w0 w (d + 1) (pathR (stp s)).1 emp 0 0 [] (pathR (stp s)).2) := by
  have HI := Lib.hid hI
  have HB := Lib.hid hB
  have HL : Hid (Lotted w g s) := Lib.hid hI.1
  have hlt : g < w.heap.size := blk_lt hI.1
  have HD := Lib.hid hd
  have h0 := HB.out.size
  have hge := HI.out.ge
  have hr := drw_range s 13 (by omega)
  rw [hd] at hr
  obtain ⟨d0, d1⟩ := hr
  have t1 : (d + 1 != 13) = true := bne_iff_ne.mpr (by omega)
  have t2 : (d + 1 == 3) = false := beq_eq_false_iff_ne.mpr (by omega)
  have t3 : (d + 1 == 6) = false := beq_eq_false_iff_ne.mpr (by omega)
  have t4 : (d + 1 == 7) = false := beq_eq_false_iff_ne.mpr (by omega)
  have t5 : (d + 1 == 8) = false := beq_eq_false_iff_ne.mpr (by omega)
  have t6 : (d + 1 == 9) = false := beq_eq_false_iff_ne.mpr (by omega)
  clear hI hB hd
  go_enter Try.func15, Try.ntmps15
  clear h12 h2 h5 h6 h7 h8
  go_wp2_with (first | (go_at_call 10; (with_reducible refine (next_any g s 13 _ (HL.out.alloc _)).mono ?_); rintro e w' ⟨rfl, rfl⟩; rw [HD.out]) | (go_at_call 20; (with_reducible refine (lots_Lot_path.calls g (stp s) (pathR (stp s)).1 (pathR (stp s)).2 w0 _ (((HI.out.set_0 _).alloc _).alloc _) (((HB.out.setCell (p := ⟨g, 0, none⟩) HI.out.ge _).alloc (by simp; omega) _).alloc (by simp; omega) _) (path_f _)).mono ?_); rintro e w1 ⟨rfl, hi, hb, hk⟩; have HI1 := Lib.hid hi; have HB1 := Lib.hid hb; have HK1 := Lib.hid (((keep_alloc (keep_alloc ((KeepBut.refl w g none).set_ 0 _) _) _)).trans hk (.inl rfl)); clear hi hb; have HT := two_path (k := d + 1) hlt hk; clear hk; have k0 := (blk_cell HT.c 0).trans rfl; have k1 := (blk_cell HT.c 1).trans rfl; have k2 := (blk_cell HT.c 2).trans rfl; have k3 := (blk_cell HT.c 3).trans rfl; have k4 := (blk_cell HT.c 4).trans rfl; have k5 := (blk_cell HT.c 5).trans rfl; have kf := fun i => blk_frozen HT.c i; have rf := fun i => blk_frozen HT.r i; have r0 := (blk_cell HT.r 0).trans rfl; have r1 := (blk_cell HT.r 1).trans rfl; have r2 := (blk_cell HT.r 2).trans rfl; have r3 := (blk_cell HT.r 3).trans rfl; have r4 := (blk_cell HT.r 4).trans rfl; have r5 := (blk_cell HT.r 5).trans rfl; have lw := blk_lt HT.c))
  refine bodyPost_ret (v := .agg #[.int .i64 (d + 1), .string (pathR (stp s)).1, .string ⟨#[]⟩, .int .i64 0, .int .i64 0, .slice none 0 0]) (by simp [results, Try.results15, go_sem, r0, r1, r2, r3, r4, r5, rf]) rfl ⟨_, rfl, Kd.R_nil _ _ _ _ _, ?_, ?_, ?_⟩
  · repeat (first | (with_reducible exact HI1.out) | (with_reducible exact SomeS.of HI1.out) | refine IsS44.far ?_ (by simp only; omega) _ | refine SomeS.is ?_ _ | refine SomeS.far ?_ (by simp only; omega) _ | refine SomeS.set ?_ _)
  · repeat (first | (with_reducible exact HB1.out) | refine Below.setCell ?_ (by simp only; omega) _)
  · repeat (first | (with_reducible exact HK1.out) | refine KeepBut.setNew ?_ (by simp only; omega) _ | refine KeepBut.set_ ?_ 0 _)

set_option maxRecDepth 100000 in
set_option maxHeartbeats 1000000 in
theorem call_3 (g : Nat) (s : Int) (w0 w : World) (hI : IsS44 w0 w g s) (hB : Below w0.heap.size w0 w) (hd : drw s 13 = 2) :
    Calls Try.prog 15 #[.pointer (some ⟨g, 0, none⟩)] w (CallPost g w0 w 3 (pathR (stp s)).1 (pathR (pathR (stp s)).2).1 0 0 [] (pathR (pathR (stp s)).2).2) := by
  have HI := Lib.hid hI
  have HB := Lib.hid hB
  have HL : Hid (Lotted w g s) := Lib.hid hI.1
  have hlt : g < w.heap.size := blk_lt hI.1
  have HD := Lib.hid hd
  have h0 := HB.out.size
  have hge := HI.out.ge
  clear hI hB hd
  go_enter Try.func15, Try.ntmps15
  go_wp2_with (first | (go_at_call 10; (with_reducible refine (next_any g s 13 _ (HL.out.alloc _)).mono ?_); rintro e w' ⟨rfl, rfl⟩; rw [HD.out]) | (go_at_call 20; (with_reducible refine (lots_Lot_path.calls g (stp s) (pathR (stp s)).1 (pathR (stp s)).2 w0 _ (((HI.out.set_0 _).alloc _).alloc _) (((HB.out.setCell (p := ⟨g, 0, none⟩) HI.out.ge _).alloc (by simp; omega) _).alloc (by simp; omega) _) (path_f _)).mono ?_); rintro e w1 ⟨rfl, hi, hb, hk⟩; have HI1 := Lib.hid hi; have HB1 := Lib.hid hb; have HK1 := Lib.hid (((keep_alloc (keep_alloc ((KeepBut.refl w g none).set_ 0 _) _) _)).trans hk (.inl rfl)); clear hi hb; have HT := two_path (k := 3) hlt hk; clear hk; have k0 := (blk_cell HT.c 0).trans rfl; have k1 := (blk_cell HT.c 1).trans rfl; have k2 := (blk_cell HT.c 2).trans rfl; have k3 := (blk_cell HT.c 3).trans rfl; have k4 := (blk_cell HT.c 4).trans rfl; have k5 := (blk_cell HT.c 5).trans rfl; have kf := fun i => blk_frozen HT.c i; have rf := fun i => blk_frozen HT.r i; have r0 := (blk_cell HT.r 0).trans rfl; have r1 := (blk_cell HT.r 1).trans rfl; have r2 := (blk_cell HT.r 2).trans rfl; have r3 := (blk_cell HT.r 3).trans rfl; have r4 := (blk_cell HT.r 4).trans rfl; have r5 := (blk_cell HT.r 5).trans rfl; have lw := blk_lt HT.c) | (go_at_call 20; (with_reducible refine (lots_Lot_path.calls g (pathR (stp s)).2 (pathR (pathR (stp s)).2).1 (pathR (pathR (stp s)).2).2 w0 _ (HI1.out.far (by simp only; omega) _) (HB1.out.setCell (p := ⟨w.heap.size + 1, 1, none⟩) (by simp only; omega) _) (path_f _)).mono ?_); rintro e w2 ⟨rfl, hi, hb, hk⟩; have HI2 := Lib.hid hi; have HB2 := Lib.hid hb; have HK2 := Lib.hid ((HK1.out.setNew (p := ⟨w.heap.size + 1, 1, none⟩) (Nat.le_succ _) _).trans hk (.inl rfl)); clear hi hb; replace HT := (HT.setP (pathR (stp s)).1).keep hlt hk; clear hk k0 k1 k2 k3 k4 k5 kf rf r0 r1 r2 r3 r4 r5; have k0 := (blk_cell HT.c 0).trans rfl; have k1 := (blk_cell HT.c 1).trans rfl; have k2 := (blk_cell HT.c 2).trans rfl; have k3 := (blk_cell HT.c 3).trans rfl; have k4 := (blk_cell HT.c 4).trans rfl; have k5 := (blk_cell HT.c 5).trans rfl; have kf := fun i => blk_frozen HT.c i; have rf := fun i => blk_frozen HT.r i; have r0 := (blk_cell HT.r 0).trans rfl; have r1 := (blk_cell HT.r 1).trans rfl; have r2 := (blk_cell HT.r 2).trans rfl; have r3 := (blk_cell HT.r 3).trans rfl; have r4 := (blk_cell HT.r 4).trans rfl; have r5 := (blk_cell HT.r 5).trans rfl; have lw := blk_lt HT.c))
  refine bodyPost_ret (v := .agg #[.int .i64 3, .string (pathR (stp s)).1, .string (pathR (pathR (stp s)).2).1, .int .i64 0, .int .i64 0, .slice none 0 0]) (by simp [results, Try.results15, go_sem, r0, r1, r2, r3, r4, r5, rf]) rfl ⟨_, rfl, Kd.R_nil _ _ _ _ _, ?_, ?_, ?_⟩
  · repeat (first | (with_reducible exact HI2.out) | (with_reducible exact SomeS.of HI1.out) | refine IsS44.far ?_ (by simp only; omega) _ | refine SomeS.is ?_ _ | refine SomeS.far ?_ (by simp only; omega) _ | refine SomeS.set ?_ _)
  · repeat (first | (with_reducible exact HB2.out) | refine Below.setCell ?_ (by simp only; omega) _)
  · repeat (first | (with_reducible exact HK2.out) | refine KeepBut.setNew ?_ (by simp only; omega) _ | refine KeepBut.set_ ?_ 0 _)

set_option maxRecDepth 100000 in
set_option maxHeartbeats 1000000 in
theorem call_6 (g : Nat) (s : Int) (w0 w : World) (hI : IsS44 w0 w g s) (hB : Below w0.heap.size w0 w) (hd : drw s 13 = 5) :
    Calls Try.prog 15 #[.pointer (some ⟨g, 0, none⟩)] w (CallPost g w0 w 6 (pathR (stp s)).1 (pathR (pathR (stp s)).2).1 0 0 [] (pathR (pathR (stp s)).2).2) := by
  have HI := Lib.hid hI
  have HB := Lib.hid hB
  have HL : Hid (Lotted w g s) := Lib.hid hI.1
  have hlt : g < w.heap.size := blk_lt hI.1
  have HD := Lib.hid hd
  have h0 := HB.out.size
  have hge := HI.out.ge
  clear hI hB hd
  go_enter Try.func15, Try.ntmps15
  go_wp2_with (first | (go_at_call 10; (with_reducible refine (next_any g s 13 _ (HL.out.alloc _)).mono ?_); rintro e w' ⟨rfl, rfl⟩; rw [HD.out]) | (go_at_call 20; (with_reducible refine (lots_Lot_path.calls g (stp s) (pathR (stp s)).1 (pathR (stp s)).2 w0 _ (((HI.out.set_0 _).alloc _).alloc _) (((HB.out.setCell (p := ⟨g, 0, none⟩) HI.out.ge _).alloc (by simp; omega) _).alloc (by simp; omega) _) (path_f _)).mono ?_); rintro e w1 ⟨rfl, hi, hb, hk⟩; have HI1 := Lib.hid hi; have HB1 := Lib.hid hb; have HK1 := Lib.hid (((keep_alloc (keep_alloc ((KeepBut.refl w g none).set_ 0 _) _) _)).trans hk (.inl rfl)); clear hi hb; have HT := two_path (k := 6) hlt hk; clear hk; have k0 := (blk_cell HT.c 0).trans rfl; have k1 := (blk_cell HT.c 1).trans rfl; have k2 := (blk_cell HT.c 2).trans rfl; have k3 := (blk_cell HT.c 3).trans rfl; have k4 := (blk_cell HT.c 4).trans rfl; have k5 := (blk_cell HT.c 5).trans rfl; have kf := fun i => blk_frozen HT.c i; have rf := fun i => blk_frozen HT.r i; have r0 := (blk_cell HT.r 0).trans rfl; have r1 := (blk_cell HT.r 1).trans rfl; have r2 := (blk_cell HT.r 2).trans rfl; have r3 := (blk_cell HT.r 3).trans rfl; have r4 := (blk_cell HT.r 4).trans rfl; have r5 := (blk_cell HT.r 5).trans rfl; have lw := blk_lt HT.c) | (go_at_call 20; (with_reducible refine (lots_Lot_path.calls g (pathR (stp s)).2 (pathR (pathR (stp s)).2).1 (pathR (pathR (stp s)).2).2 w0 _ (HI1.out.far (by simp only; omega) _) (HB1.out.setCell (p := ⟨w.heap.size + 1, 1, none⟩) (by simp only; omega) _) (path_f _)).mono ?_); rintro e w2 ⟨rfl, hi, hb, hk⟩; have HI2 := Lib.hid hi; have HB2 := Lib.hid hb; have HK2 := Lib.hid ((HK1.out.setNew (p := ⟨w.heap.size + 1, 1, none⟩) (Nat.le_succ _) _).trans hk (.inl rfl)); clear hi hb; replace HT := (HT.setP (pathR (stp s)).1).keep hlt hk; clear hk k0 k1 k2 k3 k4 k5 kf rf r0 r1 r2 r3 r4 r5; have k0 := (blk_cell HT.c 0).trans rfl; have k1 := (blk_cell HT.c 1).trans rfl; have k2 := (blk_cell HT.c 2).trans rfl; have k3 := (blk_cell HT.c 3).trans rfl; have k4 := (blk_cell HT.c 4).trans rfl; have k5 := (blk_cell HT.c 5).trans rfl; have kf := fun i => blk_frozen HT.c i; have rf := fun i => blk_frozen HT.r i; have r0 := (blk_cell HT.r 0).trans rfl; have r1 := (blk_cell HT.r 1).trans rfl; have r2 := (blk_cell HT.r 2).trans rfl; have r3 := (blk_cell HT.r 3).trans rfl; have r4 := (blk_cell HT.r 4).trans rfl; have r5 := (blk_cell HT.r 5).trans rfl; have lw := blk_lt HT.c))
  refine bodyPost_ret (v := .agg #[.int .i64 6, .string (pathR (stp s)).1, .string (pathR (pathR (stp s)).2).1, .int .i64 0, .int .i64 0, .slice none 0 0]) (by simp [results, Try.results15, go_sem, r0, r1, r2, r3, r4, r5, rf]) rfl ⟨_, rfl, Kd.R_nil _ _ _ _ _, ?_, ?_, ?_⟩
  · repeat (first | (with_reducible exact HI2.out) | (with_reducible exact SomeS.of HI1.out) | refine IsS44.far ?_ (by simp only; omega) _ | refine SomeS.is ?_ _ | refine SomeS.far ?_ (by simp only; omega) _ | refine SomeS.set ?_ _)
  · repeat (first | (with_reducible exact HB2.out) | refine Below.setCell ?_ (by simp only; omega) _)
  · repeat (first | (with_reducible exact HK2.out) | refine KeepBut.setNew ?_ (by simp only; omega) _ | refine KeepBut.set_ ?_ 0 _)

set_option maxRecDepth 100000 in
set_option maxHeartbeats 1000000 in
theorem call_7 (g : Nat) (s : Int) (w0 w : World) (hI : IsS44 w0 w g s) (hB : Below w0.heap.size w0 w) (hd : drw s 13 = 6) :
    Calls Try.prog 15 #[.pointer (some ⟨g, 0, none⟩)] w (CallPost g w0 w 7 (pathR (stp s)).1 emp (drw (pathR (stp s)).2 4 * 700) (drw (stp (pathR (stp s)).2) 3000) [] (stp (stp (pathR (stp s)).2))) := by
  have HI := Lib.hid hI
  have HB := Lib.hid hB
  have HL : Hid (Lotted w g s) := Lib.hid hI.1
  have hlt : g < w.heap.size := blk_lt hI.1
  have HD := Lib.hid hd
  have h0 := HB.out.size
  have hge := HI.out.ge
  obtain ⟨x, hx⟩ : ∃ y, drw ((pathR (stp s)).2) 4 = y := ⟨_, rfl⟩
  have hrx := drw_range ((pathR (stp s)).2) 4 (by omega)
  rw [hx] at hrx
  obtain ⟨x0, x1⟩ := hrx
  have HX := Lib.hid hx
  try rw [hx]
  clear hx
  obtain ⟨y, hy⟩ : ∃ y, drw (stp (pathR (stp s)).2) 3000 = y := ⟨_, rfl⟩
  have hry := drw_range (stp (pathR (stp s)).2) 3000 (by omega)
  rw [hy] at hry
  obtain ⟨y0, y1⟩ := hry
  have HY := Lib.hid hy
  try rw [hy]
  clear hy
  clear hI hB hd
  go_enter Try.func15, Try.ntmps15
  go_wp2_with (first | (go_at_call 10; (with_reducible refine (next_any g s 13 _ (HL.out.alloc _)).mono ?_); rintro e w' ⟨rfl, rfl⟩; rw [HD.out]) | (go_at_call 20; (with_reducible refine (lots_Lot_path.calls g (stp s) (pathR (stp s)).1 (pathR (stp s)).2 w0 _ (((HI.out.set_0 _).alloc _).alloc _) (((HB.out.setCell (p := ⟨g, 0, none⟩) HI.out.ge _).alloc (by simp; omega) _).alloc (by simp; omega) _) (path_f _)).mono ?_); rintro e w1 ⟨rfl, hi, hb, hk⟩; have HI1 := Lib.hid hi; have HB1 := Lib.hid hb; have HK1 := Lib.hid (((keep_alloc (keep_alloc ((KeepBut.refl w g none).set_ 0 _) _) _)).trans hk (.inl rfl)); clear hi hb; have HT := two_path (k := 7) hlt hk; clear hk; have k0 := (blk_cell HT.c 0).trans rfl; have k1 := (blk_cell HT.c 1).trans rfl; have k2 := (blk_cell HT.c 2).trans rfl; have k3 := (blk_cell HT.c 3).trans rfl; have k4 := (blk_cell HT.c 4).trans rfl; have k5 := (blk_cell HT.c 5).trans rfl; have kf := fun i => blk_frozen HT.c i; have rf := fun i => blk_frozen HT.r i; have r0 := (blk_cell HT.r 0).trans rfl; have r1 := (blk_cell HT.r 1).trans rfl; have r2 := (blk_cell HT.r 2).trans rfl; have r3 := (blk_cell HT.r 3).trans rfl; have r4 := (blk_cell HT.r 4).trans rfl; have r5 := (blk_cell HT.r 5).trans rfl; have lw := blk_lt HT.c) | (go_at_call 10; (with_reducible refine (next_any g ((pathR (stp s)).2) 4 _ (Lotted.far (lot_of HI1.out) (by simp only; omega) _)).mono ?_); rintro e w' ⟨rfl, rfl⟩; rw [HX.out]) | (go_at_call 10; (with_reducible refine (next_any g (stp (pathR (stp s)).2) 3000 _ (by repeat (first | (with_reducible exact lot_of HI1.out) | refine Lotted.far ?_ (by simp only; omega) _ | refine SomeS.lot (w0 := w0) ?_ _ | (with_reducible exact SomeS.of HI1.out) | refine SomeS.far ?_ (by simp only; omega) _ | refine SomeS.set ?_ _))).mono ?_); rintro e w' ⟨rfl, rfl⟩; rw [HY.out]))
  refine bodyPost_ret (v := .agg #[.int .i64 7, .string (pathR (stp s)).1, .string ⟨#[]⟩, .int .i64 (x * 700), .int .i64 y, .slice none 0 0]) (by simp [results, Try.results15, go_sem, r0, r1, r2, r3, r4, r5, rf]) rfl ⟨_, rfl, Kd.R_nil _ _ _ _ _, ?_, ?_, ?_⟩
  · repeat (first | (with_reducible exact HI1.out) | (with_reducible exact SomeS.of HI1.out) | refine IsS44.far ?_ (by simp only; omega) _ | refine SomeS.is ?_ _ | refine SomeS.far ?_ (by simp only; omega) _ | refine SomeS.set ?_ _)
  · repeat (first | (with_reducible exact HB1.out) | refine Below.setCell ?_ (by simp only; omega) _)
  · repeat (first | (with_reducible exact HK1.out) | refine KeepBut.setNew ?_ (by simp only; omega) _ | refine KeepBut.set_ ?_ 0 _)

set_option maxRecDepth 100000 in
set_option maxHeartbeats 1000000 in
theorem call_9 (g : Nat) (s : Int) (w0 w : World) (hI : IsS44 w0 w g s) (hB : Below w0.heap.size w0 w) (hd : drw s 13 = 8) :
    Calls Try.prog 15 #[.pointer (some ⟨g, 0, none⟩)] w (CallPost g w0 w 9 (pathR (stp s)).1 emp 0 (drw (pathR (stp s)).2 3000) [] (stp (pathR (stp s)).2)) := by
  have HI := Lib.hid hI
  have HB := Lib.hid hB
  have HL : Hid (Lotted w g s) := Lib.hid hI.1
  have hlt : g < w.heap.size := blk_lt hI.1
  have HD := Lib.hid hd
  have h0 := HB.out.size
  have hge := HI.out.ge
  obtain ⟨y, hy⟩ : ∃ y, drw ((pathR (stp s)).2) 3000 = y := ⟨_, rfl⟩
  have hry := drw_range ((pathR (stp s)).2) 3000 (by omega)
  rw [hy] at hry
  obtain ⟨y0, y1⟩ := hry
  have HY := Lib.hid hy
  try rw [hy]
  clear hy
  clear hI hB hd
  go_enter Try.func15, Try.ntmps15
  go_wp2_with (first | (go_at_call 10; (with_reducible refine (next_any g s 13 _ (HL.out.alloc _)).mono ?_); rintro e w' ⟨rfl, rfl⟩; rw [HD.out]) | (go_at_call 20; (with_reducible refine (lots_Lot_path.calls g (stp s) (pathR (stp s)).1 (pathR (stp s)).2 w0 _ (((HI.out.set_0 _).alloc _).alloc _) (((HB.out.setCell (p := ⟨g, 0, none⟩) HI.out.ge _).alloc (by simp; omega) _).alloc (by simp; omega) _) (path_f _)).mono ?_); rintro e w1 ⟨rfl, hi, hb, hk⟩; have HI1 := Lib.hid hi; have HB1 := Lib.hid hb; have HK1 := Lib.hid (((keep_alloc (keep_alloc ((KeepBut.refl w g none).set_ 0 _) _) _)).trans hk (.inl rfl)); clear hi hb; have HT := two_path (k := 9) hlt hk; clear hk; have k0 := (blk_cell HT.c 0).trans rfl; have k1 := (blk_cell HT.c 1).trans rfl; have k2 := (blk_cell HT.c 2).trans rfl; have k3 := (blk_cell HT.c 3).trans rfl; have k4 := (blk_cell HT.c 4).trans rfl; have k5 := (blk_cell HT.c 5).trans rfl; have kf := fun i => blk_frozen HT.c i; have rf := fun i => blk_frozen HT.r i; have r0 := (blk_cell HT.r 0).trans rfl; have r1 := (blk_cell HT.r 1).trans rfl; have r2 := (blk_cell HT.r 2).trans rfl; have r3 := (blk_cell HT.r 3).trans rfl; have r4 := (blk_cell HT.r 4).trans rfl; have r5 := (blk_cell HT.r 5).trans rfl; have lw := blk_lt HT.c) | (go_at_call 10; (with_reducible refine (next_any g ((pathR (stp s)).2) 3000 _ (Lotted.far (lot_of HI1.out) (by simp only; omega) _)).mono ?_); rintro e w' ⟨rfl, rfl⟩; rw [HY.out]))
  refine bodyPost_ret (v := .agg #[.int .i64 9, .string (pathR (stp s)).1, .string ⟨#[]⟩, .int .i64 0, .int .i64 y, .slice none 0 0]) (by simp [results, Try.results15, go_sem, r0, r1, r2, r3, r4, r5, rf]) rfl ⟨_, rfl, Kd.R_nil _ _ _ _ _, ?_, ?_, ?_⟩
  · repeat (first | (with_reducible exact HI1.out) | (with_reducible exact SomeS.of HI1.out) | refine IsS44.far ?_ (by simp only; omega) _ | refine SomeS.is ?_ _ | refine SomeS.far ?_ (by simp only; omega) _ | refine SomeS.set ?_ _)
  · repeat (first | (with_reducible exact HB1.out) | refine Below.setCell ?_ (by simp only; omega) _)
  · repeat (first | (with_reducible exact HK1.out) | refine KeepBut.setNew ?_ (by simp only; omega) _ | refine KeepBut.set_ ?_ 0 _)

end Go.Proofs.Ytfilblidhcnhcaa.Given
