/- patch.Apply: the bytes that any changes make of any bytes, with some left out. -/
import Derived.Test.YtemachlhoanngaaG2
import Derived.Test.YtemachlhoanngaaRoundRegion
namespace Go.Proofs.Ytemachlhoanngaa.Given
open Go.RowKit Go.Shelf Go.Proofs.YtemachlhoanngaaW.PrintWords Go.Proofs.YtemachlhoanngaaW.PrintLast Go.Proofs.YtemachlhoanngaaBase Go.Proofs.Ytemachlhoanngaa.PPFns
set_option linter.unusedVariables false
set_option linter.unusedSimpArgs false
attribute [local go_sem] Oper.semAt_some

theorem kept_in (A1 A2 : Option Addr) (n1 c1 n2 c2 : Nat) (w : World) :
    Calls Try.prog 23 #[.slice A1 n1 c1, .slice A2 n2 c2] w fun e w' => e = .returned (.func (.func 28) #[] #[.pointer (some ⟨w.heap.size, 0, none⟩), .pointer (some ⟨w.heap.size + 1, 0, none⟩)]) ∧ (w.alloc (.cells #[.slice A1 n1 c1] 27)).alloc (.cells #[.slice A2 n2 c2] 33) = w' := by
  go_enter Try.func23, Try.ntmps23
  go_wp2
  go_ret
  exact ⟨rfl, rfl⟩

def applyL (l0 : List Int) (l1 : List S24) (is : List Nat) : List Int := is.foldl (fun (b : List Int) (i : Nat) => stepP b (rd_T24 l1 (i : Int))) l0
theorem applyL_length (l0 : List Int) (l1 : List S24) (is : List Nat) : (applyL l0 l1 is).length = l0.length := by
  unfold applyL
  induction is generalizing l0 with
  | nil => rfl
  | cons i is ih => rw [List.foldl_cons, ih, stepP_length]
theorem applyL_snoc (l0 : List Int) (l1 : List S24) (is : List Nat) (i : Nat) : applyL l0 l1 (is ++ [i]) = stepP (applyL l0 l1 is) (rd_T24 l1 i) := by
  unfold applyL
  rw [List.foldl_append]
  rfl
def patch_Apply.f (l0 : List Int) (l1 : List S24) (l2 : List Int) : Option (List Int) :=
  if l0.length < 140737488351232 ∧ l1.length ≤ 140737488351232 ∧ l2.length ≤ 140737488351232 ∧ l1.all okP = true then some (applyL l0 l1 (keptIdx l1 l2 l1.length)) else none

set_option maxRecDepth 100000 in
set_option maxHeartbeats 4000000 in
theorem patch_Apply.calls (A0 : Option Addr) (c0 : Nat) (l0 : List Int) (A1 : Option Addr) (c1 : Nat) (l1 : List (S24)) (A2 : Option Addr) (c2 : Nat) (l2 : List Int) (r : List Int) (w : World) (hr0 : Kd.C (Kd.int .u8) w A0 l0.length l0) (hc0 : l0.length ≤ c0) (hr1 : Kd.C k24 w A1 l1.length l1) (hc1 : l1.length ≤ c1) (hr2 : Kd.C (Kd.int .i64) w A2 l2.length l2) (hc2 : l2.length ≤ c2) (h : patch_Apply.f l0 l1 l2 = some r) :
    Calls Try.prog 15 #[.slice A0 l0.length c0, .slice A1 l1.length c1, .slice A2 l2.length c2] w fun e w' => ∃ v0_ : Value, e = .returned (v0_) ∧ Kd.R (Kd.int .u8) 5 w' w.heap.size (fun _ => True) v0_ r ∧ Below w.heap.size w w' := by
  unfold patch_Apply.f at h
  split at h
  case isFalse => cases h
  rename_i hok
  obtain ⟨hl0, hl1, hl2, hall⟩ := hok
  have hres := Option.some.inj h
  have HRES := Lib.hid hres
  have HC0 := Lib.hid hr0
  have HC1 := Lib.hid hr1
  have HC2 := Lib.hid hr2
  have HALL := Lib.hid hall
  have HF : Hid (slices_Clone_byte_byte.f l0 = some l0) := Lib.hid (by unfold slices_Clone_byte_byte.f; rw [if_pos hl0])
  clear h hres hr0 hr1 hr2 hall
  refine (callsIn_wide (n := 9)).1 ?_
  refine callsIn_of_wp_marks Try.func15 rfl trivial ?_ rfl
  simp only [Try.ntmps15, List.size_toArray, List.length_cons, List.length_nil, Nat.reduceAdd, Nat.reduceSub, Array.replicate_succ, Array.replicate_zero, List.push_toArray, List.append_toArray, List.nil_append, List.cons_append]
  gi_wp2_with (refine ⟨trivial, ?_⟩; first | (gi_at_call 22; refine (callsIn_wide.2 (slices_Clone_byte_byte.calls A0 c0 l0 l0 _ HC0.out hc0 HF.out)).mono ?_; rintro e w1 ⟨v1, rfl, ho1, hb1⟩; have HO1 := Lib.hid ho1; have HB1 := Lib.hid hb1; clear ho1 hb1; obtain ⟨Ab, cb, rfl⟩ := Kd.R_slice HO1.out) | (gi_at_call 23; refine (callsIn_wide.2 (kept_in A1 A2 l1.length c1 l2.length c2 _)).mono ?_; rintro e w' ⟨rfl, rfl⟩))
  obtain ⟨w5, hw5⟩ : ∃ w5, ((w1.alloc (.cells #[.slice Ab l0.length cb] 22)).alloc (.cells #[.slice A1 l1.length c1] 27)).alloc (.cells #[.slice A2 l2.length c2] 33) = w5 := ⟨_, rfl⟩
  have hsz : w5.heap.size = w1.heap.size + 3 := by rw [← hw5]; simp
  have hs1 : w.heap.size ≤ w1.heap.size := HB1.out.size
  have hB5 : Below w.heap.size w w5 := by
    rw [← hw5]
    exact ((HB1.out.alloc hs1 _).alloc (by simp; omega) _).alloc (by simp; omega) _
  have q0 : Boxed w5 w1.heap.size 22 (.slice Ab l0.length cb) := by rw [← hw5]; exact ((Boxed.new w1 22 _).alloc _).alloc _
  have q1 : Boxed w5 (w1.heap.size + 1) 27 (.slice A1 l1.length c1) := by
    rw [← hw5]
    have := Boxed.new (w1.alloc (.cells #[.slice Ab l0.length cb] 22)) 27 (.slice A1 l1.length c1)
    rw [World.size_alloc] at this
    exact this.alloc _
  have q2 : Boxed w5 (w1.heap.size + 1 + 1) 33 (.slice A2 l2.length c2) := by
    rw [← hw5]
    have := Boxed.new ((w1.alloc (.cells #[.slice Ab l0.length cb] 22)).alloc (.cells #[.slice A1 l1.length c1] 27)) 33 (.slice A2 l2.length c2)
    rwa [World.size_alloc, World.size_alloc] at this
  have qR : Kd.R (Kd.int .u8) 5 w5 w.heap.size (fun k => k < w1.heap.size) (.slice Ab l0.length cb) l0 := by
    rw [← hw5]
    exact Kd.R_mono (Kd.R_alloc (Kd.R_alloc (Kd.R_alloc (Kd.R_bound HO1.out) _) _) _) (fun _ hk => hk.2.2.1)
  rw [hw5]
  clear hw5
  have hG : KeptG (w1.heap.size + 1) (w1.heap.size + 1 + 1) c1 c2 A1 A2 l1 l2 w
      (fun W => Below w.heap.size w W ∧ Boxed W (w1.heap.size + 1) 27 (.slice A1 l1.length c1) ∧ Boxed W (w1.heap.size + 1 + 1) 33 (.slice A2 l2.length c2))
      (fun A B => Below w.heap.size A B ∧ ∀ b, w1.heap.size + 1 ≤ b → b < w1.heap.size + 3 → B.heap[b]? = A.heap[b]?) :=
    ⟨fun W h => h.2.1.cell, fun W h => h.2.2.cell, fun W h => h.1, fun W k h => ⟨pw_below_drewN h.1 k, h.2⟩, fun W x h => ⟨h.1.alloc h.1.size x, h.2.1.alloc x, h.2.2.alloc x⟩,
      fun A B h k => ⟨h.1.trans k.1, (k.2 _ (by omega) (by omega)).trans h.2.1, (k.2 _ (by omega) (by omega)).trans h.2.2⟩⟩
  refine wpIn_rangeFunc_ownH (F := Fence.wide) rfl (by omega) (gf := 28) (lb := #[.pointer (some ⟨w1.heap.size + 1, 0, none⟩), .pointer (some ⟨w1.heap.size + 1 + 1, 0, none⟩)]) rfl trivial (enters_of Try.func28 (by kernel_rfl) rfl)
    (encs := fun q : KEl w l1 => encP l1 q) (S := fun ys => ys.map (fun q => q.1.1) = keptIdx l1 l2 l1.length) (Sp := fun _ => True) (N := l1.length) (w0 := w5)
    (fun l J Jx W hW hJ _ hY h0 => kept1_in 8 (by omega) l _ _ c1 c2 A1 A2 l1 l2 w HC1.out HC2.out hc1 hc2 hl1 hl2 _ _ hG J Jx hY W
      ⟨hB5.trans (hW.mono (by omega)), (hW.block _ (by omega)).trans q1, (hW.block _ (by omega)).trans q2⟩ hJ h0)
    (fun h k => ⟨h.1.trans k.1, fun b h1 h2 => (k.2 b h1 h2).trans (h.2 b h1 h2)⟩)
    (fun W l o o' hl h1 h2 h3 => ⟨belowK_b (w := w5) (by omega) W l o o' hl h1 h2 h3, fun b hb1 hb2 => World.putObj_heap_other (by omega)⟩) (Below.refl _ _) (fun _ => rfl)
    (fun pre W => ((∃ v, Boxed W w1.heap.size 22 v ∧ Kd.R (Kd.int .u8) 5 W w.heap.size (fun k => k < w1.heap.size) v (applyL l0 l1 (pre.map (fun q => q.1.1))))) ∧ Below w.heap.size w W ∧ w5.heap.size ≤ W.heap.size)
    (fun c pre W => False)
    (OwnFrom.and (Own.from (fun s A B row hs hg hr => by
        obtain ⟨v, h1, h2⟩ := hs
        exact ⟨v, boxed_own _ _ (fun (_ : Unit) => v) () A B row h1 hg hr, R_noncells h2 hg hr⟩) _) (OwnFrom.and (ownFrom_below (Nat.le_refl _) (by omega)) (fun s A B row hs hg hr => Nat.le_trans hs hg.size)))
    (fun c s A B row hs hg hr => hs)
    ⟨⟨_, q0, qR⟩, hB5, Nat.le_refl _⟩
    (fun x a' W => ∃ b, w5.heap.size ≤ b ∧ a' = { tmps := #[.slice A0 l0.length c0, .slice A1 l1.length c1, .slice A2 l2.length c2, undef, undef, undef, .slice none 0 0, .pointer (some ⟨w1.heap.size, 0, none⟩), .pointer (some ⟨b, 0, none⟩), undef, undef, undef, .slice A0 l0.length c0, .slice Ab l0.length cb, .slice A1 l1.length c1, .slice A2 l2.length c2, .func (.func 28) #[] #[.pointer (some ⟨w1.heap.size + 1, 0, none⟩), .pointer (some ⟨w1.heap.size + 1 + 1, 0, none⟩)], aggP l1 x.1.1 x.1.2.1 x.1.2.2, undef, undef, undef, undef, undef, undef, undef, undef, undef, undef, undef, undef, undef, undef, undef, undef, undef, undef, undef], defers := [] } ∧ W.heap[b]? = some (.cells #[.int .i64 (rd_T24 l1 x.1.1).f0, .int .i64 (rd_T24 l1 x.1.1).f1, .slice x.1.2.1 (rd_T24 l1 x.1.1).f2.length x.1.2.2] 24 (0, 0)))
    (fun x a' => Own.from (fun s A B row hs hg hr => by
      obtain ⟨b, h1, h2, h3⟩ := hs
      exact ⟨b, h1, h2, blk_grown h3 hg (fun e1 => by obtain ⟨o', ho, hc⟩ := hr _ e1.symm; rw [h3] at ho; cases ho; cases hc)⟩) _)
    ?assign ?body ?done ?stop
  case assign =>
    rintro l pre x W K ⟨⟨v, hv, hR⟩, hB, hsz6⟩ hK
    gi_wp2
    refine hK _ _ ((KeepsOthers.alloc _ _).from _) ⟨(Below.refl _ _).alloc (by omega) _, fun b h1 h2 => Below.heap_alloc _ _ _ (by omega)⟩ ⟨⟨v, hv.alloc _, Kd.R_alloc hR _⟩, hB.alloc (by omega) _, by simp; omega⟩ ⟨W.heap.size, hsz6, rfl, blk_new _ _⟩
  case body =>
    rintro l pre ⟨⟨i, Ap, cp⟩, hi, hlp, hCp⟩ a' W hl hrec ⟨⟨v, hv, hR⟩, hB, hsz6⟩ ⟨b, hb, rfl, hbk⟩ hlen
    dsimp only at hi hlp hCp hbk ⊢
    obtain ⟨zs, hzs⟩ : ∃ zs, applyL l0 l1 (pre.map (fun q => q.1.1)) = zs := ⟨_, rfl⟩
    have hzl : zs.length = l0.length := by rw [← hzs, applyL_length]
    rw [hzs] at hR
    have hokp : okP (rd_T24 l1 i) = true := by
      have := List.all_eq_true.1 HALL.out (rd_T24 l1 i) (by
        simp only [rd_T24, Int.toNat_natCast, List.getD_eq_getElem?_getD, List.getElem?_eq_getElem hi, Option.getD_some]
        exact List.getElem_mem _)
      exact this
    obtain ⟨f, t, s, hspan, g1, g2, g3, g4, hstep⟩ := span_tells zs (rd_T24 l1 i) hokp (by omega)
    have HSPAN := Lib.hid hspan
    have HSTEP := Lib.hid hstep
    have HZS := Lib.hid hzs
    have HZL := Lib.hid hzl
    have HCP := Lib.hid (Kd.C_below hCp hB)
    obtain ⟨Av, cv, rfl⟩ := Kd.R_slice hR
    have HR := Lib.hid hR
    have HB := Lib.hid hB
    have HV := Lib.hid hv
    have HBK := Lib.hid hbk
    have k7 := hv.cell
    have kb0 := (blk_cell hbk 0).trans rfl
    have kb1 := (blk_cell hbk 1).trans rfl
    have kb2 := (blk_cell hbk 2).trans rfl
    clear hrec hspan hstep hzs hzl hR hB hv hbk hokp
    gi_wp2_with (refine ⟨trivial, ?_⟩; gi_at_call 24; refine (CallsIn.inRound l (callsIn_wide.2 (patch_span.calls 3 (rd_T24 l1 i).f0 (rd_T24 l1 i).f1 Ap cp (rd_T24 l1 i).f2 zs.length f t s _ HCP.out hlp HSPAN.out))).mono ?_; rintro e W2 ⟨rfl, hd⟩; have HD := Lib.hid hd; have k72 := ((show Boxed W2 w1.heap.size 22 _ from (hd.block _ (by omega)).trans HV.out)).cell; have kb22 := (blk_cell ((hd.block _ (blk_lt HBK.out)).trans HBK.out) 2).trans rfl; clear hd)
    clear k7 kb0 kb1 kb2
    have hcap := (Kd.R_reads' HR.out).2.1
    have e1 : (f : Int) ≤ t := by omega
    have e2 : (t : Int) ≤ (cv : Int) := by omega
    have e3 : t ≤ cv := by omega
    have e4 : (s : Int) ≤ ((rd_T24 l1 i).f2.length : Int) := by omega
    have e5 : (t : Int) ≤ t := Int.le_refl _
    have e6 : t ≤ t := Nat.le_refl _
    have e7 : 0 ≤ (f : Int) := by omega
    have e8 : 0 ≤ (s : Int) := by omega
    obtain ⟨W3, hrun, hR3, hg3⟩ := copy_row (P := Try.prog) (dT := 22) (sT := 22) (ty := 3) (elem := 5) Try.underlying22 (by kernel_rfl) (W := W2.drew) (Kd.R_drew (Kd.R_below HR.out HD.out)) g1 g2 (Kd.C_drew (Kd.C_below HCP.out HD.out)) g3 hlp g4
    have HR3 := Lib.hid hR3
    have HG3 := Lib.hid hg3
    clear hR3 hg3
    refine region_in_round (by kernel_rfl) (by kernel_rfl) (fun ⟨_, _, hx⟩ => hx) (wpAny_of_last (S := fun w' => w'.cell? ⟨w1.heap.size, 0, none⟩ = some (.slice Av zs.length cv) ∧ w'.cell? ⟨b, 2, none⟩ = some (.slice Ap (rd_T24 l1 i).f2.length cp)) (ds := [9]) 10 #[false, false, false, false, false, false, false, false, false, false] _ _ ?_)
    have hHeld : W2.drew.cell? ⟨w1.heap.size, 0, none⟩ = some (.slice Av zs.length cv) ∧ W2.drew.cell? ⟨b, 2, none⟩ = some (.slice Ap (rd_T24 l1 i).f2.length cp) := ⟨k72, kb22⟩
    refine take_ (i := 0) (N := some 26) (v := ?_) (a' := ?_) #[true, false, false, false, false, false, false, false, false, false] rfl rfl (by kernel_rfl) (fun _ _ _ h => h) (Or.inl ⟨by rfl, ?_⟩) hHeld ?_ ?_
    rotate_left
    · rintro w' ⟨s0, s1⟩
      go_simp
      with_reducible rfl
    rotate_left
    · simp only [Act.put, List.setIfInBounds_toArray, List.set_cons_zero, List.set_cons_succ, i64_w, i32_w]
      rfl
    refine pure_ (i := 1) (N := some 27) (v := ?_) (a' := ?_) #[true, true, false, false, false, false, false, false, false, false] rfl rfl (by kernel_rfl) (fun _ _ _ h => h) (Or.inl ⟨by rfl, ?_⟩) ?_ ?_
    rotate_left
    · intro w'
      go_simp
      with_reducible rfl
    rotate_left
    · simp only [Act.put, List.setIfInBounds_toArray, List.set_cons_zero, List.set_cons_succ, i64_w, i32_w]
      rfl
    refine pure_ (i := 2) (N := some 28) (v := ?_) (a' := ?_) #[true, true, true, false, false, false, false, false, false, false] rfl rfl (by kernel_rfl) (fun _ _ _ h => h) (Or.inl ⟨by rfl, ?_⟩) ?_ ?_
    rotate_left
    · intro w'
      go_simp
      with_reducible rfl
    rotate_left
    · simp only [Act.put, List.setIfInBounds_toArray, List.set_cons_zero, List.set_cons_succ, i64_w, i32_w]
      rfl
    refine pure_ (i := 3) (N := some 29) (v := ?_) (a' := ?_) #[true, true, true, true, false, false, false, false, false, false] rfl rfl (by kernel_rfl) (fun _ _ _ h => h) (Or.inl ⟨by rfl, ?_⟩) ?_ ?_
    rotate_left
    · intro w'
      go_simp
      with_reducible rfl
    rotate_left
    · simp only [Act.put, List.setIfInBounds_toArray, List.set_cons_zero, List.set_cons_succ, i64_w, i32_w]
      rfl
    refine pure_ (i := 4) (N := some 30) (v := ?_) (a' := ?_) #[true, true, true, true, true, false, false, false, false, false] rfl rfl (by kernel_rfl) (fun _ _ _ h => h) (Or.inl ⟨by rfl, ?_⟩) ?_ ?_
    rotate_left
    · intro w'
      go_simp
      with_reducible rfl
    rotate_left
    · simp only [Act.put, List.setIfInBounds_toArray, List.set_cons_zero, List.set_cons_succ, i64_w, i32_w]
      rfl
    refine pure_ (i := 5) (N := some 31) (v := ?_) (a' := ?_) #[true, true, true, true, true, true, false, false, false, false] rfl rfl (by kernel_rfl) (fun _ _ _ h => h) (Or.inl ⟨by rfl, ?_⟩) ?_ ?_
    rotate_left
    · intro w'
      go_simp
      with_reducible rfl
    rotate_left
    · simp only [Act.put, List.setIfInBounds_toArray, List.set_cons_zero, List.set_cons_succ, i64_w, i32_w]
      rfl
    refine take_ (i := 6) (N := some 32) (v := ?_) (a' := ?_) #[true, true, true, true, true, true, true, false, false, false] rfl rfl (by kernel_rfl) (fun _ _ _ h => h) (Or.inl ⟨by rfl, ?_⟩) hHeld ?_ ?_
    rotate_left
    · rintro w' ⟨s0, s1⟩
      go_simp
      with_reducible rfl
    rotate_left
    · simp only [Act.put, List.setIfInBounds_toArray, List.set_cons_zero, List.set_cons_succ, i64_w, i32_w]
      rfl
    refine pure_ (i := 7) (N := some 33) (v := ?_) (a' := ?_) #[true, true, true, true, true, true, true, true, false, false] rfl rfl (by kernel_rfl) (fun _ _ _ h => h) (Or.inl ⟨by rfl, ?_⟩) ?_ ?_
    rotate_left
    · intro w'
      go_simp
      with_reducible rfl
    rotate_left
    · simp only [Act.put, List.setIfInBounds_toArray, List.set_cons_zero, List.set_cons_succ, i64_w, i32_w]
      rfl
    refine pure_ (i := 8) (N := some 34) (v := ?_) (a' := ?_) #[true, true, true, true, true, true, true, true, true, false] rfl rfl (by kernel_rfl) (fun _ _ _ h => h) (Or.inl ⟨by rfl, ?_⟩) ?_ ?_
    rotate_left
    · intro w'
      go_simp
      with_reducible rfl
    rotate_left
    · simp only [Act.put, List.setIfInBounds_toArray, List.set_cons_zero, List.set_cons_succ, i64_w, i32_w]
      rfl
    refine last_ (i := 9) (N := some 35) #[true, true, true, true, true, true, true, true, true, true] rfl rfl (by kernel_rfl) (by decide) (fun K hK => ?_)
    refine value_ (by rfl) rfl (v := .int .i64 ((t - f : Nat) : Int)) (w1 := W3) ?_ (hK.out _ _ ?_)
    · simp [execOp, resolve, invoke, builtin, Act.eval, hrun, Result.andThen]
      rfl
    refine done_ (by kernel_rfl) ?_
    all_goals
      have hd := HD.out
      have hg3 := HG3.out
      have hown := (Kd.R_below HR.out hd).1
      have hz2 := hd.size
      have hz3 : W2.heap.size ≤ W3.heap.size := hg3.size
      have hrow : ∀ b', some b' = (Value.slice Av zs.length cv).ownBlock → b' < w1.heap.size := fun b' e => HR.out.1 b' e.symm
      have hrow2 : ∀ b', some b' = (Value.slice Av zs.length cv).ownBlock → w.heap.size ≤ b' := fun b' e => by
        obtain ⟨inner, ho⟩ := Kd.R_own HR.out
        exact own_base ho b' e.symm
      have hblk : ∀ b', w1.heap.size ≤ b' → b' < W.heap.size → W3.heap[b']? = W.heap[b']? := fun b' h1 h2 => (hg3.block b' (show b' < W2.heap.size by omega) (fun e => by have := hrow b' e; omega)).trans (hd.block b' h2)
      refine ⟨(((keeps_below hd).trans (KeepsOthers.drew _)).trans (keeps_R (Kd.R_drew (Kd.R_below HR.out hd)) hg3)).from _, ⟨?_, fun b' h1 h2 => hblk b' (by omega) (by omega)⟩, ⟨_, (hblk _ (Nat.le_refl _) (by omega)).trans HV.out, ?_⟩, ?_, by omega⟩
      · exact (below_drew (hd.mono (by omega))).grown hg3 (show w.heap.size ≤ W2.heap.size by omega) (fun k hk => hrow2 k hk.symm)
      · rw [List.map_append, List.map_cons, List.map_nil, applyL_snoc, HZS.out, HSTEP.out]
        have hll : (splice zs f (List.take (t - f) (List.drop s (rd_T24 l1 (i : Int)).f2))).length = zs.length := by
          rw [← HSTEP.out, stepP_length]
        have hq := HR3.out
        rw [splice_go] at hq
        exact hq
      · exact (below_drew (HB.out.trans (hd.mono (by have := HB.out.size; omega)))).grown hg3 (show w.heap.size ≤ W2.heap.size by have := HB.out.size; omega) (fun k hk => hrow2 k hk.symm)
  case done =>
    rintro D ys W hD hys ⟨⟨v, hv, hR⟩, hB, hsz6⟩ hK
    rw [hys, HRES.out] at hR
    have hvc := hv.cell
    obtain ⟨Ap, cp, rfl⟩ := Kd.R_slice hR
    gi_wp2
    refine ⟨by simp, .inl ⟨_, _, rfl, run_takeDeferred hK, ?_⟩⟩
    refine ⟨.slice Ap r.length cp, ?_, ⟨_, rfl, R_noncells (Kd.R_mono hR (fun _ _ => trivial)) (grownBy_putObj' _ D (.deferred none)) (fun r e => by cases e; exact ⟨_, hK, rfl⟩), hB.trans (belowK_b (w := w) (Nat.le_refl _) W D _ _ (by omega) hK rfl rfl)⟩⟩
    simp [results, Try.f15, go_sem]
  case stop =>
    rintro D c pre W hD hpre h hK
    exact h.elim
end Go.Proofs.Ytemachlhoanngaa.Given
