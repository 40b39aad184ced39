/- alloc.New: all is free. -/
import Derived.Test.YtppjeikkodjjhaaSteps
import Derived.Test.YtppjeikkodjjhaaA5
namespace Go.Proofs.Ytppjeikkodjjhaa.Given
open Go.RowKit Go.Shelf Go.Proofs.YtppjeikkodjjhaaW.PrintWords Go.Proofs.YtppjeikkodjjhaaW.PrintLast Go.Proofs.YtppjeikkodjjhaaW.PrintMore Go.Proofs.YtppjeikkodjjhaaBase Go.Proofs.Ytppjeikkodjjhaa.PGeo Go.Proofs.Ytppjeikkodjjhaa.PGet Go.Proofs.Ytppjeikkodjjhaa.PWith
set_option linter.unusedVariables false
set_option linter.unusedSimpArgs false

theorem madeR (W : World) (m : Nat) (z : Int) (hz : z = m) (hm : m < 1000000000) :
    ∃ W', (Instr.makeSlice 44 (.int .i64 z) (.int .i64 z)).run Try.prog W = .ok (.slice (some ⟨W.heap.size, 0, none⟩) m m) W' ∧ Kd.R (Kd.int .u8) 5 W' W.heap.size (fun _ => True) (.slice (some ⟨W.heap.size, 0, none⟩) m m) (List.replicate m 0) ∧ Below W.heap.size W W' := by
  subst hz
  have h1 := print_make_int (P := Try.prog) 44 5 (.int .u8 0) 1 Try.underlying44 info5 rfl (by decide) (m : Int) (by omega) (by omega) W
  rw [Int.toNat_natCast] at h1
  refine ⟨_, h1, ?_, below_alloc (Below.refl _ _) _⟩
  have ho := own_made' W W.heap.size 5 .u8 m (Nat.le_refl _) (by omega)
  exact Kd.R_of_own (enc := Value.int .u8) (h1 := fun _ => rfl) ho (ok := fun _ => True) (fun i hi => trivial)
theorem info54 : (Try.prog.info? 54).map (fun i => (i.zero, i.size, i.bytes)) = some (some (.agg #[.slice none 0 0, .slice none 0 0]), 2, 48) := by kernel_rfl
/-- a group of which all is free -/
def newG (q : Nat) : S54 := ⟨List.replicate 8 0, List.replicate ((q + 7) / 8) 0⟩

set_option maxRecDepth 100000 in
set_option maxHeartbeats 400000 in
theorem new_not (gr i d : Int) (w : World) (h : ¬ Fine gr i d) :
    Calls Try.prog 8 #[.agg #[.int .i64 gr, .int .i64 i, .int .i64 d]] w fun e w' => ∃ g, e = .returned (.pointer (some ⟨g, 0, none⟩)) ∧ IsA w.heap.size (fun k => w.heap.size ≤ k) w' g gr i d [] ∧ Below w.heap.size w w' := by
  have HC := Lib.hid (check_not h)
  clear h
  go_enter Try.func8, Try.ntmps8
  go_wp2_with (first | (go_at_call 26; refine (geom_Check.calls gr i d _ _ HC.out).mono ?_; rintro e w1 ⟨rfl, hb⟩; have HB := Lib.hid hb; clear hb))
  go_ret
  have h1 := Boxed.new w 24 (.int .i64 0)
  have hb0 := blk_new (w.alloc (.cells #[.int .i64 gr, .int .i64 i, .int .i64 d] 24)) (.cells #[.int .i64 gr, .int .i64 i, .int .i64 d, .slice none 0 0] 50)
  rw [World.size_alloc] at hb0
  have hbb : Below w.heap.size w ((w.alloc (.cells #[.int .i64 gr, .int .i64 i, .int .i64 d] 24)).alloc (.cells #[.int .i64 gr, .int .i64 i, .int .i64 d, .slice none 0 0] 50)) := ((Below.refl _ w).alloc (Nat.le_refl _) _).alloc (by simp) _
  refine ⟨_, rfl, ⟨.slice none 0 0, (HB.out.block _ (blk_lt hb0)).trans hb0, ⟨by omega, by omega⟩, Kd.R_nil _ _ _ _ _⟩, hbb.trans (HB.out.mono hbb.size)⟩

/-- ahead of a round: k groups are made -/
def NewI (w : World) (gr i d : Int) (q k : Nat) (W : World) : Prop :=
  W.heap[w.heap.size]? = some (.cells #[.int .i64 gr, .int .i64 i, .int .i64 d] 24 (0, 0)) ∧ IsA w.heap.size (fun k => w.heap.size + 1 ≤ k) W (w.heap.size + 1) gr i d (List.replicate k (newG q)) ∧ Below w.heap.size w W
set_option maxRecDepth 100000 in
set_option maxHeartbeats 400000 in
theorem new_fine (gr i d : Int) (n q : Nat) (w : World) (h : Fine gr i d) (hn : gr = (n : Int)) (hq : d = (q : Int)) :
    Calls Try.prog 8 #[.agg #[.int .i64 gr, .int .i64 i, .int .i64 d]] w fun e w' => ∃ g, e = .returned (.pointer (some ⟨g, 0, none⟩)) ∧ IsA w.heap.size (fun k => w.heap.size ≤ k) w' g gr i d (List.replicate n (newG q)) ∧ Below w.heap.size w w' := by
  have HC := Lib.hid (check_fine h)
  obtain ⟨h1, h2, h3, h4, h5, h6⟩ := h
  have hn8 : n ≤ 8 := by omega
  have hq0 : (0 : Int) ≤ (q : Int) := by omega
  have hq1 : q ≤ 1000 := by omega
  subst hn hq
  clear h1 h2 h3 h4 h5 h6
  have HBLK : Hid (∀ w1, Below ((w.alloc (.cells #[.int .i64 (n : Int), .int .i64 i, .int .i64 (q : Int)] 24)).alloc (.cells #[.int .i64 (n : Int), .int .i64 i, .int .i64 (q : Int), .slice none 0 0] 50)).heap.size ((w.alloc (.cells #[.int .i64 (n : Int), .int .i64 i, .int .i64 (q : Int)] 24)).alloc (.cells #[.int .i64 (n : Int), .int .i64 i, .int .i64 (q : Int), .slice none 0 0] 50)) w1 →
      w1.heap[w.heap.size]? = some (.cells #[.int .i64 (n : Int), .int .i64 i, .int .i64 (q : Int)] 24 (0, 0))) := Lib.hid (fun w1 hb => (hb.block w.heap.size (by simp only [World.size_alloc]; omega)).trans (blk_alloc (blk_new w (.cells #[.int .i64 (n : Int), .int .i64 i, .int .i64 (q : Int)] 24)) _))
  go_enter Try.func8, Try.ntmps8
  go_wp2_with (first | (go_at_call 26; refine (geom_Check.calls (n : Int) i (q : Int) _ _ HC.out).mono ?_; rintro e w1 ⟨rfl, hb⟩; have HB := Lib.hid hb; have hz1 := hb.size; have hp0 := HBLK.out _ hb; have p0 : w1.cell? ⟨w.heap.size, 0, none⟩ = some (.int .i64 (n : Int)) := (blk_cell hp0 0).trans rfl; have HP0 := Lib.hid hp0; clear hb hp0))
  have hb0 := blk_new (w.alloc (.cells #[.int .i64 (n : Int), .int .i64 i, .int .i64 (q : Int)] 24)) (.cells #[.int .i64 (n : Int), .int .i64 i, .int .i64 (q : Int), .slice none 0 0] 50)
  rw [World.size_alloc] at hb0
  have hbb : Below w.heap.size w ((w.alloc (.cells #[.int .i64 (n : Int), .int .i64 i, .int .i64 (q : Int)] 24)).alloc (.cells #[.int .i64 (n : Int), .int .i64 i, .int .i64 (q : Int), .slice none 0 0] 50)) := ((Below.refl _ w).alloc (Nat.le_refl _) _).alloc (by simp) _
  have hst : NewI w (n : Int) i (q : Int) q 0 w1 := ⟨HP0.out, ⟨.slice none 0 0, (HB.out.block _ (blk_lt hb0)).trans hb0, ⟨by omega, by omega⟩, Kd.R_nil _ _ _ _ _⟩, hbb.trans (HB.out.mono hbb.size)⟩
  go_loopw [13] (fun j wr => ∃ k : Nat, k ≤ n ∧ j = .int .i64 (k : Int) ∧ NewI w (n : Int) i (q : Int) q k wr) (fun j _ => n - (intOf j).toNat)
  case atStart => exact ⟨0, Nat.zero_le _, rfl, hst⟩
  case round =>
    obtain ⟨k, hk, rfl, hbx, hA, hB⟩ := hrel
    clear hst hbb hb0 p0 HB HP0
    by_cases hlt : k < n
    · have hki : (k : Int) < (n : Int) := by omega
      have hk0 : (0 : Int) ≤ (k : Int) := by omega
      have HBX := Lib.hid hbx
      obtain ⟨v, hI, hg, hR⟩ := hA
      have HI := Lib.hid hI
      have HR := Lib.hid hR
      have HB := Lib.hid hB
      have hszw : w.heap.size + 2 ≤ wr.heap.size := hI.lt
      clear hbx hI hg hR hB
      go_wp2
      have hS0 : wr.drew.cell? ⟨w.heap.size + 1, 3, none⟩ = some v ∧ wr.drew.cell? ⟨w.heap.size, 2, none⟩ = some (.int .i64 (q : Int)) := ⟨HI.out.c3, (blk_cell HBX.out 2).trans rfl⟩
      have HBV : Hid (Below wr.heap.size wr wr.drew) := Lib.hid (below_drew (Below.refl _ _))
      have u1 : wrap64 ((q : Int) + 7) = (q : Int) + 7 := by unfold wrap64; omega
      have u2 : wrap64 (((q : Int) + 7).tdiv 8) = (((q + 7) / 8 : Nat) : Int) := by rw [Int.tdiv_eq_ediv_of_nonneg (by omega)]; unfold wrap64; omega
      have u3 : wrap64 (((q : Int) + 7) / 8) = (((q + 7) / 8 : Nat) : Int) := by unfold wrap64; omega
      have U1 := Lib.hid u1
      have U2 := Lib.hid u2
      have U3 := Lib.hid u3
      clear u1 u2 u3
      refine start_ (n := 17) (S := fun w' => w'.cell? ⟨w.heap.size + 1, 3, none⟩ = some v ∧ w'.cell? ⟨w.heap.size, 2, none⟩ = some (.int .i64 (q : Int))) (ds := [16]) #[false, false, false, false, false, false, false, false, false, false, false, false, false, false, false, false, false] (by kernel_rfl) rfl rfl hS0 (fun hHeld => ?_)
      generalize wr.drew = V at hS0 HBV hHeld ⊢
      refine pu_ 0 (some 15) (bm 17 1) ?_ (ha := by simp only [Act.put, List.setIfInBounds_toArray, List.set_cons_zero, List.set_cons_succ, i64_w, i32_w, U1.out, U2.out, U3.out]; rfl)
      refine pu_ 1 (some 16) (bm 17 3) ?_ (ha := by simp only [Act.put, List.setIfInBounds_toArray, List.set_cons_zero, List.set_cons_succ, i64_w, i32_w, U1.out, U2.out, U3.out]; rfl)
      refine pu_ 2 (some 17) (bm 17 7) ?_ (ha := by simp only [Act.put, List.setIfInBounds_toArray, List.set_cons_zero, List.set_cons_succ, i64_w, i32_w, U1.out, U2.out, U3.out]; rfl)
      refine pu_ 3 (some 18) (bm 17 15) ?_ (ha := by simp only [Act.put, List.setIfInBounds_toArray, List.set_cons_zero, List.set_cons_succ, i64_w, i32_w, U1.out, U2.out, U3.out]; rfl)
      refine tk2_ 4 (some 19) (bm 17 31) hHeld ?_ (ha := by simp only [Act.put, List.setIfInBounds_toArray, List.set_cons_zero, List.set_cons_succ, i64_w, i32_w, U1.out, U2.out, U3.out]; rfl)
      refine pu_ 6 (some 21) (bm 17 95) ?_ (ha := by simp only [Act.put, List.setIfInBounds_toArray, List.set_cons_zero, List.set_cons_succ, i64_w, i32_w, U1.out, U2.out, U3.out]; rfl)
      refine tk2_ 7 (some 22) (bm 17 223) hHeld ?_ (ha := by simp only [Act.put, List.setIfInBounds_toArray, List.set_cons_zero, List.set_cons_succ, i64_w, i32_w, U1.out, U2.out, U3.out]; rfl)
      refine pu_ 8 (some 23) (bm 17 479) ?_ (ha := by simp only [Act.put, List.setIfInBounds_toArray, List.set_cons_zero, List.set_cons_succ, i64_w, i32_w, U1.out, U2.out, U3.out]; rfl)
      refine pu_ 9 (some 24) (bm 17 991) ?_ (ha := by simp only [Act.put, List.setIfInBounds_toArray, List.set_cons_zero, List.set_cons_succ, i64_w, i32_w, U1.out, U2.out, U3.out]; rfl)
      refine join_ (σ := Value × Value) 6 (bm 17 2047) (fun s => [(20, s.1), (25, s.2)]) (fun s W' => (Kd.R (Kd.int .u8) 5 W' V.heap.size (fun _ => True) s.1 (List.replicate 8 0) ∧ Kd.R (Kd.int .u8) 5 W' V.heap.size (fun _ => True) s.2 (List.replicate ((q + 7) / 8) 0)) ∧ Below V.heap.size V W') ?_ ?_
      rotate_left
      · intro hcont
        have hs8 : ((8 : Nat) : Int) = 8 := rfl
        refine two_ (i := 5) (j := 10) (Ni := some 20) (Nj := some 25) (bm 17 1023) (bm 17 2015) rfl rfl rfl rfl (by kernel_rfl) (by decide) (by decide) (fun K hK => ?_) (fun K hK => ?_)
        · obtain ⟨Wa, ha, hRa, hba⟩ := madeR V 8 8 rfl (by decide)
          refine value_ (w1 := Wa) (v := .slice (some ⟨V.heap.size, 0, none⟩) 8 8) (by rfl) rfl (by go_simp) ?_
          refine hK.out _ _ ⟨pw_cell_below hba hHeld.1, pw_cell_below hba hHeld.2⟩ (fun hHeld => ?_)
          clear hK K
          refine one_ (i := 10) (N := some 25) (bm 17 2047) rfl rfl (by kernel_rfl) (by decide) (fun K hK => ?_)
          obtain ⟨Wb, hb', hRb, hbb⟩ := madeR Wa ((q + 7) / 8) (((q : Int) + 7) / 8) (by omega) (by omega)
          refine value_ (w1 := Wb) (v := .slice (some ⟨Wa.heap.size, 0, none⟩) ((q + 7) / 8) ((q + 7) / 8)) (by rfl) rfl (by go_simp) ?_
          refine hK.out _ _ ⟨pw_cell_below hbb hHeld.1, pw_cell_below hbb hHeld.2⟩ (fun hHeld => ?_)
          clear hK K
          exact norm_ (by rfl) (hcont (.slice (some ⟨V.heap.size, 0, none⟩) 8 8, .slice (some ⟨Wa.heap.size, 0, none⟩) ((q + 7) / 8) ((q + 7) / 8)) Wb ⟨⟨Kd.R_below hRa hbb, Kd.R_lower hRb hba.size⟩, hba.trans (hbb.mono hba.size)⟩)
        · obtain ⟨Wa, ha, hRa, hba⟩ := madeR V ((q + 7) / 8) (((q : Int) + 7) / 8) (by omega) (by omega)
          refine value_ (w1 := Wa) (v := .slice (some ⟨V.heap.size, 0, none⟩) ((q + 7) / 8) ((q + 7) / 8)) (by rfl) rfl (by go_simp) ?_
          refine hK.out _ _ ⟨pw_cell_below hba hHeld.1, pw_cell_below hba hHeld.2⟩ (fun hHeld => ?_)
          clear hK K
          refine one_ (i := 5) (N := some 20) (bm 17 2047) rfl rfl (by kernel_rfl) (by decide) (fun K hK => ?_)
          obtain ⟨Wb, hb', hRb, hbb⟩ := madeR Wa 8 8 rfl (by decide)
          refine value_ (w1 := Wb) (v := .slice (some ⟨Wa.heap.size, 0, none⟩) 8 8) (by rfl) rfl (by go_simp) ?_
          refine hK.out _ _ ⟨pw_cell_below hbb hHeld.1, pw_cell_below hbb hHeld.2⟩ (fun hHeld => ?_)
          clear hK K
          exact norm_ (by rfl) (hcont (.slice (some ⟨Wa.heap.size, 0, none⟩) 8 8, .slice (some ⟨V.heap.size, 0, none⟩) ((q + 7) / 8) ((q + 7) / 8)) Wb ⟨⟨Kd.R_lower hRb hba.size, Kd.R_below hRa hbb⟩, hba.trans (hbb.mono hba.size)⟩)
      rintro ⟨v20, v25⟩ V1 ⟨⟨hR20, hR25⟩, hb1⟩
      obtain ⟨A20, c20, rfl⟩ := Kd.R_slice hR20
      obtain ⟨A25, c25, rfl⟩ := Kd.R_slice hR25
      simp only [List.length_replicate]
      have hHeld1 : V1.cell? ⟨w.heap.size + 1, 3, none⟩ = some v ∧ V1.cell? ⟨w.heap.size, 2, none⟩ = some (.int .i64 (q : Int)) := ⟨pw_cell_below hb1 hHeld.1, pw_cell_below hb1 hHeld.2⟩
      have hHeld := hHeld1
      refine norm_ (a' := ?_) ?_ ?_
      rotate_left
      · simp only [putAll, Act.put, List.setIfInBounds_toArray, List.set_cons_zero, List.set_cons_succ]
        rfl
      refine pu_ 11 (some 26) (bm 17 4095) ?_ (ha := by simp only [Act.put, List.setIfInBounds_toArray, List.set_cons_zero, List.set_cons_succ, i64_w, i32_w, U1.out, U2.out, U3.out]; rfl)
      simp only [List.length_replicate] at hR20 hR25
      refine one_ (i := 12) (N := some 27) (bm 17 8191) rfl rfl (by kernel_rfl) (by decide) (fun K hK => ?_)
      refine value_ (w1 := ?_) (v := ?_) (by rfl) rfl ?_ ?_
      rotate_left 2
      · go_simp
        constructor
        · rfl
        · rfl
      refine hK.out _ _ ⟨(World.cell?_alloc_lt _ _ _ (World.block_lt_of_cell? _ _ hHeld1.1)).trans hHeld1.1, (World.cell?_alloc_lt _ _ _ (World.block_lt_of_cell? _ _ hHeld1.2)).trans hHeld1.2⟩ (fun hHeld => ?_)
      clear hK K
      refine norm_ (a' := ?_) ?_ ?_
      rotate_left
      · show Act.put _ (some 27) _ = _
        simp only [Act.put, List.setIfInBounds_toArray, List.set_cons_zero, List.set_cons_succ, i64_w, i32_w, U1.out, U2.out, U3.out]
        rfl
      refine one_ (i := 13) (N := some 28) (bm 17 16383) rfl rfl (by kernel_rfl) (by decide) (fun K hK => ?_)
      have hvlt := Kd.R_lt HR.out
      have hwv := HBV.out.size
      have hv1 := hb1.size
      have hRV := Kd.R_below HR.out (HBV.out.trans (hb1.mono hwv))
      have hIV : IsAB V1 (w.heap.size + 1) (n : Int) i (q : Int) v := HI.out.below (HBV.out.trans (hb1.mono hwv))
      have hxV : V1.heap[w.heap.size]? = some (.cells #[.int .i64 (n : Int), .int .i64 i, .int .i64 (q : Int)] 24 (0, 0)) := ((HBV.out.trans (hb1.mono hwv)).block _ (by omega)).trans HBX.out
      refine Kd.R_append_step k54 (w0 := V1) w.heap.size (by rfl) (.tmp 19) (.tmp 27) 48 54 (.agg #[.slice none 0 0, .slice none 0 0]) 48 (by rfl) Try.underlying48 info54 rfl (by decide) (by omega) v (List.replicate k (newG q)) (newG q) [.slice A20 8 c20, .slice A25 ((q + 7) / 8) c25] (fun k => w.heap.size + 1 ≤ k) (fun k => V.heap.size ≤ k) (by rfl) (by rfl) (k54_mkM V1 _ _ (newG q) (Kd.R_mono (Kd.R_lower (Kd.R_bound hR20) (by omega)) (fun k hk => hk.2.1)) (Kd.R_mono (Kd.R_lower (Kd.R_bound hR25) (by omega)) (fun k hk => hk.2.1))) (fun k_ hk_ => ⟨by omega, fun e => by have := hvlt k_ e.symm; omega⟩) (fun k_ hk_ => by omega) hRV (Below.refl _ _) (by omega) (by rw [List.length_replicate]; omega) ?_
      intro v10 w10 ho10 hb10 hg10 hat10
      obtain ⟨A10, c10, hv10⟩ := Kd.R_slice ho10
      subst hv10
      have hn1 : some (w.heap.size + 1) ≠ v.ownBlock := Kd.R_ne hRV hIV (by decide)
      have hn2 : some w.heap.size ≠ v.ownBlock := Kd.R_ne hRV hxV (by decide)
      have hI10 : IsAB w10 (w.heap.size + 1) (n : Int) i (q : Int) v := hIV.grown hg10 hn1
      have hx10 := blk_grown hxV hg10 hn2
      have hfz := blk_frozen hI10 3
      have HEND : Hid (NewI w (n : Int) i (q : Int) q (k + 1) (w10.setCell ⟨w.heap.size + 1, 3, none⟩ (.slice A10 (List.replicate k (newG q) ++ [newG q]).length c10))) := Lib.hid ⟨(Below.heap_setCell _ _ _ _ (by simp only; omega)).trans hx10, ⟨_, hI10.set3 _, ⟨by omega, by omega⟩, by rw [List.replicate_succ']; exact Kd.R_set ho10 hI10 (by decide) 3 _⟩, (((HB.out.trans ((HBV.out.trans (hb1.mono hwv)).mono (by omega))).grown hg10 (by omega) (fun k_ hk_ => by have := Kd.R_base HR.out k_ hk_; omega))).setCell (by simp only; omega) _⟩
      refine hK.out _ _ ⟨(hI10.c3), (blk_cell hx10 2).trans rfl⟩ (fun hHeld => ?_)
      clear hK K
      refine norm_ (a' := ?_) ?_ ?_
      rotate_left
      · show Act.put _ (some 28) _ = _
        simp only [Act.put, List.setIfInBounds_toArray, List.set_cons_zero, List.set_cons_succ, i64_w, i32_w, U1.out, U2.out, U3.out]
        rfl
      refine pu_ 14 (some 29) (bm 17 32767) ?_ (ha := by simp only [Act.put, List.setIfInBounds_toArray, List.set_cons_zero, List.set_cons_succ, i64_w, i32_w, U1.out, U2.out, U3.out]; rfl)
      refine pu_ 15 (some 30) (bm 17 65535) ?_ (ha := by simp only [Act.put, List.setIfInBounds_toArray, List.set_cons_zero, List.set_cons_succ, i64_w, i32_w, U1.out, U2.out, U3.out]; rfl)
      refine last_ (i := 16) (N := none) (bm 17 131071) rfl rfl (by kernel_rfl) (by decide) (fun K hK => ?_)
      refine skip_ (w1 := ?_) (by rfl) rfl ?_ ?_
      rotate_left
      · go_simp
        rfl
      refine hK.out _ _ ?_
      clear hK K
      refine done_ (by kernel_rfl) ?_
      simp only [List.length_append, List.length_replicate, List.length_cons, List.length_nil, Nat.zero_add] at HEND ⊢
      generalize w10.setCell ⟨w.heap.size + 1, 3, none⟩ (.slice A10 (k + 1) c10) = W9 at HEND ⊢
      clear hHeld hfz hI10 hx10 hn1 hn2 ho10 hb10 hg10 hat10 hIV hxV hRV hvlt hwv hv1 hHeld1 hb1 hR20 hR25 hS0
      go_wp2
      go_roundw
      case rel => exact ⟨k + 1, by omega, by go_num, HEND.out⟩
      case measure => simp [intOf]; omega
    · obtain rfl : k = n := by omega
      go_wp2
      go_ret
      exact ⟨_, rfl, hA.mono (fun k hk => by omega), hB⟩
end Go.Proofs.Ytppjeikkodjjhaa.Given
