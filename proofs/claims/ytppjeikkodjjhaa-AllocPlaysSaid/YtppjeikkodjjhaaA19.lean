/- The reference's NewAlloc. -/
import Derived.Test.YtppjeikkodjjhaaSteps
import Derived.Test.YtppjeikkodjjhaaA18
namespace Go.Proofs.Ytppjeikkodjjhaa.Given
open Go.RowKit Go.Shelf Go.Proofs.YtppjeikkodjjhaaW.PrintWords Go.Proofs.YtppjeikkodjjhaaW.PrintLast Go.Proofs.YtppjeikkodjjhaaW.PrintMore Go.Proofs.YtppjeikkodjjhaaBase Go.Proofs.Ytppjeikkodjjhaa.PGeo Go.Proofs.Ytppjeikkodjjhaa.PGet Go.Proofs.Ytppjeikkodjjhaa.PWith
set_option linter.unusedVariables false
set_option linter.unusedSimpArgs false

set_option maxRecDepth 100000 in
set_option maxHeartbeats 2000000 in
theorem rNew (gr i d : Int) (N M : Nat) (w : World) (hin : lockgateref1_Inodes.f gr i d = some (N : Int)) (hbn : lockgateref1_Blocks.f gr i d = some (M : Int)) (hN : N ≤ 100000) (hM : M ≤ 100000) :
    Calls Try.prog 18 #[.agg #[.int .i64 gr, .int .i64 i, .int .i64 d]] w fun e w' => ∃ g Bi Bb, e = .returned (.pointer (some ⟨g, 0, none⟩)) ∧ IsR w' g Bi Bb gr i d (List.replicate N false) (List.replicate M false) ∧ (w.heap.size ≤ g ∧ w.heap.size ≤ Bi ∧ w.heap.size ≤ Bb) ∧ Below w.heap.size w w' := by
  have HIN := Lib.hid hin
  have HBN := Lib.hid hbn
  have HX : Hid ((w.alloc (.cells #[.int .i64 gr, .int .i64 i, .int .i64 d] 24)).heap[w.heap.size]? = some (.cells #[.int .i64 gr, .int .i64 i, .int .i64 d] 24 (0, 0))) := Lib.hid (blk_new w _)
  clear hin hbn
  go_enter Try.func18, Try.ntmps18
  go_wp2
  refine start_ (n := 10) (S := fun w' => w'.cell? ⟨w.heap.size, 0, none⟩ = some (.int .i64 gr) ∧ w'.cell? ⟨w.heap.size, 1, none⟩ = some (.int .i64 i) ∧ w'.cell? ⟨w.heap.size, 2, none⟩ = some (.int .i64 d)) (ds := []) #[false, false, false, false, false, false, false, false, false, false] (by kernel_rfl) rfl rfl ⟨(blk_cell HX.out 0).trans rfl, (blk_cell HX.out 1).trans rfl, (blk_cell HX.out 2).trans rfl⟩ (fun hHeld => ?_)
  have HBV : Hid (Below w.heap.size w (w.alloc (.cells #[.int .i64 gr, .int .i64 i, .int .i64 d] 24)).drew) := Lib.hid (below_drew ((Below.refl _ w).alloc (Nat.le_refl _) _))
  generalize (w.alloc (.cells #[.int .i64 gr, .int .i64 i, .int .i64 d] 24)).drew = V at hHeld HBV ⊢
  refine tk3_ 0 (some 3) (bm 10 1) hHeld ?_
  refine tk3_ 1 (some 4) (bm 10 3) hHeld ?_
  refine tk3_ 4 (some 7) (bm 10 19) hHeld ?_
  refine join_ (σ := Nat × Nat) 3 (bm 10 127) (fun s => [(5, .int .i64 (N : Int)), (6, .slice (some ⟨s.1, 0, none⟩) N N), (8, .int .i64 (M : Int)), (9, .slice (some ⟨s.2, 0, none⟩) M M)]) (fun s W' => ((BR W' s.1 (List.replicate N false) ∧ BR W' s.2 (List.replicate M false)) ∧ s.1 ≠ s.2 ∧ V.heap.size ≤ s.1 ∧ V.heap.size ≤ s.2) ∧ Below V.heap.size V W') ?_ ?_
  rotate_left
  · intro hcont
    refine one_ (i := 2) (N := some 5) (bm 10 23) rfl rfl (by kernel_rfl) (by decide) (fun K hK => ?_)
    refine goes_ Try.func13 (by kernel_rfl) rfl #[.agg #[.int .i64 gr, .int .i64 i, .int .i64 d]] (by rfl) rfl rfl (by (try simp only [List.map_toArray, List.map_cons, List.map_nil]); first | done | rfl) ?_
    refine (lockgateref1_Inodes.calls gr i d _ _ HIN.out).mono ?_
    rintro e W1 ⟨rfl, hb1⟩
    refine ⟨_, rfl, hK.out _ _ ⟨pw_cell_below hb1 hHeld.1, pw_cell_below hb1 hHeld.2.1, pw_cell_below hb1 hHeld.2.2⟩ (fun hHeld => ?_)⟩
    clear hK K
    refine two_ (i := 3) (j := 5) (Ni := some 6) (Nj := some 8) (bm 10 31) (bm 10 55) rfl rfl rfl rfl (by kernel_rfl) (by decide) (by decide) (fun K hK => ?_) (fun K hK => ?_)
    · obtain ⟨W2, hmk2, hbr2, hb2, hz2⟩ := made_bool W1 N (N : Int) rfl (by omega)
      refine value_ (w1 := W2) (v := .slice (some ⟨(W1).heap.size, 0, none⟩) N N) (by rfl) rfl (by go_simp) ?_
      refine hK.out _ _ ⟨pw_cell_below hb2 hHeld.1, pw_cell_below hb2 hHeld.2.1, pw_cell_below hb2 hHeld.2.2⟩ (fun hHeld => ?_)
      clear hK K
      refine one_ (i := 5) (N := some 8) (bm 10 63) rfl rfl (by kernel_rfl) (by decide) (fun K hK => ?_)
      refine goes_ Try.func14 (by kernel_rfl) rfl #[.agg #[.int .i64 gr, .int .i64 i, .int .i64 d]] (by rfl) rfl rfl (by (try simp only [List.map_toArray, List.map_cons, List.map_nil]); first | done | rfl) ?_
      refine (lockgateref1_Blocks.calls gr i d _ _ HBN.out).mono ?_
      rintro e W3 ⟨rfl, hb3⟩
      refine ⟨_, rfl, hK.out _ _ ⟨pw_cell_below hb3 hHeld.1, pw_cell_below hb3 hHeld.2.1, pw_cell_below hb3 hHeld.2.2⟩ (fun hHeld => ?_)⟩
      clear hK K
      refine one_ (i := 6) (N := some 9) (bm 10 127) rfl rfl (by kernel_rfl) (by decide) (fun K hK => ?_)
      obtain ⟨W4, hmk4, hbr4, hb4, hz4⟩ := made_bool W3 M (M : Int) rfl (by omega)
      refine value_ (w1 := W4) (v := .slice (some ⟨(W3).heap.size, 0, none⟩) M M) (by rfl) rfl (by go_simp) ?_
      refine hK.out _ _ ⟨pw_cell_below hb4 hHeld.1, pw_cell_below hb4 hHeld.2.1, pw_cell_below hb4 hHeld.2.2⟩ (fun hHeld => ?_)
      clear hK K
      have hA := ((hbr2).below hb3).below hb4
      have hB := hbr4
      have hVA : V.heap.size ≤ (W1).heap.size := ((((Below.refl V.heap.size V)).trans (hb1.mono ((Below.refl V.heap.size V)).size))).size
      have hVB : V.heap.size ≤ (W3).heap.size := ((((((((Below.refl V.heap.size V)).trans (hb1.mono ((Below.refl V.heap.size V)).size))).trans (hb2.mono ((((Below.refl V.heap.size V)).trans (hb1.mono ((Below.refl V.heap.size V)).size))).size))).trans (hb3.mono ((((((Below.refl V.heap.size V)).trans (hb1.mono ((Below.refl V.heap.size V)).size))).trans (hb2.mono ((((Below.refl V.heap.size V)).trans (hb1.mono ((Below.refl V.heap.size V)).size))).size))).size))).size
      have hne : (W1).heap.size ≠ (W3).heap.size := (by have h := BR.lt ((hbr2).below hb3); omega)
      exact norm_ (by rfl) (hcont ((W1).heap.size, (W3).heap.size) _ ⟨⟨⟨hA, hB⟩, hne, hVA, hVB⟩, (((((((((Below.refl V.heap.size V)).trans (hb1.mono ((Below.refl V.heap.size V)).size))).trans (hb2.mono ((((Below.refl V.heap.size V)).trans (hb1.mono ((Below.refl V.heap.size V)).size))).size))).trans (hb3.mono ((((((Below.refl V.heap.size V)).trans (hb1.mono ((Below.refl V.heap.size V)).size))).trans (hb2.mono ((((Below.refl V.heap.size V)).trans (hb1.mono ((Below.refl V.heap.size V)).size))).size))).size))).trans (hb4.mono ((((((((Below.refl V.heap.size V)).trans (hb1.mono ((Below.refl V.heap.size V)).size))).trans (hb2.mono ((((Below.refl V.heap.size V)).trans (hb1.mono ((Below.refl V.heap.size V)).size))).size))).trans (hb3.mono ((((((Below.refl V.heap.size V)).trans (hb1.mono ((Below.refl V.heap.size V)).size))).trans (hb2.mono ((((Below.refl V.heap.size V)).trans (hb1.mono ((Below.refl V.heap.size V)).size))).size))).size))).size))⟩)
    · refine goes_ Try.func14 (by kernel_rfl) rfl #[.agg #[.int .i64 gr, .int .i64 i, .int .i64 d]] (by rfl) rfl rfl (by (try simp only [List.map_toArray, List.map_cons, List.map_nil]); first | done | rfl) ?_
      refine (lockgateref1_Blocks.calls gr i d _ _ HBN.out).mono ?_
      rintro e W2 ⟨rfl, hb2⟩
      refine ⟨_, rfl, hK.out _ _ ⟨pw_cell_below hb2 hHeld.1, pw_cell_below hb2 hHeld.2.1, pw_cell_below hb2 hHeld.2.2⟩ (fun hHeld => ?_)⟩
      clear hK K
      refine two_ (i := 3) (j := 6) (Ni := some 6) (Nj := some 9) (bm 10 63) (bm 10 119) rfl rfl rfl rfl (by kernel_rfl) (by decide) (by decide) (fun K hK => ?_) (fun K hK => ?_)
      · obtain ⟨W3, hmk3, hbr3, hb3, hz3⟩ := made_bool W2 N (N : Int) rfl (by omega)
        refine value_ (w1 := W3) (v := .slice (some ⟨(W2).heap.size, 0, none⟩) N N) (by rfl) rfl (by go_simp) ?_
        refine hK.out _ _ ⟨pw_cell_below hb3 hHeld.1, pw_cell_below hb3 hHeld.2.1, pw_cell_below hb3 hHeld.2.2⟩ (fun hHeld => ?_)
        clear hK K
        refine one_ (i := 6) (N := some 9) (bm 10 127) rfl rfl (by kernel_rfl) (by decide) (fun K hK => ?_)
        obtain ⟨W4, hmk4, hbr4, hb4, hz4⟩ := made_bool W3 M (M : Int) rfl (by omega)
        refine value_ (w1 := W4) (v := .slice (some ⟨(W3).heap.size, 0, none⟩) M M) (by rfl) rfl (by go_simp) ?_
        refine hK.out _ _ ⟨pw_cell_below hb4 hHeld.1, pw_cell_below hb4 hHeld.2.1, pw_cell_below hb4 hHeld.2.2⟩ (fun hHeld => ?_)
        clear hK K
        have hA := (hbr3).below hb4
        have hB := hbr4
        have hVA : V.heap.size ≤ (W2).heap.size := ((((((Below.refl V.heap.size V)).trans (hb1.mono ((Below.refl V.heap.size V)).size))).trans (hb2.mono ((((Below.refl V.heap.size V)).trans (hb1.mono ((Below.refl V.heap.size V)).size))).size))).size
        have hVB : V.heap.size ≤ (W3).heap.size := ((((((((Below.refl V.heap.size V)).trans (hb1.mono ((Below.refl V.heap.size V)).size))).trans (hb2.mono ((((Below.refl V.heap.size V)).trans (hb1.mono ((Below.refl V.heap.size V)).size))).size))).trans (hb3.mono ((((((Below.refl V.heap.size V)).trans (hb1.mono ((Below.refl V.heap.size V)).size))).trans (hb2.mono ((((Below.refl V.heap.size V)).trans (hb1.mono ((Below.refl V.heap.size V)).size))).size))).size))).size
        have hne : (W2).heap.size ≠ (W3).heap.size := (by have h := BR.lt (hbr3); omega)
        exact norm_ (by rfl) (hcont ((W2).heap.size, (W3).heap.size) _ ⟨⟨⟨hA, hB⟩, hne, hVA, hVB⟩, (((((((((Below.refl V.heap.size V)).trans (hb1.mono ((Below.refl V.heap.size V)).size))).trans (hb2.mono ((((Below.refl V.heap.size V)).trans (hb1.mono ((Below.refl V.heap.size V)).size))).size))).trans (hb3.mono ((((((Below.refl V.heap.size V)).trans (hb1.mono ((Below.refl V.heap.size V)).size))).trans (hb2.mono ((((Below.refl V.heap.size V)).trans (hb1.mono ((Below.refl V.heap.size V)).size))).size))).size))).trans (hb4.mono ((((((((Below.refl V.heap.size V)).trans (hb1.mono ((Below.refl V.heap.size V)).size))).trans (hb2.mono ((((Below.refl V.heap.size V)).trans (hb1.mono ((Below.refl V.heap.size V)).size))).size))).trans (hb3.mono ((((((Below.refl V.heap.size V)).trans (hb1.mono ((Below.refl V.heap.size V)).size))).trans (hb2.mono ((((Below.refl V.heap.size V)).trans (hb1.mono ((Below.refl V.heap.size V)).size))).size))).size))).size))⟩)
      · obtain ⟨W3, hmk3, hbr3, hb3, hz3⟩ := made_bool W2 M (M : Int) rfl (by omega)
        refine value_ (w1 := W3) (v := .slice (some ⟨(W2).heap.size, 0, none⟩) M M) (by rfl) rfl (by go_simp) ?_
        refine hK.out _ _ ⟨pw_cell_below hb3 hHeld.1, pw_cell_below hb3 hHeld.2.1, pw_cell_below hb3 hHeld.2.2⟩ (fun hHeld => ?_)
        clear hK K
        refine one_ (i := 3) (N := some 6) (bm 10 127) rfl rfl (by kernel_rfl) (by decide) (fun K hK => ?_)
        obtain ⟨W4, hmk4, hbr4, hb4, hz4⟩ := made_bool W3 N (N : Int) rfl (by omega)
        refine value_ (w1 := W4) (v := .slice (some ⟨(W3).heap.size, 0, none⟩) N N) (by rfl) rfl (by go_simp) ?_
        refine hK.out _ _ ⟨pw_cell_below hb4 hHeld.1, pw_cell_below hb4 hHeld.2.1, pw_cell_below hb4 hHeld.2.2⟩ (fun hHeld => ?_)
        clear hK K
        have hA := hbr4
        have hB := (hbr3).below hb4
        have hVA : V.heap.size ≤ (W3).heap.size := ((((((((Below.refl V.heap.size V)).trans (hb1.mono ((Below.refl V.heap.size V)).size))).trans (hb2.mono ((((Below.refl V.heap.size V)).trans (hb1.mono ((Below.refl V.heap.size V)).size))).size))).trans (hb3.mono ((((((Below.refl V.heap.size V)).trans (hb1.mono ((Below.refl V.heap.size V)).size))).trans (hb2.mono ((((Below.refl V.heap.size V)).trans (hb1.mono ((Below.refl V.heap.size V)).size))).size))).size))).size
        have hVB : V.heap.size ≤ (W2).heap.size := ((((((Below.refl V.heap.size V)).trans (hb1.mono ((Below.refl V.heap.size V)).size))).trans (hb2.mono ((((Below.refl V.heap.size V)).trans (hb1.mono ((Below.refl V.heap.size V)).size))).size))).size
        have hne : (W3).heap.size ≠ (W2).heap.size := (by have h := BR.lt (hbr3); omega)
        exact norm_ (by rfl) (hcont ((W3).heap.size, (W2).heap.size) _ ⟨⟨⟨hA, hB⟩, hne, hVA, hVB⟩, (((((((((Below.refl V.heap.size V)).trans (hb1.mono ((Below.refl V.heap.size V)).size))).trans (hb2.mono ((((Below.refl V.heap.size V)).trans (hb1.mono ((Below.refl V.heap.size V)).size))).size))).trans (hb3.mono ((((((Below.refl V.heap.size V)).trans (hb1.mono ((Below.refl V.heap.size V)).size))).trans (hb2.mono ((((Below.refl V.heap.size V)).trans (hb1.mono ((Below.refl V.heap.size V)).size))).size))).size))).trans (hb4.mono ((((((((Below.refl V.heap.size V)).trans (hb1.mono ((Below.refl V.heap.size V)).size))).trans (hb2.mono ((((Below.refl V.heap.size V)).trans (hb1.mono ((Below.refl V.heap.size V)).size))).size))).trans (hb3.mono ((((((Below.refl V.heap.size V)).trans (hb1.mono ((Below.refl V.heap.size V)).size))).trans (hb2.mono ((((Below.refl V.heap.size V)).trans (hb1.mono ((Below.refl V.heap.size V)).size))).size))).size))).size))⟩)
  rintro ⟨Bi, Bb⟩ V1 ⟨⟨⟨hA, hB⟩, hne, hVA, hVB⟩, hb1⟩
  simp only at hA hB hne hVA hVB
  have hHeld1 : V1.cell? ⟨w.heap.size, 0, none⟩ = some (.int .i64 gr) ∧ V1.cell? ⟨w.heap.size, 1, none⟩ = some (.int .i64 i) ∧ V1.cell? ⟨w.heap.size, 2, none⟩ = some (.int .i64 d) := ⟨pw_cell_below hb1 hHeld.1, pw_cell_below hb1 hHeld.2.1, pw_cell_below hb1 hHeld.2.2⟩
  clear hHeld
  have hHeld := hHeld1
  refine norm_ (a' := ?_) ?_ ?_
  rotate_left
  · simp only [putAll, Act.put, List.setIfInBounds_toArray, List.set_cons_zero, List.set_cons_succ]
    rfl
  refine pu_ 7 (some 10) (bm 10 255) ?_
  refine one_ (i := 8) (N := some 11) (bm 10 511) rfl rfl (by kernel_rfl) (by decide) (fun K hK => ?_)
  refine value_ (w1 := ?_) (v := ?_) (by rfl) rfl ?_ ?_
  rotate_left 2
  · go_simp
    constructor
    · rfl
    · rfl
  refine hK.out _ _ ⟨(World.cell?_alloc_lt _ _ _ (World.block_lt_of_cell? _ _ hHeld1.1)).trans hHeld1.1, (World.cell?_alloc_lt _ _ _ (World.block_lt_of_cell? _ _ hHeld1.2.1)).trans hHeld1.2.1, (World.cell?_alloc_lt _ _ _ (World.block_lt_of_cell? _ _ hHeld1.2.2)).trans hHeld1.2.2⟩ (fun hHeld => ?_)
  clear hK K
  refine norm_ (a' := ?_) ?_ ?_
  rotate_left
  · show Act.put _ (some 11) _ = _
    simp only [Act.put, List.setIfInBounds_toArray, List.set_cons_zero, List.set_cons_succ, i64_w, i32_w]
    rfl
  refine pu_ 9 (some 2) (bm 10 1023) ?_
  refine done_ (by kernel_rfl) ?_
  have hg := blk_new V1 (.cells #[.int .i64 gr, .int .i64 i, .int .i64 d, .slice (some ⟨Bi, 0, none⟩) N N, .slice (some ⟨Bb, 0, none⟩) M M] 63)
  have hbb : Below V1.heap.size V1 (V1.alloc (.cells #[.int .i64 gr, .int .i64 i, .int .i64 d, .slice (some ⟨Bi, 0, none⟩) N N, .slice (some ⟨Bb, 0, none⟩) M M] 63)) := below_alloc (Below.refl _ _) _
  have hA2 := hA.below hbb
  have hB2 := hB.below hbb
  have HG := Lib.hid hg
  have HA2 := Lib.hid hA2
  have HB2 := Lib.hid hB2
  have HNE := Lib.hid hne
  have hz := HBV.out.size
  have hz1 := hb1.size
  have HALL := Lib.hid (HBV.out.trans ((hb1.trans (hbb.mono hz1)).mono hz))
  clear hg hbb hA2 hB2 hA hB hne hHeld hHeld1 hb1
  go_wp2
  go_ret
  exact ⟨_, Bi, Bb, rfl, ⟨by simpa using HG.out, ⟨HA2.out, HB2.out⟩, HNE.out⟩, ⟨by omega, by omega, by omega⟩, HALL.out⟩
end Go.Proofs.Ytppjeikkodjjhaa.Given
