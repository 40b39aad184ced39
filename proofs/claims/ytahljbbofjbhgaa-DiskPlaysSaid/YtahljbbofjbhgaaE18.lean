/- DiskPlays answers true. -/
import Derived.Test.YtahljbbofjbhgaaE17
import Derived.Deep.QuietTactic
import Derived.BigQuiet
import Derived.Deep.Cut
import Derived.Deep.CutRange
namespace Go.Proofs.Ytahljbbofjbhgaa.Given
open Go.RowKit Go.Shelf Go.Proofs.YtahljbbofjbhgaaW.PrintWords Go.Proofs.YtahljbbofjbhgaaW.PrintLast Go.Proofs.YtahljbbofjbhgaaW.PrintMore Go.Proofs.YtahljbbofjbhgaaBase
set_option linter.unusedVariables false
set_option linter.unusedSimpArgs false

set_option maxRecDepth 100000 in
set_option maxHeartbeats 1000000 in
theorem plays_early (b : Int) (A : Option Addr) (c : Nat) (l : List S38) (w : World) (h : 50 < b ∨ 200 < l.length) :
    Calls Try.prog 4 #[.int .i64 b, .slice A l.length c] w fun e w' => e = .returned (.bool true) ∧ Below w.heap.size w w' := by
  by_cases h0 : 50 < b
  · have t1 : decide (b > 50) = true := decide_eq_true h0
    go_enter Try.func4, Try.ntmps4
    go_wp2_with (first | (go_at_call 7; refine (alive_calls _).mono ?_; rintro e w1 ⟨rfl, hb⟩; have HB := Lib.hid hb; clear hb))
    go_ret
    exact ⟨rfl, HB.out⟩
  · have t0 : decide (b > 50) = false := decide_eq_false h0
    have t1 : decide ((l.length : Int) > 200) = true := decide_eq_true (by omega)
    go_enter Try.func4, Try.ntmps4
    go_wp2_with (first | (go_at_call 7; refine (alive_calls _).mono ?_; rintro e w1 ⟨rfl, hb⟩; have HB := Lib.hid hb; clear hb))
    go_ret
    exact ⟨rfl, HB.out⟩
theorem blocksOf_clip (b : Int) (h : b ≤ 50) : ∃ n : Nat, blocksOf b = n ∧ n ≤ 50 ∧ (n : Int) = (if b < 0 then 0 else b) := by
  unfold blocksOf
  by_cases h0 : 0 < b
  · rw [if_pos h0, if_neg (by omega)]
    exact ⟨b.toNat, rfl, by omega, by rw [if_neg (by omega)]; omega⟩
  · rw [if_neg h0]
    exact ⟨0, rfl, by omega, by split <;> omega⟩
set_option maxRecDepth 100000 in
set_option maxHeartbeats 8000000 in
theorem plays_main (b : Int) (A : Option Addr) (c : Nat) (l : List S38) (w : World) (hC : Kd.C k38 w A l.length l) (hc : l.length ≤ c) (hb : b ≤ 50) (hl : l.length ≤ 200) (hwf : ∀ y ∈ l, (Lit.int .i64 y.f2).wf = true ∧ y.f3.length ≤ maxLen) :
    Calls Try.prog 4 #[.int .i64 b, .slice A l.length c] w fun e w' => e = .returned (.bool true) ∧ Below w.heap.size w w' := by
  have t0 : decide (b > 50) = false := decide_eq_false (by omega)
  have t1 : decide ((l.length : Int) > 200) = false := decide_eq_false (by omega)
  have HC := Lib.hid hC
  have HWF := Lib.hid hwf
  obtain ⟨n, hn, hn50, hnb⟩ := blocksOf_clip b hb
  have HN := Lib.hid hn
  have HNB := Lib.hid hnb
  clear hC hwf hn hnb
  go_enter Try.func4, Try.ntmps4
  go_upto_if 38 with (first | (go_at_call 7; refine (alive_calls _).mono ?_; rintro e w1 ⟨rfl, hb⟩; have HB := Lib.hid hb; clear hb) | (go_at_call 8; refine (new_calls b w1).mono ?_; rintro e w2 ⟨gd, rfl, hd, hb⟩; rw [HN.out] at hd; have HD2 := Lib.hid hd; have HB2 := Lib.hid hb; clear hd hb) | (go_at_call 8; refine (new_calls b w2).mono ?_; rintro e w3 ⟨go, rfl, hd, hb⟩; rw [HN.out] at hd; have HO3 := Lib.hid hd; have HB3 := Lib.hid hb; clear hd hb))
  go_cut [0] (fun v wx => v = .int .i64 (n : Int) ∧ wx = w3)
  case first =>
    by_cases h0 : b < 0
    · have t2 : decide (b < 0) = true := decide_eq_true h0
      have hz : n = 0 := by have := HNB.out; rw [if_pos h0] at this; omega
      subst hz
      go_wp2
      go_meet
      case rel => exact ⟨rfl, rfl⟩
    · have t2 : decide (b < 0) = false := decide_eq_false h0
      have hz : b = (n : Int) := by have := HNB.out; rw [if_neg h0] at this; omega
      subst hz
      go_wp2
      go_meet
      case rel => exact ⟨rfl, rfl⟩
  case rest =>
    obtain ⟨rfl, rfl⟩ := hcut
    have hn0 : (0 : Int) ≤ (n : Int) := by omega
    have hn1 : (n : Int) ≤ 50 := by omega
    obtain ⟨w4, hmk, hR4, hb4, hz4⟩ := madeR wc (n * 1024) (1024 * (n : Int)) (by omega) (by omega)
    have hIb := heap_alloc_new w4 (.cells #[.slice (some ⟨wc.heap.size, 0, none⟩) (n * 1024) (n * 1024), .slice none 0 0, .int .i64 (-1), .bool false] 36)
    have HI0 : Hid (PlI w w1.heap.size gd go w4.heap.size n 0 (w4.alloc (.cells #[.slice (some ⟨wc.heap.size, 0, none⟩) (n * 1024) (n * 1024), .slice none 0 0, .int .i64 (-1), .bool false] 36))) := by
      have s1 := HB.out.size
      have s2 := HB2.out.size
      have s3 := HB3.out.size
      have hba := hb4.trans (below_alloc (Below.refl _ w4) (.cells #[.slice (some ⟨wc.heap.size, 0, none⟩) (n * 1024) (n * 1024), .slice none 0 0, .int .i64 (-1), .bool false] 36) |>.mono (by omega))
      have hD : IsD w1.heap.size (fun k => w1.heap.size ≤ k ∧ k < w2.heap.size) wc gd (List.replicate (n * 1024) 0) [] (-1) false := (HD2.out.bound.mono (fun k hk => ⟨hk.2.1, hk.2.2⟩)).below HB3.out
      have hO : IsD w1.heap.size (fun k => w2.heap.size ≤ k ∧ k < wc.heap.size) wc go (List.replicate (n * 1024) 0) [] (-1) false := (HO3.out.bound.mono (fun k hk => ⟨hk.2.1, hk.2.2⟩)).lower s2
      have hM : IsM w1.heap.size (fun k => wc.heap.size ≤ k ∧ k < w4.heap.size + 1) (w4.alloc (.cells #[.slice (some ⟨wc.heap.size, 0, none⟩) (n * 1024) (n * 1024), .slice none 0 0, .int .i64 (-1), .bool false] 36)) w4.heap.size (List.replicate (n * 1024) 0) [] (-1) false := by
        refine ⟨_, _, hIb, ⟨by omega, by omega⟩, ?_, Kd.S_nil _ _ _ _ _⟩
        exact Kd.R_mono (Kd.R_lower (Kd.R_alloc hR4 _) (by omega)) (fun k hk => ⟨by omega, by rw [hk]; rfl⟩)
      refine ⟨_, _, _, ⟨List.replicate (n * 1024) 0, [], -1, false⟩, ⟨List.replicate (n * 1024) 0, [], -1, false⟩, ⟨hD.below hba, hO.below hba, hM, ?_, ?_, ?_, ?_, ?_, ?_⟩, ⟨?_, ?_, ?_, ?_, ?_⟩, ⟨?_, ?_, ?_, ?_, ?_⟩, ?_, by omega, ?_⟩
      · intro k hk; simp only [World.size_alloc]; omega
      · intro k hk; simp only [World.size_alloc]; omega
      · intro k hk; simp only [World.size_alloc]; omega
      · intro k hk h2; omega
      · intro k hk h2; omega
      · intro k hk h2; omega
      · simp
      · simp
      · simp
      · simp
      · simp
      · simp
      · simp
      · simp
      · simp
      · simp
      · exact ((HB.out.trans (HB2.out.mono s1)).trans (HB3.out.mono (by omega))).trans (hba.mono (by omega))
      · simp only [World.size_alloc]; omega
    clear HD2 HB2 HO3 HB3 hR4 hb4 hz4 hIb
    go_wp2
    refine plays_loop l A c n gd go w4.heap.size w1.heap.size w _ _ _ _ _ _ _ _ _ _ _ _ _ _ _ _ _ _ _ _ _ _ _ _ _ _ _ _ _ _ _ _ _ _ _ _ _ _ _ _ _ _ _ _ _ _ _ _ _ _ _ _ _ _ _ _ _ _ _ _ _ _ _ _ _ _ _ _ _ _ _ _ _ _ _ _ _ _ _ _ _ _ _ _ _ _ _ _ _ _ _ _ _ _ _ _ _ _ _ _ _ _ _ _ _ _ _ _ _ _ _ _ _ _ _ _ _ _ _ _ _ _ _ _ _ _ _ _ _ _ _ _ _ _ _ _ _ _ _ _ _ _ _ _ _ _ _ _ _ _ _ _ _ _ _ _ _ _ _ _ _ _ _ _ _ _ _ _ _ _ _ _ _ _ _ _ _ _ _ _ _ _ _ _ _ _ _ _ _ _ _ _ _ _ _ _ _ _ _ _ _ _ _ _ _ _ _ _ _ _ _ _ _ _ _ _ _ _ _ _ _ _ _ _ _ _ _ _ _ _ _ _ _ _ _ _ _ _ _ _ _ _ _ _ _ _ _ _ _ _ _ _ _ _ _ _ _ _ _ _ _ HC.out hc hl HWF.out hn50 _ ?hexit ?hret (fun ch a a' w hd h => ⟨hd ▸ h.1, h.2⟩) HI0.out
    case hret =>
      intro a' w'' h4 hd hb
      refine ⟨hd, .bool true, ?_, rfl, hb⟩
      simp only [Array.getD_eq_getD_getElem?] at h4
      simp [results, Try.f4, go_sem, h4]
    case hexit =>
      intro a' w'' hX
      unfold PlX at hX
      obtain ⟨u4, hX⟩ := hX
      obtain ⟨u9, hX⟩ := hX
      obtain ⟨u10, hX⟩ := hX
      obtain ⟨u11, hX⟩ := hX
      obtain ⟨u12, hX⟩ := hX
      obtain ⟨u13, hX⟩ := hX
      obtain ⟨u14, hX⟩ := hX
      obtain ⟨u15, hX⟩ := hX
      obtain ⟨u16, hX⟩ := hX
      obtain ⟨u17, hX⟩ := hX
      obtain ⟨u44, hX⟩ := hX
      obtain ⟨u45, hX⟩ := hX
      obtain ⟨u46, hX⟩ := hX
      obtain ⟨u47, hX⟩ := hX
      obtain ⟨u48, hX⟩ := hX
      obtain ⟨u49, hX⟩ := hX
      obtain ⟨u50, hX⟩ := hX
      obtain ⟨u51, hX⟩ := hX
      obtain ⟨u52, hX⟩ := hX
      obtain ⟨u53, hX⟩ := hX
      obtain ⟨u54, hX⟩ := hX
      obtain ⟨u55, hX⟩ := hX
      obtain ⟨u56, hX⟩ := hX
      obtain ⟨u57, hX⟩ := hX
      obtain ⟨u58, hX⟩ := hX
      obtain ⟨u59, hX⟩ := hX
      obtain ⟨u60, hX⟩ := hX
      obtain ⟨u61, hX⟩ := hX
      obtain ⟨u62, hX⟩ := hX
      obtain ⟨u63, hX⟩ := hX
      obtain ⟨u64, hX⟩ := hX
      obtain ⟨u65, hX⟩ := hX
      obtain ⟨u66, hX⟩ := hX
      obtain ⟨u67, hX⟩ := hX
      obtain ⟨u68, hX⟩ := hX
      obtain ⟨u69, hX⟩ := hX
      obtain ⟨u70, hX⟩ := hX
      obtain ⟨u71, hX⟩ := hX
      obtain ⟨u72, hX⟩ := hX
      obtain ⟨u73, hX⟩ := hX
      obtain ⟨u74, hX⟩ := hX
      obtain ⟨u75, hX⟩ := hX
      obtain ⟨u76, hX⟩ := hX
      obtain ⟨u77, hX⟩ := hX
      obtain ⟨u78, hX⟩ := hX
      obtain ⟨u79, hX⟩ := hX
      obtain ⟨u80, hX⟩ := hX
      obtain ⟨u81, hX⟩ := hX
      obtain ⟨u82, hX⟩ := hX
      obtain ⟨u83, hX⟩ := hX
      obtain ⟨u84, hX⟩ := hX
      obtain ⟨u85, hX⟩ := hX
      obtain ⟨u86, hX⟩ := hX
      obtain ⟨u87, hX⟩ := hX
      obtain ⟨u88, hX⟩ := hX
      obtain ⟨u89, hX⟩ := hX
      obtain ⟨u90, hX⟩ := hX
      obtain ⟨u91, hX⟩ := hX
      obtain ⟨u92, hX⟩ := hX
      obtain ⟨u93, hX⟩ := hX
      obtain ⟨u94, hX⟩ := hX
      obtain ⟨u95, hX⟩ := hX
      obtain ⟨u96, hX⟩ := hX
      obtain ⟨u97, hX⟩ := hX
      obtain ⟨u98, hX⟩ := hX
      obtain ⟨u99, hX⟩ := hX
      obtain ⟨u100, hX⟩ := hX
      obtain ⟨u101, hX⟩ := hX
      obtain ⟨u102, hX⟩ := hX
      obtain ⟨u103, hX⟩ := hX
      obtain ⟨u104, hX⟩ := hX
      obtain ⟨u105, hX⟩ := hX
      obtain ⟨u106, hX⟩ := hX
      obtain ⟨u107, hX⟩ := hX
      obtain ⟨u108, hX⟩ := hX
      obtain ⟨u109, hX⟩ := hX
      obtain ⟨u110, hX⟩ := hX
      obtain ⟨u111, hX⟩ := hX
      obtain ⟨u112, hX⟩ := hX
      obtain ⟨u113, hX⟩ := hX
      obtain ⟨u114, hX⟩ := hX
      obtain ⟨u115, hX⟩ := hX
      obtain ⟨u116, hX⟩ := hX
      obtain ⟨u117, hX⟩ := hX
      obtain ⟨u118, hX⟩ := hX
      obtain ⟨u119, hX⟩ := hX
      obtain ⟨u120, hX⟩ := hX
      obtain ⟨u121, hX⟩ := hX
      obtain ⟨u122, hX⟩ := hX
      obtain ⟨u123, hX⟩ := hX
      obtain ⟨u124, hX⟩ := hX
      obtain ⟨u125, hX⟩ := hX
      obtain ⟨u126, hX⟩ := hX
      obtain ⟨u127, hX⟩ := hX
      obtain ⟨u128, hX⟩ := hX
      obtain ⟨u129, hX⟩ := hX
      obtain ⟨u130, hX⟩ := hX
      obtain ⟨u131, hX⟩ := hX
      obtain ⟨u132, hX⟩ := hX
      obtain ⟨u133, hX⟩ := hX
      obtain ⟨u134, hX⟩ := hX
      obtain ⟨u135, hX⟩ := hX
      obtain ⟨u136, hX⟩ := hX
      obtain ⟨u137, hX⟩ := hX
      obtain ⟨u138, hX⟩ := hX
      obtain ⟨u139, hX⟩ := hX
      obtain ⟨u140, hX⟩ := hX
      obtain ⟨u141, hX⟩ := hX
      obtain ⟨u142, hX⟩ := hX
      obtain ⟨u143, hX⟩ := hX
      obtain ⟨u144, hX⟩ := hX
      obtain ⟨u145, hX⟩ := hX
      obtain ⟨u146, hX⟩ := hX
      obtain ⟨u147, hX⟩ := hX
      obtain ⟨u148, hX⟩ := hX
      obtain ⟨u149, hX⟩ := hX
      obtain ⟨u150, hX⟩ := hX
      obtain ⟨u151, hX⟩ := hX
      obtain ⟨u152, hX⟩ := hX
      obtain ⟨u153, hX⟩ := hX
      obtain ⟨u154, hX⟩ := hX
      obtain ⟨u155, hX⟩ := hX
      obtain ⟨u156, hX⟩ := hX
      obtain ⟨u157, hX⟩ := hX
      obtain ⟨u158, hX⟩ := hX
      obtain ⟨u159, hX⟩ := hX
      obtain ⟨u160, hX⟩ := hX
      obtain ⟨u161, hX⟩ := hX
      obtain ⟨u162, hX⟩ := hX
      obtain ⟨u163, hX⟩ := hX
      obtain ⟨u164, hX⟩ := hX
      obtain ⟨u165, hX⟩ := hX
      obtain ⟨u166, hX⟩ := hX
      obtain ⟨u167, hX⟩ := hX
      obtain ⟨u168, hX⟩ := hX
      obtain ⟨u169, hX⟩ := hX
      obtain ⟨u170, hX⟩ := hX
      obtain ⟨u171, hX⟩ := hX
      obtain ⟨u172, hX⟩ := hX
      obtain ⟨u173, hX⟩ := hX
      obtain ⟨u174, hX⟩ := hX
      obtain ⟨u175, hX⟩ := hX
      obtain ⟨u176, hX⟩ := hX
      obtain ⟨u177, hX⟩ := hX
      obtain ⟨u178, hX⟩ := hX
      obtain ⟨u179, hX⟩ := hX
      obtain ⟨u180, hX⟩ := hX
      obtain ⟨u181, hX⟩ := hX
      obtain ⟨u182, hX⟩ := hX
      obtain ⟨u183, hX⟩ := hX
      obtain ⟨u184, hX⟩ := hX
      obtain ⟨u185, hX⟩ := hX
      obtain ⟨u186, hX⟩ := hX
      obtain ⟨u187, hX⟩ := hX
      obtain ⟨u188, hX⟩ := hX
      obtain ⟨u189, hX⟩ := hX
      obtain ⟨u190, hX⟩ := hX
      obtain ⟨u191, hX⟩ := hX
      obtain ⟨u192, hX⟩ := hX
      obtain ⟨u193, hX⟩ := hX
      obtain ⟨u194, hX⟩ := hX
      obtain ⟨u195, hX⟩ := hX
      obtain ⟨u196, hX⟩ := hX
      obtain ⟨u197, hX⟩ := hX
      obtain ⟨u198, hX⟩ := hX
      obtain ⟨u199, hX⟩ := hX
      obtain ⟨u200, hX⟩ := hX
      obtain ⟨hI, rfl⟩ := hX
      obtain ⟨okd, oko, okm, s, so, hT, hs, hso, hb, hz0, hz1⟩ := hI
      have HT := Lib.hid hT
      have HS := Lib.hid hs
      have HBW := Lib.hid hb
      have hll : s.l.length ≤ 400 := by have := hs.log; omega
      clear hT hs hso hb HI0
      obtain ⟨vbm, vlm, hIm, hbm, hRm, hSm⟩ := HT.out.m
      obtain ⟨Am, cm, rfl⟩ := Kd.R_slice hRm
      obtain ⟨Al, cl, rfl⟩ := Kd.S_slice hSm
      have HIM := Lib.hid hIm
      have HRM := Lib.hid hRm
      have HNM := Lib.hid (Kd.S_N hSm)
      clear hIm hbm hRm hSm
      go_upto_region 46 with (first | (go_at_call 11; refine (logD HT.out.d (fun k hk => (HT.out.bd k hk).2) (by omega) (fun y hy => by rw [HS.out.sec y hy]; decide)).mono ?_; rintro e w8 ⟨v8, rfl, hN8, hb8⟩; obtain ⟨A8, c8, rfl⟩ := Kd.N_slice hN8; have HN8 := Lib.hid hN8; have HB8 := Lib.hid hb8; clear hN8 hb8))
      have HLEN : Hid (s.b.length = n * 1024) := Lib.hid HS.out.len
      have HD8 := Lib.hid (HT.out.d.below HB8.out)
      have HM8 := Lib.hid (HIM.out.below HB8.out)
      have HR8 := Lib.hid (Kd.R_below HRM.out HB8.out)
      have HNM8 := Lib.hid (Kd.N_below HNM.out HB8.out)
      have HBX := Lib.hid (HBW.out.trans (HB8.out.mono HBW.out.size))
      have hzz : ∀ k, okd k → k < w8.heap.size := fun k hk => Nat.lt_of_lt_of_le (HT.out.bd k hk).2 HB8.out.size
      have HZZ := Lib.hid hzz
      clear hzz
      have hS0 : w8.drew.cell? ⟨w4.heap.size, 1, none⟩ = some (.slice Al s.l.length cl) ∧ w8.drew.cell? ⟨w4.heap.size, 0, none⟩ = some (.slice Am s.b.length cm) ∧ (convert 26 9 (.slice Am s.b.length cm)).run Try.prog w8.drew = .ok (.string (strOfNums s.b)) w8.drew :=
        ⟨HM8.out.c1, HM8.out.c0, Kd.C_string (P := Try.prog) (c := cm) Try.underlying26 Try.underlying5 Try.underlying9 (Kd.C_drew (Kd.R_reads' HR8.out).2.2)⟩
      have HSB : Hid (∀ V, Below w8.drew.heap.size w8.drew V → V.cell? ⟨w4.heap.size, 1, none⟩ = some (.slice Al s.l.length cl) ∧ V.cell? ⟨w4.heap.size, 0, none⟩ = some (.slice Am s.b.length cm) ∧ (convert 26 9 (.slice Am s.b.length cm)).run Try.prog V = .ok (.string (strOfNums s.b)) V) := Lib.hid fun V hV =>
        have h8 : Below w8.heap.size w8 V := (below_drew (Below.refl _ w8)).trans hV
        ⟨(HM8.out.below h8).c1, (HM8.out.below h8).c0, Kd.C_string (P := Try.prog) (c := cm) Try.underlying26 Try.underlying5 Try.underlying9 (Kd.C_below (Kd.R_reads' HR8.out).2.2 h8)⟩
      refine start_ (n := 25) (S := fun w' => w'.cell? ⟨w4.heap.size, 1, none⟩ = some (.slice Al s.l.length cl) ∧ w'.cell? ⟨w4.heap.size, 0, none⟩ = some (.slice Am s.b.length cm) ∧ (convert 26 9 (.slice Am s.b.length cm)).run Try.prog w' = .ok (.string (strOfNums s.b)) w') (ds := []) #[false, false, false, false, false, false, false, false, false, false, false, false, false, false, false, false, false, false, false, false, false, false, false, false, false] (by kernel_rfl) rfl rfl hS0 (fun hHeld => ?_)
      refine pure_ (i := 0) (N := some 203) (v := ?_) (a' := ?_) #[true, false, false, false, false, false, false, false, false, false, false, false, false, false, false, false, false, false, false, false, false, false, false, false, false] rfl rfl (by kernel_rfl) (fun _ _ _ h => h) (Or.inl ⟨by rfl, ?_⟩) ?_ ?_
      rotate_left
      · intro w'
        go_simp
        with_reducible rfl
      rotate_left
      · simp only [Act.put, List.setIfInBounds_toArray, List.set_cons_zero, List.set_cons_succ, i64_w, i32_w]
        rfl
      refine pure_ (i := 1) (N := some 204) (v := ?_) (a' := ?_) #[true, true, false, false, false, false, false, false, false, false, false, false, false, false, false, false, false, false, false, false, false, false, false, false, false] rfl rfl (by kernel_rfl) (fun _ _ _ h => h) (Or.inl ⟨by rfl, ?_⟩) ?_ ?_
      rotate_left
      · intro w'
        go_simp
        with_reducible rfl
      rotate_left
      · simp only [Act.put, List.setIfInBounds_toArray, List.set_cons_zero, List.set_cons_succ, i64_w, i32_w]
        rfl
      refine pure_ (i := 2) (N := some 205) (v := ?_) (a' := ?_) #[true, true, true, false, false, false, false, false, false, false, false, false, false, false, false, false, false, false, false, false, false, false, false, false, false] rfl rfl (by kernel_rfl) (fun _ _ _ h => h) (Or.inl ⟨by rfl, ?_⟩) ?_ ?_
      rotate_left
      · intro w'
        go_simp
        with_reducible rfl
      rotate_left
      · simp only [Act.put, List.setIfInBounds_toArray, List.set_cons_zero, List.set_cons_succ, i64_w, i32_w]
        rfl
      refine pure_ (i := 3) (N := some 206) (v := ?_) (a' := ?_) #[true, true, true, true, false, false, false, false, false, false, false, false, false, false, false, false, false, false, false, false, false, false, false, false, false] rfl rfl (by kernel_rfl) (fun _ _ _ h => h) (Or.inl ⟨by rfl, ?_⟩) ?_ ?_
      rotate_left
      · intro w'
        go_simp
        with_reducible rfl
      rotate_left
      · simp only [Act.put, List.setIfInBounds_toArray, List.set_cons_zero, List.set_cons_succ, i64_w, i32_w]
        rfl
      refine pure_ (i := 4) (N := some 207) (v := ?_) (a' := ?_) #[true, true, true, true, true, false, false, false, false, false, false, false, false, false, false, false, false, false, false, false, false, false, false, false, false] rfl rfl (by kernel_rfl) (fun _ _ _ h => h) (Or.inl ⟨by rfl, ?_⟩) ?_ ?_
      rotate_left
      · intro w'
        go_simp
        with_reducible rfl
      rotate_left
      · simp only [Act.put, List.setIfInBounds_toArray, List.set_cons_zero, List.set_cons_succ, i64_w, i32_w]
        rfl
      refine take_ (i := 5) (N := some 208) (v := ?_) (a' := ?_) #[true, true, true, true, true, true, false, false, false, false, false, false, false, false, false, false, false, false, false, false, false, false, false, false, false] rfl rfl (by kernel_rfl) (fun _ _ _ h => h) (Or.inl ⟨by rfl, ?_⟩) hHeld ?_ ?_
      rotate_left
      · rintro w' ⟨s0, s1, s2⟩
        go_simp
        with_reducible rfl
      rotate_left
      · simp only [Act.put, List.setIfInBounds_toArray, List.set_cons_zero, List.set_cons_succ, i64_w, i32_w]
        rfl
      refine pure_ (i := 6) (N := some 209) (v := ?_) (a' := ?_) #[true, true, true, true, true, true, true, false, false, false, false, false, false, false, false, false, false, false, false, false, false, false, false, false, false] rfl rfl (by kernel_rfl) (fun _ _ _ h => h) (Or.inl ⟨by rfl, ?_⟩) ?_ ?_
      rotate_left
      · intro w'
        go_simp
        with_reducible rfl
      rotate_left
      · simp only [Act.put, List.setIfInBounds_toArray, List.set_cons_zero, List.set_cons_succ, i64_w, i32_w]
        rfl
      refine pure_ (i := 7) (N := some 210) (v := ?_) (a' := ?_) #[true, true, true, true, true, true, true, true, false, false, false, false, false, false, false, false, false, false, false, false, false, false, false, false, false] rfl rfl (by kernel_rfl) (fun _ _ _ h => h) (Or.inl ⟨by rfl, ?_⟩) ?_ ?_
      rotate_left
      · intro w'
        go_simp
        with_reducible rfl
      rotate_left
      · simp only [Act.put, List.setIfInBounds_toArray, List.set_cons_zero, List.set_cons_succ, i64_w, i32_w]
        rfl
      refine pure_ (i := 8) (N := some 211) (v := ?_) (a' := ?_) #[true, true, true, true, true, true, true, true, true, false, false, false, false, false, false, false, false, false, false, false, false, false, false, false, false] rfl rfl (by kernel_rfl) (fun _ _ _ h => h) (Or.inl ⟨by rfl, ?_⟩) ?_ ?_
      rotate_left
      · intro w'
        go_simp
        with_reducible rfl
      rotate_left
      · simp only [Act.put, List.setIfInBounds_toArray, List.set_cons_zero, List.set_cons_succ, i64_w, i32_w]
        rfl
      refine pure_ (i := 9) (N := some 212) (v := ?_) (a' := ?_) #[true, true, true, true, true, true, true, true, true, true, false, false, false, false, false, false, false, false, false, false, false, false, false, false, false] rfl rfl (by kernel_rfl) (fun _ _ _ h => h) (Or.inl ⟨by rfl, ?_⟩) ?_ ?_
      rotate_left
      · intro w'
        go_simp
        with_reducible rfl
      rotate_left
      · simp only [Act.put, List.setIfInBounds_toArray, List.set_cons_zero, List.set_cons_succ, i64_w, i32_w]
        rfl
      refine pure_ (i := 11) (N := some 214) (v := ?_) (a' := ?_) #[true, true, true, true, true, true, true, true, true, true, false, true, false, false, false, false, false, false, false, false, false, false, false, false, false] rfl rfl (by kernel_rfl) (fun _ _ _ h => h) (Or.inl ⟨by rfl, ?_⟩) ?_ ?_
      rotate_left
      · intro w'
        go_simp
        with_reducible rfl
      rotate_left
      · simp only [Act.put, List.setIfInBounds_toArray, List.set_cons_zero, List.set_cons_succ, i64_w, i32_w]
        rfl
      refine one_ (i := 10) (N := some 213) #[true, true, true, true, true, true, true, true, true, true, true, true, false, false, false, false, false, false, false, false, false, false, false, false, false] rfl rfl (by kernel_rfl) (by decide) (fun K hK => ?_)
      refine goes_ Try.func16 (by kernel_rfl) rfl #[.pointer (some ⟨gd, 0, none⟩)] (by rfl) rfl rfl (by (try simp only [List.map_toArray, List.map_cons, List.map_nil]); first | done | rfl) ?_
      refine (blocksD (HD8.out.below (below_drew (Below.refl _ _))) (by rw [HLEN.out]; omega)).mono ?_
      rintro e w' ⟨rfl, hd⟩
      obtain ⟨nd, rfl⟩ := hd
      rw [HLEN.out, Nat.mul_div_cancel _ (by decide)]
      refine ⟨_, rfl, hK.out _ _ (HSB.out _ (pw_below_drewN (Below.refl _ _) nd)) (fun hHeld => ?_)⟩
      clear hK K
      refine norm_ (a' := ?_) ?_ ?_
      rotate_left
      · show Act.put _ (some 213) _ = _
        simp only [Act.put, List.setIfInBounds_toArray, List.set_cons_zero, List.set_cons_succ, i64_w, i32_w]
        rfl
      refine pure_ (i := 12) (N := some 215) (v := ?_) (a' := ?_) #[true, true, true, true, true, true, true, true, true, true, true, true, true, false, false, false, false, false, false, false, false, false, false, false, false] rfl rfl (by kernel_rfl) (fun _ _ _ h => h) (Or.inl ⟨by rfl, ?_⟩) ?_ ?_
      rotate_left
      · intro w'
        go_simp
        with_reducible rfl
      rotate_left
      · simp only [Act.put, List.setIfInBounds_toArray, List.set_cons_zero, List.set_cons_succ, i64_w, i32_w]
        rfl
      refine pure_ (i := 13) (N := some 216) (v := ?_) (a' := ?_) #[true, true, true, true, true, true, true, true, true, true, true, true, true, true, false, false, false, false, false, false, false, false, false, false, false] rfl rfl (by kernel_rfl) (fun _ _ _ h => h) (Or.inl ⟨by rfl, ?_⟩) ?_ ?_
      rotate_left
      · intro w'
        go_simp
        with_reducible rfl
      rotate_left
      · simp only [Act.put, List.setIfInBounds_toArray, List.set_cons_zero, List.set_cons_succ, i64_w, i32_w]
        rfl
      refine pure_ (i := 14) (N := some 217) (v := ?_) (a' := ?_) #[true, true, true, true, true, true, true, true, true, true, true, true, true, true, true, false, false, false, false, false, false, false, false, false, false] rfl rfl (by kernel_rfl) (fun _ _ _ h => h) (Or.inl ⟨by rfl, ?_⟩) ?_ ?_
      rotate_left
      · intro w'
        go_simp
        with_reducible rfl
      rotate_left
      · simp only [Act.put, List.setIfInBounds_toArray, List.set_cons_zero, List.set_cons_succ, i64_w, i32_w]
        rfl
      refine pure_ (i := 15) (N := some 218) (v := ?_) (a' := ?_) #[true, true, true, true, true, true, true, true, true, true, true, true, true, true, true, true, false, false, false, false, false, false, false, false, false] rfl rfl (by kernel_rfl) (fun _ _ _ h => h) (Or.inl ⟨by rfl, ?_⟩) ?_ ?_
      rotate_left
      · intro w'
        go_simp
        with_reducible rfl
      rotate_left
      · simp only [Act.put, List.setIfInBounds_toArray, List.set_cons_zero, List.set_cons_succ, i64_w, i32_w]
        rfl
      refine pure_ (i := 18) (N := some 221) (v := ?_) (a' := ?_) #[true, true, true, true, true, true, true, true, true, true, true, true, true, true, true, true, false, false, true, false, false, false, false, false, false] rfl rfl (by kernel_rfl) (fun _ _ _ h => h) (Or.inl ⟨by rfl, ?_⟩) ?_ ?_
      rotate_left
      · intro w'
        go_simp
        with_reducible rfl
      rotate_left
      · simp only [Act.put, List.setIfInBounds_toArray, List.set_cons_zero, List.set_cons_succ, i64_w, i32_w]
        rfl
      refine pure_ (i := 19) (N := some 222) (v := ?_) (a' := ?_) #[true, true, true, true, true, true, true, true, true, true, true, true, true, true, true, true, false, false, true, true, false, false, false, false, false] rfl rfl (by kernel_rfl) (fun _ _ _ h => h) (Or.inl ⟨by rfl, ?_⟩) ?_ ?_
      rotate_left
      · intro w'
        go_simp
        with_reducible rfl
      rotate_left
      · simp only [Act.put, List.setIfInBounds_toArray, List.set_cons_zero, List.set_cons_succ, i64_w, i32_w]
        rfl
      refine pure_ (i := 20) (N := some 223) (v := ?_) (a' := ?_) #[true, true, true, true, true, true, true, true, true, true, true, true, true, true, true, true, false, false, true, true, true, false, false, false, false] rfl rfl (by kernel_rfl) (fun _ _ _ h => h) (Or.inl ⟨by rfl, ?_⟩) ?_ ?_
      rotate_left
      · intro w'
        go_simp
        with_reducible rfl
      rotate_left
      · simp only [Act.put, List.setIfInBounds_toArray, List.set_cons_zero, List.set_cons_succ, i64_w, i32_w]
        rfl
      refine take_ (i := 21) (N := some 224) (v := ?_) (a' := ?_) #[true, true, true, true, true, true, true, true, true, true, true, true, true, true, true, true, false, false, true, true, true, true, false, false, false] rfl rfl (by kernel_rfl) (fun _ _ _ h => h) (Or.inl ⟨by rfl, ?_⟩) hHeld ?_ ?_
      rotate_left
      · rintro w' ⟨s0, s1, s2⟩
        go_simp
        with_reducible rfl
      rotate_left
      · simp only [Act.put, List.setIfInBounds_toArray, List.set_cons_zero, List.set_cons_succ, i64_w, i32_w]
        rfl
      refine take_ (i := 22) (N := some 225) (v := ?_) (a' := ?_) #[true, true, true, true, true, true, true, true, true, true, true, true, true, true, true, true, false, false, true, true, true, true, true, false, false] rfl rfl (by kernel_rfl) (fun _ _ _ h => h) (Or.inl ⟨by rfl, ?_⟩) hHeld ?_ ?_
      rotate_left
      · rintro w' ⟨s0, s1, s2⟩
        go_simp
        with_reducible rfl
      rotate_left
      · simp only [Act.put, List.setIfInBounds_toArray, List.set_cons_zero, List.set_cons_succ, i64_w, i32_w]
        rfl
      refine one_ (i := 16) (N := some 219) #[true, true, true, true, true, true, true, true, true, true, true, true, true, true, true, true, true, false, true, true, true, true, true, false, false] rfl rfl (by kernel_rfl) (by decide) (fun K hK => ?_)
      refine goes_ Try.func17 (by kernel_rfl) rfl #[.pointer (some ⟨gd, 0, none⟩)] (by rfl) rfl rfl (by (try simp only [List.map_toArray, List.map_cons, List.map_nil]); first | done | rfl) ?_
      refine (imageD ((HD8.out.below (below_drew (Below.refl _ _))).drewN nd) (by rw [HLEN.out]; omega)).mono ?_
      rintro e w9 ⟨v9, rfl, hR9, hb9⟩
      obtain ⟨A9, c9, hv9⟩ := Kd.R_slice hR9
      subst hv9
      have hbw := (pw_below_drewN (Below.refl _ _) nd).trans hb9
      have hs9 := Kd.C_string (P := Try.prog) (c := c9) Try.underlying26 Try.underlying5 Try.underlying9 (Kd.R_reads' hR9).2.2
      have HS9 := Lib.hid hs9
      have hV9 : Below w8.heap.size w8 w9 := (below_drew (Below.refl _ w8)).trans hbw
      clear hR9 hb9 hs9
      refine ⟨_, rfl, hK.out _ _ (HSB.out _ hbw) (fun hHeld => ?_)⟩
      clear hbw
      clear hK K
      refine norm_ (a' := ?_) ?_ ?_
      rotate_left
      · show Act.put _ (some 219) _ = _
        simp only [Act.put, List.setIfInBounds_toArray, List.set_cons_zero, List.set_cons_succ, i64_w, i32_w]
        rfl
      refine one_ (i := 17) (N := some 220) #[true, true, true, true, true, true, true, true, true, true, true, true, true, true, true, true, true, true, true, true, true, true, true, false, false] rfl rfl (by kernel_rfl) (by decide) (fun K hK => ?_)
      refine value_ (w1 := w9) (v := .string (strOfNums s.b)) (by rfl) rfl ?_ (hK.out _ _ hHeld (fun hHeld => ?_))
      · have hs9 := HS9.out
        go_simp
      clear hK K
      refine norm_ (a' := ?_) ?_ ?_
      rotate_left
      · show Act.put _ (some 220) _ = _
        simp only [Act.put, List.setIfInBounds_toArray, List.set_cons_zero, List.set_cons_succ, i64_w, i32_w]
        rfl
      refine pure_ (i := 23) (N := some 226) (v := ?_) (a' := ?_) #[true, true, true, true, true, true, true, true, true, true, true, true, true, true, true, true, true, true, true, true, true, true, true, true, false] rfl rfl (by kernel_rfl) (fun _ _ _ h => h) (Or.inl ⟨by rfl, ?_⟩) ?_ ?_
      rotate_left
      · intro w'
        go_simp
        with_reducible rfl
      rotate_left
      · simp only [Act.put, List.setIfInBounds_toArray, List.set_cons_zero, List.set_cons_succ, i64_w, i32_w]
        rfl
      refine pure_ (i := 24) (N := some 227) (v := ?_) (a' := ?_) #[true, true, true, true, true, true, true, true, true, true, true, true, true, true, true, true, true, true, true, true, true, true, true, true, true] rfl rfl (by kernel_rfl) (fun _ _ _ h => h) (Or.inl ⟨by rfl, ?_⟩) ?_ ?_
      rotate_left
      · intro w'
        go_simp
        with_reducible rfl
      rotate_left
      · simp only [Act.put, List.setIfInBounds_toArray, List.set_cons_zero, List.set_cons_succ, i64_w, i32_w]
        rfl
      refine done_ (by kernel_rfl) ?_
      have HV := Lib.hid hV9
      clear hS0 hV9
      go_wp2
      go_loopw [19] (fun i wr => ∃ k : Nat, k ≤ s.l.length ∧ i = .int .i64 (k : Int) ∧ Hid (Below w8.heap.size w8 wr)) (fun i _ => s.l.length - (intOf i).toNat)
      case atStart => exact ⟨0, by omega, rfl, HV⟩
      case round =>
        obtain ⟨k, hk, rfl, HW⟩ := hrel
        by_cases hlt : k < s.l.length
        · have hlt2 : (k : Int) < (s.l.length : Int) := by omega
          obtain ⟨G, cap, hv, _, hG, _⟩ := Kd.N_form HN8.out (by omega)
          injection hv with hv1 _ hv2
          subst hv1 hv2
          obtain ⟨Gm, capm, hvm, _, hGm, _⟩ := Kd.N_form HNM8.out (by omega)
          injection hvm with hv1 _ hv2
          subst hv1 hv2
          obtain ⟨ce, hcl, hFK, hcc, _⟩ := Kd.N_elem (Kd.N_below HN8.out HW.out) z31 (k : Int) (by omega) hlt2
          obtain ⟨de, hdl, hFKm, hdd, _⟩ := Kd.N_elem (Kd.N_below HNM8.out HW.out) z31 (k : Int) (by omega) hlt2
          rw [Int.toNat_natCast] at hFK hcc hFKm hdd
          obtain ⟨y, hy⟩ : ∃ y, s.l.getD k z31 = y := ⟨_, rfl⟩
          rw [hy] at hFK hFKm
          obtain ⟨A3, c3, rfl, hl3, hC3⟩ := fk31 hFK
          obtain ⟨A4, c4, rfl, hl4, hC4⟩ := fk31 hFKm
          have k1 : wr.cell? ⟨G, k * 2, none⟩ = some (.int .i64 y.f0) := hcc 0 _ rfl
          have k2 : wr.cell? ⟨G, k * 2 + 1, none⟩ = some (.slice A3 y.f1.length c3) := hcc 1 _ rfl
          have k3 : wr.cell? ⟨Gm, k * 2, none⟩ = some (.int .i64 y.f0) := hdd 0 _ rfl
          have k4 : wr.cell? ⟨Gm, k * 2 + 1, none⟩ = some (.slice A4 y.f1.length c4) := hdd 1 _ rfl
          have f0 := fun n_ => Kd.C_string (P := Try.prog) (c := c3) Try.underlying26 Try.underlying5 Try.underlying9 (Kd.C_drewN hC3 n_)
          have f1 := fun n_ => Kd.C_string (P := Try.prog) (c := c4) Try.underlying26 Try.underlying5 Try.underlying9 (Kd.C_drewN hC4 n_)
          have m1 := (HM8.out.below HW.out).c1
          clear hFK hcc hFKm hdd hy hC3 hC4 hl3 hl4 hcl hdl
          go_wp2
          go_quiet (fail)
          go_wp2
          go_roundw
          case rel => exact ⟨k + 1, by omega, by go_num, Lib.hid (pw_below_drewN HW.out _)⟩
          case measure => simp [intOf]; omega
        · obtain rfl : k = s.l.length := by omega
          go_wp2
          go_ret
          exact ⟨rfl, HBX.out.trans (HW.out.mono HBX.out.size)⟩
theorem plays_row (b : Int) (A : Option Addr) (c : Nat) (l : List S38) (w : World) (hC : Kd.C k38 w A l.length l) (hc : l.length ≤ c) (_ : (Lit.int .i64 b).wf = true)
    (h : l.length ≤ maxLen ∧ ∀ y ∈ l, ((Lit.int .i64 y.f0).wf = true ∧ (Lit.int .i64 y.f1).wf = true ∧ (Lit.int .i64 y.f2).wf = true ∧ (y.f3.length ≤ maxLen ∧ ∀ x ∈ y.f3, (Lit.int .u8 x).wf = true))) :
    Calls Try.prog 4 #[.int .i64 b, .slice A l.length c] w fun e w' => e = .returned (.bool true) ∧ Below w.heap.size w w' := by
  by_cases h1 : 50 < b ∨ 200 < l.length
  · exact plays_early b A c l w h1
  · exact plays_main b A c l w hC hc (by omega) (by omega) (fun y hy => ⟨(h.2 y hy).2.2.1, (h.2 y hy).2.2.2.1⟩)
end Go.Proofs.Ytahljbbofjbhgaa.Given
