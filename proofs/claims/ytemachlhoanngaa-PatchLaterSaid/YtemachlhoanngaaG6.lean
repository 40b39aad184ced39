/- PatchLater answers true: what was safely left out, done later, makes what all at once make; by hand over the contracts. -/
import Derived.Test.YtemachlhoanngaaPlainP
import Derived.Deep.RegionWith
import Derived.LoopTactic
import Derived.Deep.LoopGhost
namespace Go.Proofs.Ytemachlhoanngaa.Given
open Go.RowKit Go.Proofs.YtemachlhoanngaaW.PrintWords Go.Proofs.YtemachlhoanngaaW.PrintLast Go.Proofs.YtemachlhoanngaaBase Go.Proofs.Ytemachlhoanngaa.PPFns
set_option linter.unusedVariables false
set_option linter.unusedSimpArgs false

set_option maxRecDepth 100000 in
set_option maxHeartbeats 2000000 in
theorem later_early (A0 : Option Addr) (c0 : Nat) (l0 : List Int) (A1 : Option Addr) (c1 : Nat) (l1 : List S24) (A2 : Option Addr) (c2 : Nat) (l2 : List Int) (w : World)
    (hC0 : Kd.C (Kd.int .u8) w A0 l0.length l0) (hc0 : l0.length ≤ c0) (hC1 : Kd.C k24 w A1 l1.length l1) (hc1 : l1.length ≤ c1) (hC2 : Kd.C (Kd.int .i64) w A2 l2.length l2) (hc2 : l2.length ≤ c2) (k : Nat) (big : Bool) (hbig : lockgatelaw14_Big.f k l1 = some big) (h : big = true ∨ 3000 < l0.length ∨ 100 < l2.length) :
    Calls Try.prog 8 #[.slice A0 l0.length c0, .slice A1 l1.length c1, .slice A2 l2.length c2] w fun e w' => e = .returned (.bool true) ∧ Below w.heap.size w w' := by
  have HC1 := Lib.hid hC1
  have HBIG := Lib.hid hbig
  clear hC0 hC1 hC2 hbig
  cases big with
  | true =>
    go_enter Try.func8, Try.ntmps8
    go_wp2_with (first | (go_at_call 9; refine (lockgatelaw14_alive.calls true _ rfl).mono ?_; rintro e w1 ⟨rfl, hb⟩; have HB := Lib.hid hb; clear hb) | (go_at_call 16; refine (lockgatelaw14_Big.calls k A1 c1 l1 true _ (Kd.C_below HC1.out HB.out) hc1 HBIG.out).mono ?_; rintro e w' ⟨rfl, hd⟩; obtain ⟨nd, rfl⟩ := hd))
    go_ret
    exact ⟨rfl, pw_below_drewN HB.out _⟩
  | false =>
    by_cases h0 : 3000 < l0.length
    · have t1 : decide ((l0.length : Int) > 3000) = true := decide_eq_true (by omega)
      go_enter Try.func8, Try.ntmps8
      go_wp2_with (first | (go_at_call 9; refine (lockgatelaw14_alive.calls true _ rfl).mono ?_; rintro e w1 ⟨rfl, hb⟩; have HB := Lib.hid hb; clear hb) | (go_at_call 16; refine (lockgatelaw14_Big.calls k A1 c1 l1 false _ (Kd.C_below HC1.out HB.out) hc1 HBIG.out).mono ?_; rintro e w' ⟨rfl, hd⟩; obtain ⟨nd, rfl⟩ := hd))
      go_ret
      exact ⟨rfl, pw_below_drewN HB.out _⟩
    · have h2 : 100 < l2.length := by simpa [h0] using h
      have t1 : decide ((l0.length : Int) > 3000) = false := decide_eq_false (by omega)
      have t2 : decide ((l2.length : Int) > 100) = true := decide_eq_true (by omega)
      go_enter Try.func8, Try.ntmps8
      go_wp2_with (first | (go_at_call 9; refine (lockgatelaw14_alive.calls true _ rfl).mono ?_; rintro e w1 ⟨rfl, hb⟩; have HB := Lib.hid hb; clear hb) | (go_at_call 16; refine (lockgatelaw14_Big.calls k A1 c1 l1 false _ (Kd.C_below HC1.out HB.out) hc1 HBIG.out).mono ?_; rintro e w' ⟨rfl, hd⟩; obtain ⟨nd, rfl⟩ := hd))
      go_ret
      exact ⟨rfl, pw_below_drewN HB.out _⟩

set_option maxRecDepth 100000 in
set_option maxHeartbeats 2000000 in
theorem later_unsafe (A0 : Option Addr) (c0 : Nat) (l0 : List Int) (A1 : Option Addr) (c1 : Nat) (l1 : List S24) (A2 : Option Addr) (c2 : Nat) (l2 : List Int) (w : World)
    (hC0 : Kd.C (Kd.int .u8) w A0 l0.length l0) (hc0 : l0.length ≤ c0) (hC1 : Kd.C k24 w A1 l1.length l1) (hc1 : l1.length ≤ c1) (hC2 : Kd.C (Kd.int .i64) w A2 l2.length l2) (hc2 : l2.length ≤ c2) (k : Nat) (hbig : lockgatelaw14_Big.f k l1 = some false) (h0 : l0.length ≤ 3000) (h2 : l2.length ≤ 100) (hs : patch_Safe.f l1 l2 = some false) :
    Calls Try.prog 8 #[.slice A0 l0.length c0, .slice A1 l1.length c1, .slice A2 l2.length c2] w fun e w' => e = .returned (.bool true) ∧ Below w.heap.size w w' := by
  have HC1 := Lib.hid hC1
  have HC2 := Lib.hid hC2
  have HBIG := Lib.hid hbig
  have HS := Lib.hid hs
  clear hC0 hC1 hC2 hbig hs
  have t1 : decide ((l0.length : Int) > 3000) = false := decide_eq_false (by omega)
  have t2 : decide ((l2.length : Int) > 100) = false := decide_eq_false (by omega)
  go_enter Try.func8, Try.ntmps8
  go_wp2_with (first | (go_at_call 9; refine (lockgatelaw14_alive.calls true _ rfl).mono ?_; rintro e w1 ⟨rfl, hb⟩; have HB := Lib.hid hb; clear hb) | (go_at_call 16; refine (lockgatelaw14_Big.calls k A1 c1 l1 false _ (Kd.C_below HC1.out HB.out) hc1 HBIG.out).mono ?_; rintro e w' ⟨rfl, hd⟩; obtain ⟨nd, rfl⟩ := hd) | (go_at_call 18; refine (patch_Safe.calls A1 c1 l1 A2 c2 l2 false _ (Kd.C_below HC1.out (pw_below_drewN HB.out _)) hc1 (Kd.C_below HC2.out (pw_below_drewN HB.out _)) hc2 HS.out).mono ?_; rintro e w2 ⟨rfl, hb2⟩; have HB2 := Lib.hid ((pw_below_drewN HB.out nd).trans (hb2.mono HB.out.size)); clear hb2))
  go_ret
  exact ⟨rfl, HB2.out⟩

set_option maxRecDepth 100000 in
set_option maxHeartbeats 4000000 in
theorem later_safe (A0 : Option Addr) (c0 : Nat) (l0 : List Int) (A1 : Option Addr) (c1 : Nat) (l1 : List S24) (A2 : Option Addr) (c2 : Nat) (l2 : List Int) (w : World)
    (hC0 : Kd.C (Kd.int .u8) w A0 l0.length l0) (hc0 : l0.length ≤ c0) (hC1 : Kd.C k24 w A1 l1.length l1) (hc1 : l1.length ≤ c1) (hC2 : Kd.C (Kd.int .i64) w A2 l2.length l2) (hc2 : l2.length ≤ c2) (k : Nat) (r1 r2 : List Int) (hbig : lockgatelaw14_Big.f k l1 = some false) (h0 : l0.length ≤ 3000) (h1 : l1.length ≤ 60) (h2 : l2.length ≤ 100) (hs : patch_Safe.f l1 l2 = some true)
    (ha1 : patch_Apply.f l0 l1 l2 = some r1) (ha2 : patch_Apply.f r1 (goneL l1 l2 l1.length) [] = some r2) (ha3 : patch_Apply.f l0 l1 [] = some r2) :
    Calls Try.prog 8 #[.slice A0 l0.length c0, .slice A1 l1.length c1, .slice A2 l2.length c2] w fun e w' => e = .returned (.bool true) ∧ Below w.heap.size w w' := by
  have HC0 := Lib.hid hC0
  have HC1 := Lib.hid hC1
  have HC2 := Lib.hid hC2
  have HBIG := Lib.hid hbig
  have HS := Lib.hid hs
  have HA1 := Lib.hid ha1
  have HA2 := Lib.hid ha2
  have HA3 := Lib.hid ha3
  clear hC0 hC1 hC2 hbig hs ha1 ha2 ha3
  have t1 : decide ((l0.length : Int) > 3000) = false := decide_eq_false (by omega)
  have t2 : decide ((l2.length : Int) > 100) = false := decide_eq_false (by omega)
  go_enter Try.func8, Try.ntmps8
  go_wp2_with (first | (go_at_call 9; refine (lockgatelaw14_alive.calls true _ rfl).mono ?_; rintro e w1 ⟨rfl, hb⟩; have HB := Lib.hid hb; clear hb) | (go_at_call 16; refine (lockgatelaw14_Big.calls k A1 c1 l1 false _ (Kd.C_below HC1.out HB.out) hc1 HBIG.out).mono ?_; rintro e w' ⟨rfl, hd⟩; obtain ⟨nd, rfl⟩ := hd) | (go_at_call 18; refine (patch_Safe.calls A1 c1 l1 A2 c2 l2 true _ (Kd.C_below HC1.out (pw_below_drewN HB.out _)) hc1 (Kd.C_below HC2.out (pw_below_drewN HB.out _)) hc2 HS.out).mono ?_; rintro e w2 ⟨rfl, hb2⟩; have HB2 := Lib.hid ((pw_below_drewN HB.out nd).trans (hb2.mono HB.out.size)); clear hb2))
  go_loopw [9, 10, 11] (fun v i t wr => ∃ (j : Nat) (gs : List S24), j ≤ l1.length ∧ i = .int .i64 (j : Int) ∧ Hid (OwnRow (k24.K w) 24 3 wr w.heap.size v gs) ∧ Hid (goneL l1 l2 j = gs) ∧ Hid (Below w.heap.size w wr)) (fun v i t _ => l1.length - (intOf i).toNat)
  case atStart => exact ⟨0, [], Nat.zero_le _, rfl, Lib.hid (OwnRow.none_ _ _ _ _ _), Lib.hid rfl, HB2⟩
  case round =>
    obtain ⟨j, gs, hj, rfl, HO, HG, HBr⟩ := hrel
    obtain ⟨Ag, cg, rfl, hgc, hreads⟩ := OwnRow.reads HO.out
    have HRD := Lib.hid hreads
    clear hreads
    have hsz := HBr.out.size
    have hgl := goneL_length l1 l2 j
    rw [HG.out] at hgl
    by_cases hlt : j < l1.length
    · obtain ⟨ad, Aq, cq, hA, k0, k1, k2, hlq, hCq⟩ := at_T24 HC1.out j (by omega) (by omega)
      subst hA
      have k0 := pw_cell_below HBr.out k0
      have k1 := pw_cell_below HBr.out k1
      have k2 := pw_cell_below HBr.out k2
      simp only [Int.toNat_natCast] at k0 k1 k2
      have hlt' : (j : Int) < (l1.length : Int) := by omega
      have HCQ := Lib.hid hCq
      have hin := in_tells l2 (rd_T24 l1 j).f0 (by omega)
      clear hCq
      by_cases hout : (rd_T24 l1 j).f0 ∈ l2
      · rw [decide_eq_true hout] at hin
        have HIN := Lib.hid hin
        have HOUT := Lib.hid (show isOut l1 l2 j = true from decide_eq_true hout)
        clear hin hout
        go_wp2_with (first | (go_at_call 20; refine (lockgateref11_In.calls (l2.length + 1) A2 c2 l2 _ true _ (Kd.C_below HC2.out HBr.out) hc2 HIN.out).mono ?_; rintro e w' ⟨rfl, hd⟩; obtain ⟨nd2, rfl⟩ := hd) | (at_builtin; refine OwnRow.append (w0 := w) w.heap.size rfl (.tmp 50) (.tmp 55) 27 24 _ 3 40 rfl Try.underlying27 info24 rfl (by decide) (by decide) (.slice Ag gs.length cg) gs (rd_T24 l1 j) [.int .i64 (rd_T24 l1 j).f0, .int .i64 (rd_T24 l1 j).f1, .slice Aq (rd_T24 l1 j).f2.length cq] rfl (by first | rfl | (show Value.slice (some ⟨wr.heap.size, 0, none⟩) 1 1 = _; simp)) (k24_mk w _ hlq HCQ.out) rfl (by simp [Value.oneCell']) (OwnRow.below HO.out (pw_below_drewN (Below.refl _ _) _)) (pw_below_drewN HBr.out _) hsz (by omega) ?_; intro v1 w3 hown hb1 hg hat; have HO1 := Lib.hid hown; have HB1 := Lib.hid hb1; clear hown hb1 hg hat))
        go_roundw
        case rel => exact ⟨j + 1, gs ++ [rd_T24 l1 j], by omega, by go_num, HO1, Lib.hid (by rw [goneL_out HOUT.out, HG.out]), HB1⟩
        case measure => simp [intOf]; omega
      · rw [decide_eq_false hout] at hin
        have HIN := Lib.hid hin
        have HOUT := Lib.hid (show isOut l1 l2 j = false from decide_eq_false hout)
        clear hin hout
        go_wp2_with (first | (go_at_call 20; refine (lockgateref11_In.calls (l2.length + 1) A2 c2 l2 _ false _ (Kd.C_below HC2.out HBr.out) hc2 HIN.out).mono ?_; rintro e w' ⟨rfl, hd⟩; obtain ⟨nd2, rfl⟩ := hd) | (at_builtin; refine OwnRow.append (w0 := w) w.heap.size rfl (.tmp 50) (.tmp 55) 27 24 _ 3 40 rfl Try.underlying27 info24 rfl (by decide) (by decide) (.slice Ag gs.length cg) gs (rd_T24 l1 j) [.int .i64 (rd_T24 l1 j).f0, .int .i64 (rd_T24 l1 j).f1, .slice Aq (rd_T24 l1 j).f2.length cq] rfl (by first | rfl | (show Value.slice (some ⟨wr.heap.size, 0, none⟩) 1 1 = _; simp)) (k24_mk w _ hlq HCQ.out) rfl (by simp [Value.oneCell']) (OwnRow.below HO.out (pw_below_drewN (Below.refl _ _) _)) (pw_below_drewN HBr.out _) hsz (by omega) ?_; intro v1 w3 hown hb1 hg hat; have HO1 := Lib.hid hown; have HB1 := Lib.hid hb1; clear hown hb1 hg hat))
        go_roundw
        case rel => exact ⟨j + 1, gs, by omega, by go_num, Lib.hid (OwnRow.below HO.out (pw_below_drewN (Below.refl _ _) _)), Lib.hid (by rw [goneL_in HOUT.out, HG.out]), Lib.hid (pw_below_drewN HBr.out _)⟩
        case measure => simp [intOf]; omega
    · obtain rfl : j = l1.length := by omega
      rw [HG.out] at HA2
      have HAP := Lib.hid (patch_Apply.calls A0 c0 l0 A1 c1 l1 A2 c2 l2 r1 wr (Kd.C_below HC0.out HBr.out) hc0 (Kd.C_below HC1.out HBr.out) hc1 (Kd.C_below HC2.out HBr.out) hc2 HA1.out)
      go_wp2_with (first
        | (go_at_call 15; with_reducible refine HAP.out.mono ?_; rintro e w5 ⟨v5, rfl, hR5, hb5⟩; have HR5 := Lib.hid hR5; have HB5 := Lib.hid hb5; clear hR5 hb5; obtain ⟨A5, c5, rfl⟩ := Kd.R_slice HR5.out)
        | (go_at_call 15; have HAQ := Lib.hid (patch_Apply.calls A5 c5 r1 Ag cg gs none 0 [] r2 w5 (Kd.R_reads' HR5.out).2.2 (Kd.R_reads' HR5.out).2.1 (ReadsRow.imp_ HRD.out HB5.out (fun p c hp => k24.K_below (HBr.out.trans (HB5.out.mono HBr.out.size)) hp)) hgc (Kd.C_nil _ _) (by simp) HA2.out); refine HAQ.out.mono ?_; rintro e w6 ⟨v6, rfl, hR6, hb6⟩; have HR6 := Lib.hid hR6; have HB6 := Lib.hid ((HBr.out.trans (HB5.out.mono HBr.out.size)).trans (hb6.mono (Nat.le_trans HBr.out.size HB5.out.size))); clear hR6 hb6; obtain ⟨A6, c6, rfl⟩ := Kd.R_slice HR6.out; have HC6 := Lib.hid (Kd.R_reads' HR6.out).2.2))
      refine start_ (n := 8) (S := fun w' => (convert 22 9 (Value.slice A6 r2.length c6)).run Try.prog w' = .ok (.string (strOfNums r2)) w') (ds := []) #[false, false, false, false, false, false, false, false] (by kernel_rfl) rfl rfl (Kd.C_string Try.underlying22 Try.underlying5 Try.underlying9 (Kd.C_drew HC6.out)) (fun hHeld => ?_)
      refine pure_ (i := 0) (N := some 63) (v := ?_) (a' := ?_) #[true, false, false, false, false, false, false, false] rfl rfl (by kernel_rfl) (fun _ _ _ h => h) (Or.inl ⟨by rfl, ?_⟩) ?_ ?_
      rotate_left
      · intro w'
        go_simp
        with_reducible rfl
      rotate_left
      · simp only [Act.put, List.setIfInBounds_toArray, List.set_cons_zero, List.set_cons_succ, i64_w, i32_w]
        rfl
      refine take_ (i := 1) (N := some 64) (v := ?_) (a' := ?_) #[true, true, false, false, false, false, false, false] rfl rfl (by kernel_rfl) (fun _ _ _ h => h) (Or.inl ⟨by rfl, ?_⟩) hHeld ?_ ?_
      rotate_left
      · intro w' s0
        go_simp
        with_reducible rfl
      rotate_left
      · simp only [Act.put, List.setIfInBounds_toArray, List.set_cons_zero, List.set_cons_succ, i64_w, i32_w]
        rfl
      refine pure_ (i := 2) (N := some 65) (v := ?_) (a' := ?_) #[true, true, true, false, false, false, false, false] rfl rfl (by kernel_rfl) (fun _ _ _ h => h) (Or.inl ⟨by rfl, ?_⟩) ?_ ?_
      rotate_left
      · intro w'
        go_simp
        with_reducible rfl
      rotate_left
      · simp only [Act.put, List.setIfInBounds_toArray, List.set_cons_zero, List.set_cons_succ, i64_w, i32_w]
        rfl
      refine pure_ (i := 3) (N := some 66) (v := ?_) (a' := ?_) #[true, true, true, true, false, false, false, false] rfl rfl (by kernel_rfl) (fun _ _ _ h => h) (Or.inl ⟨by rfl, ?_⟩) ?_ ?_
      rotate_left
      · intro w'
        go_simp
        with_reducible rfl
      rotate_left
      · simp only [Act.put, List.setIfInBounds_toArray, List.set_cons_zero, List.set_cons_succ, i64_w, i32_w]
        rfl
      refine one_ (i := 4) (N := some 67) #[true, true, true, true, true, false, false, false] rfl rfl (by kernel_rfl) (by decide) (fun K hK => ?_)
      refine goes_ Try.func15 (by kernel_rfl) rfl #[.slice A0 l0.length c0, .slice A1 l1.length c1, .slice none 0 0] (by rfl) rfl rfl (by (try simp only [List.map_toArray, List.map_cons, List.map_nil]); first | done | rfl) ?_
      refine (patch_Apply.calls A0 c0 l0 A1 c1 l1 none 0 [] r2 _ (Kd.C_drew (Kd.C_below HC0.out HB6.out)) hc0 (Kd.C_drew (Kd.C_below HC1.out HB6.out)) hc1 (Kd.C_nil _ _) (by simp) HA3.out).mono ?_
      rintro e w7 ⟨v7, rfl, hR7, hb7⟩
      obtain ⟨A7, c7, rfl⟩ := Kd.R_slice hR7
      have HC7 := Lib.hid (Kd.R_reads' hR7).2.2
      have HB7 := Lib.hid (hb7 : Below w6.heap.size w6.drew w7)
      clear hR7 hb7
      have hS7 := Kd.C_string (P := Try.prog) (c := c6) Try.underlying22 Try.underlying5 Try.underlying9 (Kd.C_below (Kd.C_drew HC6.out) HB7.out)
      refine ⟨_, rfl, ?_⟩
      refine hK.out _ _ hS7 (fun hHeld => ?_)
      clear hK K
      refine norm_ (a' := ?_) ?_ ?_
      rotate_left
      · show Act.put _ (some 67) _ = _
        simp only [Act.put, List.setIfInBounds_toArray, List.set_cons_zero, List.set_cons_succ, i64_w, i32_w]
        rfl
      refine one_ (i := 5) (N := some 68) #[true, true, true, true, true, true, false, false] rfl rfl (by kernel_rfl) (by decide) (fun K hK => ?_)
      have hcv := Kd.C_string (P := Try.prog) (c := c7) Try.underlying22 Try.underlying5 Try.underlying9 HC7.out
      refine value_ (w1 := ?_) (v := ?_) (by rfl) rfl ?_ ?_
      rotate_left 2
      · go_simp
        constructor
        · rfl
        · rfl
      clear hcv
      refine hK.out _ _ hS7 (fun hHeld => ?_)
      clear hK K
      refine norm_ (a' := ?_) ?_ ?_
      rotate_left
      · show Act.put _ (some 68) _ = _
        simp only [Act.put, List.setIfInBounds_toArray, List.set_cons_zero, List.set_cons_succ, i64_w, i32_w]
        rfl
      refine pure_ (i := 6) (N := some 69) (v := ?_) (a' := ?_) #[true, true, true, true, true, true, true, false] rfl rfl (by kernel_rfl) (fun _ _ _ h => h) (Or.inl ⟨by rfl, ?_⟩) ?_ ?_
      rotate_left
      · intro w'
        go_simp
        with_reducible rfl
      rotate_left
      · simp only [Act.put, List.setIfInBounds_toArray, List.set_cons_zero, List.set_cons_succ, i64_w, i32_w]
        rfl
      refine pure_ (i := 7) (N := some 6) (v := ?_) (a' := ?_) #[true, true, true, true, true, true, true, true] rfl rfl (by kernel_rfl) (fun _ _ _ h => h) (Or.inl ⟨by rfl, ?_⟩) ?_ ?_
      rotate_left
      · intro w'
        go_simp
        with_reducible rfl
      rotate_left
      · simp only [Act.put, List.setIfInBounds_toArray, List.set_cons_zero, List.set_cons_succ, i64_w, i32_w]
        rfl
      refine done_ (by kernel_rfl) ?_
      try go_wp2
      go_ret
      exact ⟨by first | rfl | simp, (below_drew HB6.out).trans (HB7.out.mono HB6.out.size)⟩

theorem patchLater_walk (A0 : Option Addr) (c0 : Nat) (l0 : List Int) (A1 : Option Addr) (c1 : Nat) (l1 : List S24) (A2 : Option Addr) (c2 : Nat) (l2 : List Int) (w : World)
    (hC0 : Kd.C (Kd.int .u8) w A0 l0.length l0) (hc0 : l0.length ≤ c0) (hC1 : Kd.C k24 w A1 l1.length l1) (hc1 : l1.length ≤ c1) (hC2 : Kd.C (Kd.int .i64) w A2 l2.length l2) (hc2 : l2.length ≤ c2)
    (w0 : l0.length ≤ maxLen ∧ ∀ y ∈ l0, (Lit.int .u8 y).wf = true) (w1 : l1.length ≤ maxLen ∧ ∀ y ∈ l1, ((Lit.int .i64 y.f0).wf = true ∧ (Lit.int .i64 y.f1).wf = true ∧ (y.f2.length ≤ maxLen ∧ ∀ z ∈ y.f2, (Lit.int .u8 z).wf = true))) (w2 : l2.length ≤ maxLen ∧ ∀ y ∈ l2, (Lit.int .i64 y).wf = true) :
    Calls Try.prog 8 #[.slice A0 l0.length c0, .slice A1 l1.length c1, .slice A2 l2.length c2] w fun e w' => e = .returned (.bool true) ∧ Below w.heap.size w w' := by
  obtain ⟨k, big, hbig, hsm⟩ := big_tells l1 (by have := w1.1; unfold maxLen at this; omega)
  by_cases h : big = true ∨ 3000 < l0.length ∨ 100 < l2.length
  · exact later_early A0 c0 l0 A1 c1 l1 A2 c2 l2 w hC0 hc0 hC1 hc1 hC2 hc2 k big hbig h
  cases big with
  | true => exact absurd (Or.inl rfl) h
  | false =>
    obtain ⟨hn, hlen⟩ := hsm rfl
    have h0 : l0.length ≤ 3000 := by omega
    have h2 : l2.length ≤ 100 := by omega
    have hok : l1.all okP = true := List.all_eq_true.2 fun q hq => by
      obtain ⟨i, hi, rfl⟩ := List.mem_iff_getElem.1 hq
      have hb := bounds_i64 (w1.2 _ (List.getElem_mem hi)).2.1
      have := hlen i hi
      simp only [rd_T24, Int.toNat_natCast, List.getD_eq_getElem?_getD, List.getElem?_eq_getElem hi, Option.getD_some] at this
      exact decide_eq_true (by omega)
    have hs : patch_Safe.f l1 l2 = some ((List.range l1.length).all (safeAt l1 l2)) := by
      unfold patch_Safe.f
      rw [if_pos ⟨by omega, by omega, hok⟩]
    cases hsafe : (List.range l1.length).all (safeAt l1 l2) with
    | false =>
      rw [hsafe] at hs
      exact later_unsafe A0 c0 l0 A1 c1 l1 A2 c2 l2 w hC0 hc0 hC1 hc1 hC2 hc2 k hbig h0 h2 hs
    | true =>
      rw [hsafe] at hs
      have hlaw := later_law l0 l1 l2 hsafe
      refine later_safe A0 c0 l0 A1 c1 l1 A2 c2 l2 w hC0 hc0 hC1 hc1 hC2 hc2 k (applyL l0 l1 (keptIdx l1 l2 l1.length)) (applyL l0 l1 (keptIdx l1 [] l1.length)) hbig h0 hn h2 hs ?_ ?_ ?_
      · unfold patch_Apply.f
        rw [if_pos ⟨by omega, by omega, by omega, hok⟩]
      · have := goneL_length l1 l2 l1.length
        unfold patch_Apply.f
        rw [if_pos ⟨by rw [applyL_length]; omega, by omega, by simp, goneL_ok hok (Nat.le_refl _)⟩, hlaw]
      · unfold patch_Apply.f
        rw [if_pos ⟨by omega, by omega, by simp, hok⟩]
end Go.Proofs.Ytemachlhoanngaa.Given
