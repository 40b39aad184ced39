/- PatchDiffs answers true: patch.Diff tells what the reference's tells, and its changes make 'to'; the walk by hand over the contracts. -/
import Derived.Test.YtemachlhoanngaaDiffP
import Derived.Deep.RegionWith
import Derived.LoopTactic
import Derived.Deep.LoopGhost
namespace Go.Proofs.Ytemachlhoanngaa.Given
open Go.RowKit Go.Proofs.YtemachlhoanngaaW.PrintWords Go.Proofs.YtemachlhoanngaaW.PrintLast Go.Proofs.YtemachlhoanngaaBase Go.Proofs.Ytemachlhoanngaa.PPFns Go.Proofs.Ytemachlhoanngaa.PDFns
set_option linter.unusedVariables false
set_option linter.unusedSimpArgs false

set_option maxRecDepth 100000 in
set_option maxHeartbeats 4000000 in
theorem diffs_early (A0 : Option Addr) (c0 : Nat) (l0 : List Int) (A1 : Option Addr) (c1 : Nat) (l1 : List Int) (w : World)
    (hC0 : Kd.C (Kd.int .u8) w A0 l0.length l0) (hc0 : l0.length ≤ c0) (hC1 : Kd.C (Kd.int .u8) w A1 l1.length l1) (hc1 : l1.length ≤ c1) (h : 3000 < l0.length ∨ 3000 < l1.length) :
    Calls Try.prog 4 #[.slice A0 l0.length c0, .slice A1 l1.length c1] w fun e w' => e = .returned (.bool true) ∧ Below w.heap.size w w' := by
  by_cases h0 : 3000 < l0.length
  · have t1 : decide ((l0.length : Int) > 3000) = true := decide_eq_true (by omega)
    go_enter Try.func4, Try.ntmps4
    go_wp2_with (first | (go_at_call 9; refine (lockgatelaw14_alive.calls true _ rfl).mono ?_; rintro e w1 ⟨rfl, hb⟩; have HB := Lib.hid hb; clear hb))
    go_ret
    exact ⟨rfl, HB.out⟩
  · have h2 : 3000 < l1.length := by simpa [h0] using h
    have t1 : decide ((l0.length : Int) > 3000) = false := decide_eq_false (by omega)
    have t2 : decide ((l1.length : Int) > 3000) = true := decide_eq_true (by omega)
    go_enter Try.func4, Try.ntmps4
    go_wp2_with (first | (go_at_call 9; refine (lockgatelaw14_alive.calls true _ rfl).mono ?_; rintro e w1 ⟨rfl, hb⟩; have HB := Lib.hid hb; clear hb))
    go_ret
    exact ⟨rfl, HB.out⟩

set_option maxRecDepth 100000 in
set_option maxHeartbeats 4000000 in
theorem diffs_ne (A0 : Option Addr) (c0 : Nat) (l0 : List Int) (A1 : Option Addr) (c1 : Nat) (l1 : List Int) (w : World)
    (hC0 : Kd.C (Kd.int .u8) w A0 l0.length l0) (hc0 : l0.length ≤ c0) (hC1 : Kd.C (Kd.int .u8) w A1 l1.length l1) (hc1 : l1.length ≤ c1) (rr : List S24) (kr ks : Nat) (h0 : l0.length ≤ 3000) (h1 : l1.length ≤ 3000) (hl : l0.length ≠ l1.length)
    (hd : patch_Diff.f l0 l1 = some rr) (hr : lockgateref11_Diff.f kr l0 l1 = some rr) (hs : lockgatelaw14_same.f ks rr rr = some true) :
    Calls Try.prog 4 #[.slice A0 l0.length c0, .slice A1 l1.length c1] w fun e w' => e = .returned (.bool true) ∧ Below w.heap.size w w' := by
  have HC0 := Lib.hid hC0
  have HC1 := Lib.hid hC1
  have HD := Lib.hid hd
  have HR := Lib.hid hr
  have HSM := Lib.hid hs
  clear hC0 hC1 hd hr hs
  have t1 : decide ((l0.length : Int) > 3000) = false := decide_eq_false (by omega)
  have t2 : decide ((l1.length : Int) > 3000) = false := decide_eq_false (by omega)
  have t3 : ((l0.length : Int) != (l1.length : Int)) = true := by simp; omega
  have t4 : ((l0.length : Int) == (l1.length : Int)) = false := by simp; omega
  have t5 : (l0.length == l1.length) = false := by simp [hl]
  go_enter Try.func4, Try.ntmps4
  go_wp2_with (first | (go_at_call 9; refine (lockgatelaw14_alive.calls true _ rfl).mono ?_; rintro e w1 ⟨rfl, hb⟩; have HB := Lib.hid hb; clear hb) | (go_at_call 12; refine (patch_Diff.calls A0 c0 l0 A1 c1 l1 rr _ (Kd.C_below HC0.out HB.out) hc0 (Kd.C_below HC1.out HB.out) hc1 HD.out).mono ?_; rintro e w2 ⟨v2, rfl, hS2, hb2⟩; have HB2 := Lib.hid (HB.out.trans (hb2.mono HB.out.size)); obtain ⟨A2, c2, rfl⟩ := Kd.S_slice hS2; have HCD := Lib.hid (Kd.S_reads' hS2).2.2; have HLC := Lib.hid (Kd.S_reads' hS2).2.1; clear hS2 hb2) | (go_at_call 14; refine (lockgateref11_Diff.calls kr A0 c0 l0 A1 c1 l1 rr _ (Kd.C_below HC0.out HB2.out) hc0 (Kd.C_below HC1.out HB2.out) hc1 HR.out).mono ?_; rintro e w3 ⟨v3, rfl, hS3, hb3⟩; have HB3 := Lib.hid (HB2.out.trans (hb3.mono HB2.out.size)); have HCD3 := Lib.hid (Kd.C_below HCD.out hb3); obtain ⟨A3, c3, rfl⟩ := Kd.S_slice hS3; have HCE := Lib.hid (Kd.S_reads' hS3).2.2; have HLE := Lib.hid (Kd.S_reads' hS3).2.1; clear hS3 hb3) | (go_at_call 13; refine (lockgatelaw14_same.calls ks A2 c2 rr A3 c3 rr true _ HCD3.out HLC.out HCE.out HLE.out HSM.out).mono ?_; rintro e w' ⟨rfl, hd⟩; obtain ⟨nd, rfl⟩ := hd))
  repeat (go_quiet (fail); try go_wp2)
  go_ret
  exact ⟨by first | rfl | simp, by (with_reducible repeat (first | exact HB3.out | apply pw_below_drewN | apply below_drew)); try exact HB3.out⟩

set_option maxRecDepth 100000 in
set_option maxHeartbeats 4000000 in
theorem diffs_eq (A0 : Option Addr) (c0 : Nat) (l0 : List Int) (A1 : Option Addr) (c1 : Nat) (l1 : List Int) (w : World)
    (hC0 : Kd.C (Kd.int .u8) w A0 l0.length l0) (hc0 : l0.length ≤ c0) (hC1 : Kd.C (Kd.int .u8) w A1 l1.length l1) (hc1 : l1.length ≤ c1) (rr : List S24) (kr ks : Nat) (h0 : l0.length ≤ 3000) (h1 : l1.length ≤ 3000) (hl : l0.length = l1.length)
    (hd : patch_Diff.f l0 l1 = some rr) (hr : lockgateref11_Diff.f kr l0 l1 = some rr) (hs : lockgatelaw14_same.f ks rr rr = some true) (ha : patch_Apply.f l0 rr [] = some l1) :
    Calls Try.prog 4 #[.slice A0 l0.length c0, .slice A1 l1.length c1] w fun e w' => e = .returned (.bool true) ∧ Below w.heap.size w w' := by
  have HC0 := Lib.hid hC0
  have HC1 := Lib.hid hC1
  have HD := Lib.hid hd
  have HR := Lib.hid hr
  have HSM := Lib.hid hs
  have HA := Lib.hid ha
  have t1 : decide ((l0.length : Int) > 3000) = false := decide_eq_false (by omega)
  have t2 : decide ((l1.length : Int) > 3000) = false := decide_eq_false (by omega)
  have t3 : ((l0.length : Int) != (l1.length : Int)) = false := by simp; omega
  have t4 : ((l0.length : Int) == (l1.length : Int)) = true := by simp; omega
  have t5 : (l0.length == l1.length) = true := by simp [hl]
  clear hC0 hC1 hd hr hs ha hl
  go_enter Try.func4, Try.ntmps4
  go_wp2_with (first | (go_at_call 9; refine (lockgatelaw14_alive.calls true _ rfl).mono ?_; rintro e w1 ⟨rfl, hb⟩; have HB := Lib.hid hb; clear hb) | (go_at_call 12; refine (patch_Diff.calls A0 c0 l0 A1 c1 l1 rr _ (Kd.C_below HC0.out HB.out) hc0 (Kd.C_below HC1.out HB.out) hc1 HD.out).mono ?_; rintro e w2 ⟨v2, rfl, hS2, hb2⟩; have HB2 := Lib.hid (HB.out.trans (hb2.mono HB.out.size)); obtain ⟨A2, c2, rfl⟩ := Kd.S_slice hS2; have HCD := Lib.hid (Kd.S_reads' hS2).2.2; have HLC := Lib.hid (Kd.S_reads' hS2).2.1; clear hS2 hb2) | (go_at_call 14; refine (lockgateref11_Diff.calls kr A0 c0 l0 A1 c1 l1 rr _ (Kd.C_below HC0.out HB2.out) hc0 (Kd.C_below HC1.out HB2.out) hc1 HR.out).mono ?_; rintro e w3 ⟨v3, rfl, hS3, hb3⟩; have HB3 := Lib.hid (HB2.out.trans (hb3.mono HB2.out.size)); have HCD3 := Lib.hid (Kd.C_below HCD.out hb3); obtain ⟨A3, c3, rfl⟩ := Kd.S_slice hS3; have HCE := Lib.hid (Kd.S_reads' hS3).2.2; have HLE := Lib.hid (Kd.S_reads' hS3).2.1; clear hS3 hb3) | (go_at_call 13; refine (lockgatelaw14_same.calls ks A2 c2 rr A3 c3 rr true _ HCD3.out HLC.out HCE.out HLE.out HSM.out).mono ?_; rintro e w' ⟨rfl, hd⟩; obtain ⟨nd, rfl⟩ := hd))
  have hcv1 := Kd.C_string (P := Try.prog) (c := c1) Try.underlying22 Try.underlying5 Try.underlying9 (Kd.C_drew (Kd.C_drewN (Kd.C_below HC1.out HB3.out) nd))
  refine start_ (n := 15) (S := fun w' => (convert 22 9 (Value.slice A1 l1.length c1)).run Try.prog w' = .ok (.string (strOfNums l1)) w') (ds := []) #[false, false, false, false, false, false, false, false, false, false, false, false, false, false, false] (by kernel_rfl) rfl rfl hcv1 (fun hHeld => ?_)
  clear hcv1
  refine pure_ (i := 0) (N := some 30) (v := ?_) (a' := ?_) #[true, false, false, false, false, false, false, false, false, false, false, false, false, false, false] rfl rfl (by kernel_rfl) (fun _ _ _ h => h) (Or.inl ⟨by rfl, ?_⟩) ?_ ?_
  rotate_left
  · intro w'
    go_simp
    with_reducible rfl
  rotate_left
  · simp only [Act.put, List.setIfInBounds_toArray, List.set_cons_zero, List.set_cons_succ, i64_w, i32_w]
    rfl
  refine pure_ (i := 1) (N := some 31) (v := ?_) (a' := ?_) #[true, true, false, false, false, false, false, false, false, false, false, false, false, false, false] rfl rfl (by kernel_rfl) (fun _ _ _ h => h) (Or.inl ⟨by rfl, ?_⟩) ?_ ?_
  rotate_left
  · intro w'
    go_simp
    with_reducible rfl
  rotate_left
  · simp only [Act.put, List.setIfInBounds_toArray, List.set_cons_zero, List.set_cons_succ, i64_w, i32_w]
    rfl
  refine pure_ (i := 2) (N := some 32) (v := ?_) (a' := ?_) #[true, true, true, false, false, false, false, false, false, false, false, false, false, false, false] rfl rfl (by kernel_rfl) (fun _ _ _ h => h) (Or.inl ⟨by rfl, ?_⟩) ?_ ?_
  rotate_left
  · intro w'
    go_simp
    with_reducible rfl
  rotate_left
  · simp only [Act.put, List.setIfInBounds_toArray, List.set_cons_zero, List.set_cons_succ, i64_w, i32_w]
    rfl
  refine pure_ (i := 3) (N := some 33) (v := ?_) (a' := ?_) #[true, true, true, true, false, false, false, false, false, false, false, false, false, false, false] rfl rfl (by kernel_rfl) (fun _ _ _ h => h) (Or.inl ⟨by rfl, ?_⟩) ?_ ?_
  rotate_left
  · intro w'
    go_simp
    with_reducible rfl
  rotate_left
  · simp only [Act.put, List.setIfInBounds_toArray, List.set_cons_zero, List.set_cons_succ, i64_w, i32_w]
    rfl
  refine pure_ (i := 4) (N := some 34) (v := ?_) (a' := ?_) #[true, true, true, true, true, false, false, false, false, false, false, false, false, false, false] rfl rfl (by kernel_rfl) (fun _ _ _ h => h) (Or.inl ⟨by rfl, ?_⟩) ?_ ?_
  rotate_left
  · intro w'
    go_simp
    with_reducible rfl
  rotate_left
  · simp only [Act.put, List.setIfInBounds_toArray, List.set_cons_zero, List.set_cons_succ, i64_w, i32_w]
    rfl
  refine pure_ (i := 5) (N := some 35) (v := ?_) (a' := ?_) #[true, true, true, true, true, true, false, false, false, false, false, false, false, false, false] rfl rfl (by kernel_rfl) (fun _ _ _ h => h) (Or.inl ⟨by rfl, ?_⟩) ?_ ?_
  rotate_left
  · intro w'
    go_simp
    with_reducible rfl
  rotate_left
  · simp only [Act.put, List.setIfInBounds_toArray, List.set_cons_zero, List.set_cons_succ, i64_w, i32_w]
    rfl
  refine pure_ (i := 6) (N := some 36) (v := ?_) (a' := ?_) #[true, true, true, true, true, true, true, false, false, false, false, false, false, false, false] rfl rfl (by kernel_rfl) (fun _ _ _ h => h) (Or.inl ⟨by rfl, ?_⟩) ?_ ?_
  rotate_left
  · intro w'
    go_simp
    with_reducible rfl
  rotate_left
  · simp only [Act.put, List.setIfInBounds_toArray, List.set_cons_zero, List.set_cons_succ, i64_w, i32_w]
    rfl
  refine pure_ (i := 7) (N := some 37) (v := ?_) (a' := ?_) #[true, true, true, true, true, true, true, true, false, false, false, false, false, false, false] rfl rfl (by kernel_rfl) (fun _ _ _ h => h) (Or.inl ⟨by rfl, ?_⟩) ?_ ?_
  rotate_left
  · intro w'
    go_simp
    with_reducible rfl
  rotate_left
  · simp only [Act.put, List.setIfInBounds_toArray, List.set_cons_zero, List.set_cons_succ, i64_w, i32_w]
    rfl
  refine pure_ (i := 10) (N := some 40) (v := ?_) (a' := ?_) #[true, true, true, true, true, true, true, true, false, false, true, false, false, false, false] rfl rfl (by kernel_rfl) (fun _ _ _ h => h) (Or.inl ⟨by rfl, ?_⟩) ?_ ?_
  rotate_left
  · intro w'
    go_simp
    with_reducible rfl
  rotate_left
  · simp only [Act.put, List.setIfInBounds_toArray, List.set_cons_zero, List.set_cons_succ, i64_w, i32_w]
    rfl
  refine take_ (i := 11) (N := some 41) (v := ?_) (a' := ?_) #[true, true, true, true, true, true, true, true, false, false, true, true, false, false, false] rfl rfl (by kernel_rfl) (fun _ _ _ h => h) (Or.inl ⟨by rfl, ?_⟩) hHeld ?_ ?_
  rotate_left
  · intro w' s0
    go_simp
    with_reducible rfl
  rotate_left
  · simp only [Act.put, List.setIfInBounds_toArray, List.set_cons_zero, List.set_cons_succ, i64_w, i32_w]
    rfl
  refine one_ (i := 8) (N := some 38) #[true, true, true, true, true, true, true, true, true, false, true, true, false, false, false] rfl rfl (by kernel_rfl) (by decide) (fun K hK => ?_)
  refine goes_ Try.func15 (by kernel_rfl) rfl #[.slice A0 l0.length c0, .slice A2 rr.length c2, .slice none 0 0] (by rfl) rfl rfl (by (try simp only [List.map_toArray, List.map_cons, List.map_nil]); first | done | rfl) ?_
  refine (patch_Apply.calls A0 c0 l0 A2 c2 rr none 0 [] l1 _ (Kd.C_drew (Kd.C_drewN (Kd.C_below HC0.out HB3.out) nd)) hc0 (Kd.C_drew (Kd.C_drewN HCD3.out nd)) HLC.out (Kd.C_nil _ _) (by simp) HA.out).mono ?_
  rintro e w7 ⟨v7, rfl, hR7, hb7⟩
  obtain ⟨A7, c7, rfl⟩ := Kd.R_slice hR7
  have HC7 := Lib.hid (Kd.R_reads' hR7).2.2
  have HB7 := Lib.hid (hb7 : Below w3.heap.size (w3.drewN nd).drew w7)
  clear hR7 hb7
  have hS7 := Kd.C_string (P := Try.prog) (c := c1) Try.underlying22 Try.underlying5 Try.underlying9 (Kd.C_below (Kd.C_drew (Kd.C_drewN (Kd.C_below HC1.out HB3.out) nd)) HB7.out)
  refine ⟨_, rfl, ?_⟩
  refine hK.out _ _ hS7 (fun hHeld => ?_)
  clear hK K
  refine norm_ (a' := ?_) ?_ ?_
  rotate_left
  · show Act.put _ (some 38) _ = _
    simp only [Act.put, List.setIfInBounds_toArray, List.set_cons_zero, List.set_cons_succ, i64_w, i32_w]
    rfl
  refine one_ (i := 9) (N := some 39) #[true, true, true, true, true, true, true, true, true, true, true, true, false, false, false] rfl rfl (by kernel_rfl) (by decide) (fun K hK => ?_)
  have hcv := Kd.C_string (P := Try.prog) (c := c7) Try.underlying22 Try.underlying5 Try.underlying9 HC7.out
  refine value_ (w1 := ?_) (v := ?_) (by rfl) rfl ?_ ?_
  rotate_left 2
  · go_simp
    constructor
    · rfl
    · rfl
  clear hcv
  refine hK.out _ _ hS7 (fun hHeld => ?_)
  clear hK K
  refine norm_ (a' := ?_) ?_ ?_
  rotate_left
  · show Act.put _ (some 39) _ = _
    simp only [Act.put, List.setIfInBounds_toArray, List.set_cons_zero, List.set_cons_succ, i64_w, i32_w]
    rfl
  refine pure_ (i := 12) (N := some 42) (v := ?_) (a' := ?_) #[true, true, true, true, true, true, true, true, true, true, true, true, true, false, false] rfl rfl (by kernel_rfl) (fun _ _ _ h => h) (Or.inl ⟨by rfl, ?_⟩) ?_ ?_
  rotate_left
  · intro w'
    go_simp
    with_reducible rfl
  rotate_left
  · simp only [Act.put, List.setIfInBounds_toArray, List.set_cons_zero, List.set_cons_succ, i64_w, i32_w]
    rfl
  refine pure_ (i := 13) (N := some 43) (v := ?_) (a' := ?_) #[true, true, true, true, true, true, true, true, true, true, true, true, true, true, false] rfl rfl (by kernel_rfl) (fun _ _ _ h => h) (Or.inl ⟨by rfl, ?_⟩) ?_ ?_
  rotate_left
  · intro w'
    go_simp
    with_reducible rfl
  rotate_left
  · simp only [Act.put, List.setIfInBounds_toArray, List.set_cons_zero, List.set_cons_succ, i64_w, i32_w]
    rfl
  refine pure_ (i := 14) (N := some 4) (v := ?_) (a' := ?_) #[true, true, true, true, true, true, true, true, true, true, true, true, true, true, true] rfl rfl (by kernel_rfl) (fun _ _ _ h => h) (Or.inl ⟨by rfl, ?_⟩) ?_ ?_
  rotate_left
  · intro w'
    go_simp
    with_reducible rfl
  rotate_left
  · simp only [Act.put, List.setIfInBounds_toArray, List.set_cons_zero, List.set_cons_succ, i64_w, i32_w]
    rfl
  refine done_ (by kernel_rfl) ?_
  try go_wp2
  go_ret
  exact ⟨by first | rfl | simp, (below_drew (pw_below_drewN HB3.out nd)).trans (HB7.out.mono HB3.out.size)⟩

theorem patchDiffs_walk (A0 : Option Addr) (c0 : Nat) (l0 : List Int) (A1 : Option Addr) (c1 : Nat) (l1 : List Int) (w : World)
    (hC0 : Kd.C (Kd.int .u8) w A0 l0.length l0) (hc0 : l0.length ≤ c0) (hC1 : Kd.C (Kd.int .u8) w A1 l1.length l1) (hc1 : l1.length ≤ c1)
    (w0 : l0.length ≤ maxLen ∧ ∀ y ∈ l0, (Lit.int .u8 y).wf = true) (w1 : l1.length ≤ maxLen ∧ ∀ y ∈ l1, (Lit.int .u8 y).wf = true) :
    Calls Try.prog 4 #[.slice A0 l0.length c0, .slice A1 l1.length c1] w fun e w' => e = .returned (.bool true) ∧ Below w.heap.size w w' := by
  by_cases h : 3000 < l0.length ∨ 3000 < l1.length
  · exact diffs_early A0 c0 l0 A1 c1 l1 w hC0 hc0 hC1 hc1 h
  have h0 : l0.length ≤ 3000 := by omega
  have h1 : l1.length ≤ 3000 := by omega
  obtain ⟨kr, hr⟩ := ref_tells l0 l1 h0
  have hd : patch_Diff.f l0 l1 = some (if l0.length = l1.length then (stD l0 l1 l0.length).1 else []) := by
    unfold patch_Diff.f
    rw [if_pos (by omega)]
  have hrl : (if l0.length = l1.length then (stD l0 l1 l0.length).1 else []).length ≤ 3000 := by
    split
    · have := (stD_inv l0 l1 l0.length).1
      omega
    · simp
  obtain ⟨ks, hs⟩ := same_tells _ hrl
  by_cases hl : l0.length = l1.length
  · rw [if_pos hl] at hr hd hs
    exact diffs_eq A0 c0 l0 A1 c1 l1 w hC0 hc0 hC1 hc1 _ kr ks h0 h1 hl hd hr hs (diff_ok l0 l1 hl h0)
  · rw [if_neg hl] at hr hd hs
    exact diffs_ne A0 c0 l0 A1 c1 l1 w hC0 hc0 hC1 hc1 _ kr ks h0 h1 hl hd hr hs
end Go.Proofs.Ytemachlhoanngaa.Given
