/- PatchApplies answers true: the bytes that any changes make, and whether that is safe, are as the reference has them; by hand over the contracts. -/
import Derived.Test.YtemachlhoanngaaPlainA
import Derived.Deep.RegionWith
import Derived.LoopTactic
import Derived.Deep.LoopGhost
namespace Go.Proofs.Ytemachlhoanngaa.Given
open Go.RowKit Go.Proofs.YtemachlhoanngaaW.PrintWords Go.Proofs.YtemachlhoanngaaW.PrintLast Go.Proofs.YtemachlhoanngaaBase Go.Proofs.Ytemachlhoanngaa.PPFns
set_option linter.unusedVariables false
set_option linter.unusedSimpArgs false

set_option maxRecDepth 100000 in
set_option maxHeartbeats 2000000 in
theorem applies_early (A0 : Option Addr) (c0 : Nat) (l0 : List Int) (A1 : Option Addr) (c1 : Nat) (l1 : List S24) (A2 : Option Addr) (c2 : Nat) (l2 : List Int) (w : World)
    (hC0 : Kd.C (Kd.int .u8) w A0 l0.length l0) (hc0 : l0.length ≤ c0) (hC1 : Kd.C k24 w A1 l1.length l1) (hc1 : l1.length ≤ c1) (hC2 : Kd.C (Kd.int .i64) w A2 l2.length l2) (hc2 : l2.length ≤ c2) (k : Nat) (big : Bool) (hbig : lockgatelaw14_Big.f k l1 = some big) (h : big = true ∨ 3000 < l0.length ∨ 100 < l2.length) :
    Calls Try.prog 7 #[.slice A0 l0.length c0, .slice A1 l1.length c1, .slice A2 l2.length c2] w fun e w' => e = .returned (.bool true) ∧ Below w.heap.size w w' := by
  have HC1 := Lib.hid hC1
  have HBIG := Lib.hid hbig
  clear hC0 hC1 hC2 hbig
  cases big with
  | true =>
    go_enter Try.func7, Try.ntmps7
    go_wp2_with (first | (go_at_call 9; refine (lockgatelaw14_alive.calls true _ rfl).mono ?_; rintro e w1 ⟨rfl, hb⟩; have HB := Lib.hid hb; clear hb) | (go_at_call 16; refine (lockgatelaw14_Big.calls k A1 c1 l1 true _ (Kd.C_below HC1.out HB.out) hc1 HBIG.out).mono ?_; rintro e w' ⟨rfl, hd⟩; obtain ⟨nd, rfl⟩ := hd))
    go_ret
    exact ⟨rfl, pw_below_drewN HB.out _⟩
  | false =>
    by_cases h0 : 3000 < l0.length
    · have t1 : decide ((l0.length : Int) > 3000) = true := decide_eq_true (by omega)
      go_enter Try.func7, Try.ntmps7
      go_wp2_with (first | (go_at_call 9; refine (lockgatelaw14_alive.calls true _ rfl).mono ?_; rintro e w1 ⟨rfl, hb⟩; have HB := Lib.hid hb; clear hb) | (go_at_call 16; refine (lockgatelaw14_Big.calls k A1 c1 l1 false _ (Kd.C_below HC1.out HB.out) hc1 HBIG.out).mono ?_; rintro e w' ⟨rfl, hd⟩; obtain ⟨nd, rfl⟩ := hd))
      go_ret
      exact ⟨rfl, pw_below_drewN HB.out _⟩
    · have h2 : 100 < l2.length := by simpa [h0] using h
      have t1 : decide ((l0.length : Int) > 3000) = false := decide_eq_false (by omega)
      have t2 : decide ((l2.length : Int) > 100) = true := decide_eq_true (by omega)
      go_enter Try.func7, Try.ntmps7
      go_wp2_with (first | (go_at_call 9; refine (lockgatelaw14_alive.calls true _ rfl).mono ?_; rintro e w1 ⟨rfl, hb⟩; have HB := Lib.hid hb; clear hb) | (go_at_call 16; refine (lockgatelaw14_Big.calls k A1 c1 l1 false _ (Kd.C_below HC1.out HB.out) hc1 HBIG.out).mono ?_; rintro e w' ⟨rfl, hd⟩; obtain ⟨nd, rfl⟩ := hd))
      go_ret
      exact ⟨rfl, pw_below_drewN HB.out _⟩


set_option maxRecDepth 100000 in
set_option maxHeartbeats 1000000 in
theorem applies_all (A0 : Option Addr) (c0 : Nat) (l0 : List Int) (A1 : Option Addr) (c1 : Nat) (l1 : List S24) (A2 : Option Addr) (c2 : Nat) (l2 : List Int) (w : World)
    (hC0 : Kd.C (Kd.int .u8) w A0 l0.length l0) (hc0 : l0.length ≤ c0) (hC1 : Kd.C k24 w A1 l1.length l1) (hc1 : l1.length ≤ c1) (hC2 : Kd.C (Kd.int .i64) w A2 l2.length l2) (hc2 : l2.length ≤ c2) (k ka ks : Nat) (r1 : List Int) (sf : Bool) (hbig : lockgatelaw14_Big.f k l1 = some false) (h0 : l0.length ≤ 3000) (h1 : l1.length ≤ 60) (h2 : l2.length ≤ 100)
    (ha : patch_Apply.f l0 l1 l2 = some r1) (hra : lockgateref11_Apply.f ka l0 l1 l2 = some r1) (hrl : r1.length = l0.length) (hs : patch_Safe.f l1 l2 = some sf) (hrs : lockgateref11_Safe.f ks l1 l2 = some sf) :
    Calls Try.prog 7 #[.slice A0 l0.length c0, .slice A1 l1.length c1, .slice A2 l2.length c2] w fun e w' => e = .returned (.bool true) ∧ Below w.heap.size w w' := by
  have HC0 := Lib.hid hC0
  have HC1 := Lib.hid hC1
  have HC2 := Lib.hid hC2
  have HBIG := Lib.hid hbig
  have HA := Lib.hid ha
  have HRA := Lib.hid hra
  have HS := Lib.hid hs
  have HRS := Lib.hid hrs
  have HRL := Lib.hid hrl
  clear hC0 hC1 hC2 hbig ha hra hs hrs hrl
  have t1 : decide ((l0.length : Int) > 3000) = false := decide_eq_false (by omega)
  have t2 : decide ((l2.length : Int) > 100) = false := decide_eq_false (by omega)
  go_enter Try.func7, Try.ntmps7
  go_wp2_with (first
    | (go_at_call 9; refine (lockgatelaw14_alive.calls true _ rfl).mono ?_; rintro e w1 ⟨rfl, hb⟩; have HB := Lib.hid hb; clear hb)
    | (go_at_call 16; refine (lockgatelaw14_Big.calls k A1 c1 l1 false _ (Kd.C_below HC1.out HB.out) hc1 HBIG.out).mono ?_; rintro e w' ⟨rfl, hd⟩; obtain ⟨nd, rfl⟩ := hd)
    | (at_builtin; refine Kd.R_append_rows (Kd.int .u8) (w0 := w) w.heap.size rfl (.const (.slice none 0 0)) (.tmp 32) 22 5 (.int .u8 0) 1 rfl Try.underlying22 info5 rfl (by decide) (by omega) (.slice none 0 0) [] l0 _ _ c0 (fun _ => True) (fun _ => False) rfl rfl (Kd.R_nil _ _ _ _ _) (Kd.C_below HC0.out (pw_below_drewN HB.out _)) (fun _ _ h => h) (fun _ h => h.elim) (fun _ _ => trivial) (pw_below_drewN HB.out _) HB.out.size (by simp; omega) ?_; intro v5 w2 hown hb2 hg hat; obtain ⟨A5, c5, rfl⟩ := Kd.R_slice hown; rw [List.nil_append] at hown ⊢; have HO := Lib.hid hown; have HB2 := Lib.hid hb2; clear hown hb2 hg hat)
    | (go_at_call 15; refine (patch_Apply.calls A5 c5 l0 A1 c1 l1 A2 c2 l2 r1 w2 (Kd.R_reads' HO.out).2.2 (Kd.R_reads' HO.out).2.1 (Kd.C_below HC1.out HB2.out) hc1 (Kd.C_below HC2.out HB2.out) hc2 HA.out).mono ?_; rintro e w3 ⟨v6, rfl, hR6, hb6⟩; have HR6 := Lib.hid hR6; have HB6 := Lib.hid hb6; clear hR6 hb6; obtain ⟨A6, c6, rfl⟩ := Kd.R_slice HR6.out))
  have HB3 := Lib.hid (HB2.out.trans (HB6.out.mono HB2.out.size))
  have HB7 := Lib.hid (Kd.R_reads' HR6.out).2.2
  have HO3 := Lib.hid (Kd.C_below (Kd.R_reads' HO.out).2.2 HB6.out)
  have HO7 := HO3
  have HL7 := Lib.hid (Kd.C_below HC0.out HB3.out)
  refine start_ (n := 16) (S := fun w' => (convert 22 9 (Value.slice A6 r1.length c6)).run Try.prog w' = .ok (.string (strOfNums r1)) w' ∧ (convert 22 9 (Value.slice A5 l0.length c5)).run Try.prog w' = .ok (.string (strOfNums l0)) w' ∧ (convert 22 9 (Value.slice A0 l0.length c0)).run Try.prog w' = .ok (.string (strOfNums l0)) w') (ds := []) #[false, false, false, false, false, false, false, false, false, false, false, false, false, false, false, false] (by kernel_rfl) rfl rfl ⟨Kd.C_string (P := Try.prog) Try.underlying22 Try.underlying5 Try.underlying9 (Kd.C_drew HB7.out), Kd.C_string (P := Try.prog) Try.underlying22 Try.underlying5 Try.underlying9 (Kd.C_drew HO7.out), Kd.C_string (P := Try.prog) Try.underlying22 Try.underlying5 Try.underlying9 (Kd.C_drew HL7.out)⟩ (fun hHeld => ?_)
  refine pure_ (i := 0) (N := some 38) (v := ?_) (a' := ?_) #[true, false, false, false, false, false, false, false, false, false, false, false, false, false, false, false] rfl rfl (by kernel_rfl) (fun _ _ _ h => h) (Or.inl ⟨by rfl, ?_⟩) ?_ ?_
  rotate_left
  · intro w'
    go_simp
    with_reducible rfl
  rotate_left
  · simp only [Act.put, List.setIfInBounds_toArray, List.set_cons_zero, List.set_cons_succ, i64_w, i32_w]
    rfl
  refine take_ (i := 1) (N := some 39) (v := ?_) (a' := ?_) #[true, true, false, false, false, false, false, false, false, false, false, false, false, false, false, false] rfl rfl (by kernel_rfl) (fun _ _ _ h => h) (Or.inl ⟨by rfl, ?_⟩) hHeld ?_ ?_
  rotate_left
  · rintro w' ⟨s0, s1, s2⟩
    go_simp
    with_reducible rfl
  rotate_left
  · simp only [Act.put, List.setIfInBounds_toArray, List.set_cons_zero, List.set_cons_succ, i64_w, i32_w]
    rfl
  refine pure_ (i := 2) (N := some 40) (v := ?_) (a' := ?_) #[true, true, true, false, false, false, false, false, false, false, false, false, false, false, false, false] rfl rfl (by kernel_rfl) (fun _ _ _ h => h) (Or.inl ⟨by rfl, ?_⟩) ?_ ?_
  rotate_left
  · intro w'
    go_simp
    with_reducible rfl
  rotate_left
  · simp only [Act.put, List.setIfInBounds_toArray, List.set_cons_zero, List.set_cons_succ, i64_w, i32_w]
    rfl
  refine pure_ (i := 3) (N := some 41) (v := ?_) (a' := ?_) #[true, true, true, true, false, false, false, false, false, false, false, false, false, false, false, false] rfl rfl (by kernel_rfl) (fun _ _ _ h => h) (Or.inl ⟨by rfl, ?_⟩) ?_ ?_
  rotate_left
  · intro w'
    go_simp
    with_reducible rfl
  rotate_left
  · simp only [Act.put, List.setIfInBounds_toArray, List.set_cons_zero, List.set_cons_succ, i64_w, i32_w]
    rfl
  refine pure_ (i := 4) (N := some 42) (v := ?_) (a' := ?_) #[true, true, true, true, true, false, false, false, false, false, false, false, false, false, false, false] rfl rfl (by kernel_rfl) (fun _ _ _ h => h) (Or.inl ⟨by rfl, ?_⟩) ?_ ?_
  rotate_left
  · intro w'
    go_simp
    with_reducible rfl
  rotate_left
  · simp only [Act.put, List.setIfInBounds_toArray, List.set_cons_zero, List.set_cons_succ, i64_w, i32_w]
    rfl
  refine one_ (i := 5) (N := some 43) #[true, true, true, true, true, true, false, false, false, false, false, false, false, false, false, false] rfl rfl (by kernel_rfl) (by decide) (fun K hK => ?_)
  refine goes_ Try.func17 (by kernel_rfl) rfl #[.slice A0 l0.length c0, .slice A1 l1.length c1, .slice A2 l2.length c2] (by rfl) rfl rfl (by (try simp only [List.map_toArray, List.map_cons, List.map_nil]); first | done | rfl) ?_
  refine (lockgateref11_Apply.calls ka A0 c0 l0 A1 c1 l1 A2 c2 l2 r1 _ (Kd.C_drew HL7.out) hc0 (Kd.C_drew (Kd.C_below HC1.out HB3.out)) hc1 (Kd.C_drew (Kd.C_below HC2.out HB3.out)) hc2 HRA.out).mono ?_
  rintro e w7 ⟨v7, rfl, hR7, hb7⟩
  obtain ⟨A7, c7, rfl⟩ := Kd.R_slice hR7
  have HC7 := Lib.hid (Kd.R_reads' hR7).2.2
  have HB47 := Lib.hid (hb7 : Below w3.heap.size w3.drew w7)
  clear hR7 hb7
  have hS7 := And.intro (Kd.C_string (P := Try.prog) Try.underlying22 Try.underlying5 Try.underlying9 (c := c6) (Kd.C_below (Kd.C_drew HB7.out) HB47.out)) (And.intro (Kd.C_string (P := Try.prog) Try.underlying22 Try.underlying5 Try.underlying9 (c := c5) (Kd.C_below (Kd.C_drew HO7.out) HB47.out)) (Kd.C_string (P := Try.prog) Try.underlying22 Try.underlying5 Try.underlying9 (c := c0) (Kd.C_below (Kd.C_drew HL7.out) HB47.out)))
  refine ⟨_, rfl, ?_⟩
  refine hK.out _ _ hS7 (fun hHeld => ?_)
  clear hK K
  refine norm_ (a' := ?_) ?_ ?_
  rotate_left
  · show Act.put _ (some 43) _ = _
    simp only [Act.put, List.setIfInBounds_toArray, List.set_cons_zero, List.set_cons_succ, i64_w, i32_w]
    rfl
  refine one_ (i := 6) (N := some 44) #[true, true, true, true, true, true, true, false, false, false, false, false, false, false, false, false] rfl rfl (by kernel_rfl) (by decide) (fun K hK => ?_)
  have hcv := Kd.C_string (P := Try.prog) Try.underlying22 Try.underlying5 Try.underlying9 (c := c7) HC7.out
  refine value_ (w1 := ?_) (v := ?_) (by rfl) rfl ?_ ?_
  rotate_left 2
  · go_simp
    constructor
    · rfl
    · rfl
  clear hcv
  refine hK.out _ _ hS7 (fun hHeld => ?_)
  clear hK K
  refine norm_ (a' := ?_) ?_ ?_
  rotate_left
  · show Act.put _ (some 44) _ = _
    simp only [Act.put, List.setIfInBounds_toArray, List.set_cons_zero, List.set_cons_succ, i64_w, i32_w]
    rfl
  refine pure_ (i := 7) (N := some 45) (v := ?_) (a' := ?_) #[true, true, true, true, true, true, true, true, false, false, false, false, false, false, false, false] rfl rfl (by kernel_rfl) (fun _ _ _ h => h) (Or.inl ⟨by rfl, ?_⟩) ?_ ?_
  rotate_left
  · intro w'
    go_simp
    with_reducible rfl
  rotate_left
  · simp only [Act.put, List.setIfInBounds_toArray, List.set_cons_zero, List.set_cons_succ, i64_w, i32_w]
    rfl
  refine pure_ (i := 8) (N := some 46) (v := ?_) (a' := ?_) #[true, true, true, true, true, true, true, true, true, false, false, false, false, false, false, false] rfl rfl (by kernel_rfl) (fun _ _ _ h => h) (Or.inl ⟨by rfl, ?_⟩) ?_ ?_
  rotate_left
  · intro w'
    go_simp
    with_reducible rfl
  rotate_left
  · simp only [Act.put, List.setIfInBounds_toArray, List.set_cons_zero, List.set_cons_succ, i64_w, i32_w]
    rfl
  refine pure_ (i := 9) (N := some 47) (v := ?_) (a' := ?_) #[true, true, true, true, true, true, true, true, true, true, false, false, false, false, false, false] rfl rfl (by kernel_rfl) (fun _ _ _ h => h) (Or.inl ⟨by rfl, ?_⟩) ?_ ?_
  rotate_left
  · intro w'
    go_simp
    with_reducible rfl
  rotate_left
  · simp only [Act.put, List.setIfInBounds_toArray, List.set_cons_zero, List.set_cons_succ, i64_w, i32_w]
    rfl
  refine take_ (i := 10) (N := some 48) (v := ?_) (a' := ?_) #[true, true, true, true, true, true, true, true, true, true, true, false, false, false, false, false] rfl rfl (by kernel_rfl) (fun _ _ _ h => h) (Or.inl ⟨by rfl, ?_⟩) hHeld ?_ ?_
  rotate_left
  · rintro w' ⟨s0, s1, s2⟩
    go_simp
    with_reducible rfl
  rotate_left
  · simp only [Act.put, List.setIfInBounds_toArray, List.set_cons_zero, List.set_cons_succ, i64_w, i32_w]
    rfl
  refine pure_ (i := 11) (N := some 49) (v := ?_) (a' := ?_) #[true, true, true, true, true, true, true, true, true, true, true, true, false, false, false, false] rfl rfl (by kernel_rfl) (fun _ _ _ h => h) (Or.inl ⟨by rfl, ?_⟩) ?_ ?_
  rotate_left
  · intro w'
    go_simp
    with_reducible rfl
  rotate_left
  · simp only [Act.put, List.setIfInBounds_toArray, List.set_cons_zero, List.set_cons_succ, i64_w, i32_w]
    rfl
  refine take_ (i := 12) (N := some 50) (v := ?_) (a' := ?_) #[true, true, true, true, true, true, true, true, true, true, true, true, true, false, false, false] rfl rfl (by kernel_rfl) (fun _ _ _ h => h) (Or.inl ⟨by rfl, ?_⟩) hHeld ?_ ?_
  rotate_left
  · rintro w' ⟨s0, s1, s2⟩
    go_simp
    with_reducible rfl
  rotate_left
  · simp only [Act.put, List.setIfInBounds_toArray, List.set_cons_zero, List.set_cons_succ, i64_w, i32_w]
    rfl
  refine pure_ (i := 13) (N := some 51) (v := ?_) (a' := ?_) #[true, true, true, true, true, true, true, true, true, true, true, true, true, true, false, false] rfl rfl (by kernel_rfl) (fun _ _ _ h => h) (Or.inl ⟨by rfl, ?_⟩) ?_ ?_
  rotate_left
  · intro w'
    go_simp
    with_reducible rfl
  rotate_left
  · simp only [Act.put, List.setIfInBounds_toArray, List.set_cons_zero, List.set_cons_succ, i64_w, i32_w]
    rfl
  refine pure_ (i := 14) (N := some 52) (v := ?_) (a' := ?_) #[true, true, true, true, true, true, true, true, true, true, true, true, true, true, true, false] rfl rfl (by kernel_rfl) (fun _ _ _ h => h) (Or.inl ⟨by rfl, ?_⟩) ?_ ?_
  rotate_left
  · intro w'
    go_simp
    with_reducible rfl
  rotate_left
  · simp only [Act.put, List.setIfInBounds_toArray, List.set_cons_zero, List.set_cons_succ, i64_w, i32_w]
    rfl
  refine pure_ (i := 15) (N := some 11) (v := ?_) (a' := ?_) #[true, true, true, true, true, true, true, true, true, true, true, true, true, true, true, true] rfl rfl (by kernel_rfl) (fun _ _ _ h => h) (Or.inl ⟨by rfl, ?_⟩) ?_ ?_
  rotate_left
  · intro w'
    go_simp
    with_reducible rfl
  rotate_left
  · simp only [Act.put, List.setIfInBounds_toArray, List.set_cons_zero, List.set_cons_succ, i64_w, i32_w]
    rfl
  refine done_ (by kernel_rfl) ?_
  have hs3 : w2.heap.size ≤ w3.heap.size := HB6.out.size
  have HBW := Lib.hid (HB6.out.trans ((below_drew (Below.refl _ _)).trans HB47.out |>.mono hs3))
  have HRW := Lib.hid (Kd.R_below (Kd.R_drew HR6.out) HB47.out)
  have HO2 := Lib.hid (Kd.R_reads' HO.out).2.2
  have HL2 := Lib.hid (Kd.C_below HC0.out HB2.out)
  clear HO3 HO7 HB7 HL7 HC7 HR6 HB47 hHeld hS7
  go_wp2
  go_loopw [12] (fun i wr => ∃ (j : Nat) (xs : List Int), j ≤ r1.length ∧ i = .int .i64 (j : Int) ∧ Hid (xs.length = r1.length) ∧ Hid (Kd.R (Kd.int .u8) 5 wr w2.heap.size (fun _ => True) (.slice A6 r1.length c6) xs) ∧ Hid (Below w2.heap.size w2 wr)) (fun i _ => r1.length - (intOf i).toNat)
  case atStart => exact ⟨0, r1, Nat.zero_le _, rfl, Lib.hid rfl, HRW, HBW⟩
  case round =>
    obtain ⟨j, xs, hj, rfl, HX, HR, HBX⟩ := hrel
    have hrl := HRL.out
    by_cases hlt : j < r1.length
    · have hlt' : (j : Int) < (r1.length : Int) := by omega
      obtain ⟨g, cap, e, gb, gl, cells, hg⟩ := Kd.R_form HR.out (by rw [HX.out]; omega)
      injection e with e1 e2 e3
      subst e1
      subst e3
      obtain ⟨hcj, hfj⟩ := Kd.R_celln 0 HR.out (j : Int) (by omega) hlt'
      have HP := Lib.hid (fun x => (Kd.R_putn HR.out (j : Int) x))
      simp only [Int.toNat_natCast] at hcj hfj
      clear hg
      go_wp2
      go_roundw
      case rel => exact ⟨j + 1, _, by omega, by go_num, Lib.hid (by rw [List.length_set]; exact HX.out), Lib.hid (HP.out _), Lib.hid (below_set HBX.out gb)⟩
      case measure => simp [intOf]; omega
    · obtain rfl : j = r1.length := by omega
      have hcA := Kd.C_string (P := Try.prog) Try.underlying22 Try.underlying5 Try.underlying9 (c := c5) (Kd.C_below HO2.out HBX.out)
      have hcB := Kd.C_string (P := Try.prog) Try.underlying22 Try.underlying5 Try.underlying9 (c := c0) (Kd.C_below HL2.out HBX.out)
      have HBY := Lib.hid (HB2.out.trans (HBX.out.mono HB2.out.size))
      go_wp2_with (first
        | (go_at_call 18; refine (patch_Safe.calls A1 c1 l1 A2 c2 l2 sf _ (Kd.C_below HC1.out HBY.out) hc1 (Kd.C_below HC2.out HBY.out) hc2 HS.out).mono ?_; rintro e w8 ⟨rfl, hb8⟩; have HB8 := Lib.hid (HBY.out.trans (hb8.mono HBY.out.size)); clear hb8)
        | (go_at_call 19; refine (lockgateref11_Safe.calls ks A1 c1 l1 A2 c2 l2 sf _ (Kd.C_below HC1.out HB8.out) hc1 (Kd.C_below HC2.out HB8.out) hc2 HRS.out).mono ?_; rintro e w9 ⟨rfl, hb9⟩; have HB9 := Lib.hid (HB8.out.trans (hb9.mono HB8.out.size)); clear hb9))
      go_ret
      exact ⟨by first | rfl | simp, HB9.out⟩

theorem patchApplies_walk (A0 : Option Addr) (c0 : Nat) (l0 : List Int) (A1 : Option Addr) (c1 : Nat) (l1 : List S24) (A2 : Option Addr) (c2 : Nat) (l2 : List Int) (w : World)
    (hC0 : Kd.C (Kd.int .u8) w A0 l0.length l0) (hc0 : l0.length ≤ c0) (hC1 : Kd.C k24 w A1 l1.length l1) (hc1 : l1.length ≤ c1) (hC2 : Kd.C (Kd.int .i64) w A2 l2.length l2) (hc2 : l2.length ≤ c2)
    (w0 : l0.length ≤ maxLen ∧ ∀ y ∈ l0, (Lit.int .u8 y).wf = true) (w1 : l1.length ≤ maxLen ∧ ∀ y ∈ l1, ((Lit.int .i64 y.f0).wf = true ∧ (Lit.int .i64 y.f1).wf = true ∧ (y.f2.length ≤ maxLen ∧ ∀ z ∈ y.f2, (Lit.int .u8 z).wf = true))) (w2 : l2.length ≤ maxLen ∧ ∀ y ∈ l2, (Lit.int .i64 y).wf = true) :
    Calls Try.prog 7 #[.slice A0 l0.length c0, .slice A1 l1.length c1, .slice A2 l2.length c2] w fun e w' => e = .returned (.bool true) ∧ Below w.heap.size w w' := by
  obtain ⟨k, big, hbig, hsm⟩ := big_tells l1 (by have := w1.1; unfold maxLen at this; omega)
  by_cases h : big = true ∨ 3000 < l0.length ∨ 100 < l2.length
  · exact applies_early A0 c0 l0 A1 c1 l1 A2 c2 l2 w hC0 hc0 hC1 hc1 hC2 hc2 k big hbig h
  cases big with
  | true => exact absurd (Or.inl rfl) h
  | false =>
    obtain ⟨hn, hlen⟩ := hsm rfl
    have h0 : l0.length ≤ 3000 := by omega
    have h2 : l2.length ≤ 100 := by omega
    have hok : l1.all okP = true := List.all_eq_true.2 fun q hq => by
      obtain ⟨i, hi, rfl⟩ := List.mem_iff_getElem.1 hq
      have hb := bounds_i64 (w1.2 _ (List.getElem_mem hi)).2.1
      have := hlen i hi
      simp only [rd_T24, Int.toNat_natCast, List.getD_eq_getElem?_getD, List.getElem?_eq_getElem hi, Option.getD_some] at this
      exact decide_eq_true (by omega)
    obtain ⟨ka, hka⟩ := refApply_tells l1 l2 l0 h0 hok h2 hlen hn
    obtain ⟨ks, hks⟩ := refSafe_tells l1 l2 hok h2 hlen hn
    refine applies_all A0 c0 l0 A1 c1 l1 A2 c2 l2 w hC0 hc0 hC1 hc1 hC2 hc2 k ka ks _ _ hbig h0 hn h2 ?_ hka (applyL_length _ _ _) ?_ hks
    · unfold patch_Apply.f
      rw [if_pos ⟨by omega, by omega, by omega, hok⟩]
    · unfold patch_Safe.f
      rw [if_pos ⟨by omega, by omega, hok⟩]
end Go.Proofs.Ytemachlhoanngaa.Given
