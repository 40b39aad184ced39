/- BitsTell answers true: the bits that the program tells are the reference's, and what was handed in stays; by hand over the contracts. -/
import Derived.Test.YtngkneggkjfiiaaPlainT
import Derived.Test.YtngkneggkjfiiaaBaseIn
import Derived.Deep.RegionWith
import Derived.LoopTactic
import Derived.Deep.LoopGhost
import Derived.Outline
namespace Go.Proofs.Ytngkneggkjfiiaa.Given
open Go.RowKit Go.Proofs.YtngkneggkjfiiaaW.PrintWords Go.Proofs.YtngkneggkjfiiaaW.PrintLast Go.Proofs.YtngkneggkjfiiaaW.PrintMore Go.Proofs.YtngkneggkjfiiaaBase Go.Proofs.Ytngkneggkjfiiaa.PGet Go.Proofs.Ytngkneggkjfiiaa.PWith Go.Proofs.Ytngkneggkjfiiaa.PBitsFns
set_option linter.unusedVariables false
set_option linter.unusedSimpArgs false

set_option maxRecDepth 100000 in
set_option maxHeartbeats 2000000 in
theorem bitsTell_big (A0 : Option Addr) (c0 : Nat) (l0 : List Int) (a1 a2 a3 : Int) (a4 : Bool) (w : World) (h : 2000 < l0.length) :
    Calls Try.prog 3 #[.slice A0 l0.length c0, .int .i64 a1, .int .i64 a2, .int .i64 a3, .bool a4] w fun e w' => e = .returned (.bool true) ∧ Below w.heap.size w w' := by
  have t1 : decide ((l0.length : Int) > 2000) = true := decide_eq_true (by omega)
  clear h
  go_enter Try.func3, Try.ntmps3
  go_wp2_with (go_at_call 6; (with_reducible refine (lockgatelaw2_alive.calls true _ alive_is).mono ?_); rintro e w1 ⟨rfl, hb1⟩)
  go_ret
  exact ⟨rfl, hb1⟩

set_option maxRecDepth 100000 in
set_option maxHeartbeats 2000000 in
theorem bitsTell_all (A0 : Option Addr) (c0 : Nat) (l0 : List Int) (a1 a2 a3 : Int) (a4 : Bool) (w : World) (hC0 : Kd.C (Kd.int .u8) w A0 l0.length l0) (hc0 : l0.length ≤ c0) (h0 : l0.length ≤ 2000) (KK : Nat) (r : List Int) (hrl : r.length = l0.length) (g : Bool) (cn fx : Int) (fs : Bool)
    (hw : bits_With.f KK l0 a1 a4 = some r) (hrw : lockgateref1_With.f KK l0 a1 a4 = some r) (hf : bits_First.f l0 a2 a3 = some (fx, fs)) (hrf : lockgateref1_First.f KK l0 a2 a3 = some (fx, fs)) (hg : bits_Get.f l0 a1 = some g) (hrg : lockgateref1_Get.f l0 a1 = some g) (hcn : bits_Count.f l0 a2 = some cn) (hrcn : lockgateref1_Count.f KK l0 a2 = some cn) :
    Calls Try.prog 3 #[.slice A0 l0.length c0, .int .i64 a1, .int .i64 a2, .int .i64 a3, .bool a4] w fun e w' => e = .returned (.bool true) ∧ Below w.heap.size w w' := by
  have HC0 := Lib.hid hC0
  have HW := Lib.hid hw
  have HRW := Lib.hid hrw
  have HF := Lib.hid hf
  have HRF := Lib.hid hrf
  have HG := Lib.hid hg
  have HRG := Lib.hid hrg
  have HCN := Lib.hid hcn
  have HRCN := Lib.hid hrcn
  have HRL := Lib.hid hrl
  have HCC := Lib.hid hc0
  have HL0 := Lib.hid h0
  clear hC0 hw hrw hf hrf hg hrg hcn hrcn hrl hc0
  have t1 : decide ((l0.length : Int) > 2000) = false := decide_eq_false (by omega)
  go_enter Try.func3, Try.ntmps3
  go_upto_region 5 with (first
    | (go_at_call 6; (with_reducible refine (lockgatelaw2_alive.calls true _ alive_is).mono ?_); rintro e w1 ⟨rfl, hb1⟩; have HB1 := Lib.hid hb1; clear hb1)
    | (at_builtin; refine Kd.R_append_rows (Kd.int .u8) (w0 := w) w.heap.size rfl (.const (.slice none 0 0)) (.tmp 29) 22 5 (.int .u8 0) 1 rfl Try.underlying22 info5 rfl (by decide) (by omega) (.slice none 0 0) [] l0 _ _ c0 (fun _ => True) (fun _ => False) rfl rfl (Kd.R_nil _ _ _ _ _) (Kd.C_below HC0.out HB1.out) (fun _ _ h => h) (fun _ h => h.elim) (fun _ _ => trivial) HB1.out HB1.out.size (by have := HL0.out; simp; omega) ?_; intro v5 w2 hown hb2 hg2 hat2; obtain ⟨A5, c5, rfl⟩ := Kd.R_slice hown; rw [List.nil_append] at hown ⊢; have HO := Lib.hid hown; have HB2 := Lib.hid hb2; clear hown hb2 hg2 hat2)
    | (at_builtin; refine Kd.R_append_rows (Kd.int .u8) (w0 := w) w.heap.size rfl (.tmp 30) (.tmp 31) 22 5 (.int .u8 0) 1 rfl Try.underlying22 info5 rfl (by decide) (by omega) (.slice A5 l0.length c5) l0 [77] (some ⟨w2.heap.size, 0, none⟩) 1 1 (fun _ => True) (fun _ => False) rfl rfl (Kd.R_alloc HO.out _) (Kd.R_reads' (R_of_block (k := .u8) (base := 0) (ok := fun _ => True) (xs := [77]) (blk_new w2 _) (Nat.zero_le _) trivial (by simp [maxLen]))).2.2 (fun _ _ h => h) (fun _ h => h.elim) (fun _ _ => trivial) (below_alloc HB2.out _) (below_alloc HB2.out _).size (by have := HL0.out; omega) ?_; intro v6 w3 hown3 hb3 hg3 hat3; obtain ⟨A6, c6, hv6⟩ := Kd.R_slice hown3; subst hv6; have hle6 := (Kd.R_reads' hown3).2.1; have hc6 : (l0.length : Int) ≤ (c6 : Int) := (by have h := hle6; (try simp only [List.length_append, List.length_cons, List.length_nil] at h); omega); have hc7 : (l0.length : Int) + 1 ≤ (c6 : Int) := (by have h := hle6; (try simp only [List.length_append, List.length_cons, List.length_nil] at h); omega); have HO3 := Lib.hid (Kd.R_reads' hown3).2.2; have HB3 := Lib.hid hb3; clear hown3 hb3 hg3 hat3 hle6))
  have HOWN : Hid (Kd.C (Kd.int .u8) w3 A6 l0.length l0) := Lib.hid (by
    have := Kd.C_take HO3.out (m := l0.length) (by simp)
    rw [List.take_left' rfl] at this
    exact this)
  have HCA := Lib.hid (Go.Proofs.YtngkneggkjfiiaaBase.C_cells HO3.out (by simp))
  go_upto_region 6 with (first
    | (go_at_call 7; (with_reducible refine (bits_With.calls KK A6 c6 l0 a1 a4 r _ HOWN.out ?c1 HW.out).mono ?_); (case c1 => omega); rintro e w4 ⟨v7, rfl, hR7, hb7⟩; obtain ⟨A7, c7, rfl⟩ := Kd.R_slice hR7; have HR7 := Lib.hid hR7; have HB7 := Lib.hid hb7; clear hR7 hb7))
  have HB4 := Lib.hid (HB3.out.trans (HB7.out.mono HB3.out.size))
  have HOWN4 := Lib.hid (Kd.C_below HOWN.out HB7.out)
  have HL4 := Lib.hid (Kd.C_below HC0.out HB4.out)
  have HC7 := Lib.hid (Kd.R_reads' HR7.out).2.2
  obtain ⟨ad, ead, hcells⟩ := HCA.out
  have h77 : w3.cell? (ad.add l0.length) = some (.int .u8 77) := hcells l0.length _ (by simp [nums])
  subst ead
  have H77 := Lib.hid h77
  clear hcells h77 HCA
  have hcv7 := fun (V : World) (hV : Below w4.heap.size w4 V) => Kd.C_string (P := Try.prog) Try.underlying22 Try.underlying5 Try.underlying9 (c := c7) (Kd.C_below HC7.out hV)
  have hcv6 := fun (V : World) (hV : Below w4.heap.size w4 V) => Kd.C_string (P := Try.prog) Try.underlying22 Try.underlying5 Try.underlying9 (c := c6) (Kd.C_below HOWN4.out hV)
  have hcv0 := fun (V : World) (hV : Below w4.heap.size w4 V) => Kd.C_string (P := Try.prog) Try.underlying22 Try.underlying5 Try.underlying9 (c := c0) (Kd.C_below HL4.out hV)
  have HCV := Lib.hid (fun (V : World) (hV : Below w4.heap.size w4 V) => And.intro (hcv7 V hV) (And.intro (hcv6 V hV) (And.intro (hcv0 V hV) ((pw_cell_below (HB7.out.trans (hV.mono HB7.out.size)) H77.out) : V.cell? (ad.add l0.length) = some (.int .u8 77)))))
  clear hcv7 hcv6 hcv0
  have hS0 := HCV.out w4.drew (below_drew (Below.refl _ _))
  have hq0 : (0 : Int) ≤ (l0.length : Int) + 1 := by omega
  have hq1 : (l0.length : Int) < (l0.length : Int) + 1 := by omega
  have hq2 : (0 : Int) ≤ (l0.length : Int) := by omega
  have hw1 : IntKind.i64.wrap ((l0.length : Int) + 1) = (l0.length : Int) + 1 := by rw [IntKind.wrap_i64]; omega
  refine start_ (n := 28) (S := (fun V => (convert 22 9 (Value.slice A7 r.length c7)).run Try.prog V = .ok (.string (strOfNums r)) V ∧ (convert 22 9 (Value.slice (some ad) l0.length c6)).run Try.prog V = .ok (.string (strOfNums l0)) V ∧ (convert 22 9 (Value.slice A0 l0.length c0)).run Try.prog V = .ok (.string (strOfNums l0)) V ∧ V.cell? (ad.add l0.length) = some (.int .u8 77))) (ds := []) #[false, false, false, false, false, false, false, false, false, false, false, false, false, false, false, false, false, false, false, false, false, false, false, false, false, false, false, false] (by kernel_rfl) rfl rfl hS0 (fun hHeld => ?_)
  refine pure_ (i := 0) (N := some 40) (v := ?_) (a' := ?_) #[true, false, false, false, false, false, false, false, false, false, false, false, false, false, false, false, false, false, false, false, false, false, false, false, false, false, false, false] rfl rfl (by kernel_rfl) (fun _ _ _ h => h) (Or.inl ⟨by rfl, ?_⟩) ?_ ?_
  rotate_left
  · intro w'
    go_simp
    with_reducible rfl
  rotate_left
  · simp only [Act.put, List.setIfInBounds_toArray, List.set_cons_zero, List.set_cons_succ, i64_w, i32_w]
    rfl
  refine take_ (i := 1) (N := some 41) (v := ?_) (a' := ?_) #[true, true, false, false, false, false, false, false, false, false, false, false, false, false, false, false, false, false, false, false, false, false, false, false, false, false, false, false] rfl rfl (by kernel_rfl) (fun _ _ _ h => h) (Or.inl ⟨by rfl, ?_⟩) hHeld ?_ ?_
  rotate_left
  · rintro w' ⟨s0, s1, s2, s3⟩
    go_simp
    with_reducible rfl
  rotate_left
  · simp only [Act.put, List.setIfInBounds_toArray, List.set_cons_zero, List.set_cons_succ, i64_w, i32_w]
    rfl
  refine pure_ (i := 2) (N := some 42) (v := ?_) (a' := ?_) #[true, true, true, false, false, false, false, false, false, false, false, false, false, false, false, false, false, false, false, false, false, false, false, false, false, false, false, false] rfl rfl (by kernel_rfl) (fun _ _ _ h => h) (Or.inl ⟨by rfl, ?_⟩) ?_ ?_
  rotate_left
  · intro w'
    go_simp
    with_reducible rfl
  rotate_left
  · simp only [Act.put, List.setIfInBounds_toArray, List.set_cons_zero, List.set_cons_succ, i64_w, i32_w]
    rfl
  refine pure_ (i := 3) (N := some 43) (v := ?_) (a' := ?_) #[true, true, true, true, false, false, false, false, false, false, false, false, false, false, false, false, false, false, false, false, false, false, false, false, false, false, false, false] rfl rfl (by kernel_rfl) (fun _ _ _ h => h) (Or.inl ⟨by rfl, ?_⟩) ?_ ?_
  rotate_left
  · intro w'
    go_simp
    with_reducible rfl
  rotate_left
  · simp only [Act.put, List.setIfInBounds_toArray, List.set_cons_zero, List.set_cons_succ, i64_w, i32_w]
    rfl
  refine pure_ (i := 4) (N := some 44) (v := ?_) (a' := ?_) #[true, true, true, true, true, false, false, false, false, false, false, false, false, false, false, false, false, false, false, false, false, false, false, false, false, false, false, false] rfl rfl (by kernel_rfl) (fun _ _ _ h => h) (Or.inl ⟨by rfl, ?_⟩) ?_ ?_
  rotate_left
  · intro w'
    go_simp
    with_reducible rfl
  rotate_left
  · simp only [Act.put, List.setIfInBounds_toArray, List.set_cons_zero, List.set_cons_succ, i64_w, i32_w]
    rfl
  refine one_ (i := 5) (N := some 45) #[true, true, true, true, true, true, false, false, false, false, false, false, false, false, false, false, false, false, false, false, false, false, false, false, false, false, false, false] rfl rfl (by kernel_rfl) (by decide) (fun K hK => ?_)
  refine goes_ Try.func8 (by kernel_rfl) rfl #[.slice A0 l0.length c0, .int .i64 a1, .bool a4] (by rfl) rfl rfl (by (try simp only [List.map_toArray, List.map_cons, List.map_nil]); first | done | rfl) ?_
  refine (lockgateref1_With.calls KK A0 c0 l0 a1 a4 r _ (Kd.C_drew HL4.out) HCC.out HRW.out).mono ?_
  rintro e w8 ⟨v8, rfl, hR8, hb8⟩
  obtain ⟨A8, c8, rfl⟩ := Kd.R_slice hR8
  have HB8 := Lib.hid ((below_drew (Below.refl w4.heap.size w4)).trans hb8)
  have HC8 := Lib.hid (Kd.R_reads' hR8).2.2
  have hS8 := HCV.out w8 HB8.out
  clear hR8 hb8
  refine ⟨_, rfl, ?_⟩
  refine hK.out _ _ hS8 (fun hHeld => ?_)
  clear hK K
  refine norm_ (a' := ?_) ?_ ?_
  rotate_left
  · show Act.put _ (some 45) _ = _
    simp only [Act.put, List.setIfInBounds_toArray, List.set_cons_zero, List.set_cons_succ, i64_w, i32_w]
    rfl
  refine one_ (i := 6) (N := some 46) #[true, true, true, true, true, true, true, false, false, false, false, false, false, false, false, false, false, false, false, false, false, false, false, false, false, false, false, false] rfl rfl (by kernel_rfl) (by decide) (fun K hK => ?_)
  have hcv := Kd.C_string (P := Try.prog) Try.underlying22 Try.underlying5 Try.underlying9 (c := c8) HC8.out
  refine value_ (w1 := ?_) (v := ?_) (by rfl) rfl ?_ ?_
  rotate_left 2
  · go_simp
    constructor
    · rfl
    · rfl
  clear hcv
  refine hK.out _ _ hS8 (fun hHeld => ?_)
  clear hK K
  refine norm_ (a' := ?_) ?_ ?_
  rotate_left
  · show Act.put _ (some 46) _ = _
    simp only [Act.put, List.setIfInBounds_toArray, List.set_cons_zero, List.set_cons_succ, i64_w, i32_w]
    rfl
  refine pure_ (i := 7) (N := some 47) (v := ?_) (a' := ?_) #[true, true, true, true, true, true, true, true, false, false, false, false, false, false, false, false, false, false, false, false, false, false, false, false, false, false, false, false] rfl rfl (by kernel_rfl) (fun _ _ _ h => h) (Or.inl ⟨by rfl, ?_⟩) ?_ ?_
  rotate_left
  · intro w'
    go_simp
    with_reducible rfl
  rotate_left
  · simp only [Act.put, List.setIfInBounds_toArray, List.set_cons_zero, List.set_cons_succ, i64_w, i32_w]
    rfl
  refine pure_ (i := 8) (N := some 48) (v := ?_) (a' := ?_) #[true, true, true, true, true, true, true, true, true, false, false, false, false, false, false, false, false, false, false, false, false, false, false, false, false, false, false, false] rfl rfl (by kernel_rfl) (fun _ _ _ h => h) (Or.inl ⟨by rfl, ?_⟩) ?_ ?_
  rotate_left
  · intro w'
    go_simp
    with_reducible rfl
  rotate_left
  · simp only [Act.put, List.setIfInBounds_toArray, List.set_cons_zero, List.set_cons_succ, i64_w, i32_w]
    rfl
  refine pure_ (i := 9) (N := some 49) (v := ?_) (a' := ?_) #[true, true, true, true, true, true, true, true, true, true, false, false, false, false, false, false, false, false, false, false, false, false, false, false, false, false, false, false] rfl rfl (by kernel_rfl) (fun _ _ _ h => h) (Or.inl ⟨by rfl, ?_⟩) ?_ ?_
  rotate_left
  · intro w'
    go_simp
    with_reducible rfl
  rotate_left
  · simp only [Act.put, List.setIfInBounds_toArray, List.set_cons_zero, List.set_cons_succ, i64_w, i32_w]
    rfl
  refine take_ (i := 10) (N := some 50) (v := ?_) (a' := ?_) #[true, true, true, true, true, true, true, true, true, true, true, false, false, false, false, false, false, false, false, false, false, false, false, false, false, false, false, false] rfl rfl (by kernel_rfl) (fun _ _ _ h => h) (Or.inl ⟨by rfl, ?_⟩) hHeld ?_ ?_
  rotate_left
  · rintro w' ⟨s0, s1, s2, s3⟩
    go_simp
    with_reducible rfl
  rotate_left
  · simp only [Act.put, List.setIfInBounds_toArray, List.set_cons_zero, List.set_cons_succ, i64_w, i32_w]
    rfl
  refine pure_ (i := 11) (N := some 51) (v := ?_) (a' := ?_) #[true, true, true, true, true, true, true, true, true, true, true, true, false, false, false, false, false, false, false, false, false, false, false, false, false, false, false, false] rfl rfl (by kernel_rfl) (fun _ _ _ h => h) (Or.inl ⟨by rfl, ?_⟩) ?_ ?_
  rotate_left
  · intro w'
    go_simp
    with_reducible rfl
  rotate_left
  · simp only [Act.put, List.setIfInBounds_toArray, List.set_cons_zero, List.set_cons_succ, i64_w, i32_w]
    rfl
  refine take_ (i := 12) (N := some 52) (v := ?_) (a' := ?_) #[true, true, true, true, true, true, true, true, true, true, true, true, true, false, false, false, false, false, false, false, false, false, false, false, false, false, false, false] rfl rfl (by kernel_rfl) (fun _ _ _ h => h) (Or.inl ⟨by rfl, ?_⟩) hHeld ?_ ?_
  rotate_left
  · rintro w' ⟨s0, s1, s2, s3⟩
    go_simp
    with_reducible rfl
  rotate_left
  · simp only [Act.put, List.setIfInBounds_toArray, List.set_cons_zero, List.set_cons_succ, i64_w, i32_w]
    rfl
  refine pure_ (i := 13) (N := some 53) (v := ?_) (a' := ?_) #[true, true, true, true, true, true, true, true, true, true, true, true, true, true, false, false, false, false, false, false, false, false, false, false, false, false, false, false] rfl rfl (by kernel_rfl) (fun _ _ _ h => h) (Or.inl ⟨by rfl, ?_⟩) ?_ ?_
  rotate_left
  · intro w'
    go_simp
    with_reducible rfl
  rotate_left
  · simp only [Act.put, List.setIfInBounds_toArray, List.set_cons_zero, List.set_cons_succ, i64_w, i32_w]
    rfl
  refine pure_ (i := 14) (N := some 54) (v := ?_) (a' := ?_) #[true, true, true, true, true, true, true, true, true, true, true, true, true, true, true, false, false, false, false, false, false, false, false, false, false, false, false, false] rfl rfl (by kernel_rfl) (fun _ _ _ h => h) (Or.inl ⟨by rfl, ?_⟩) ?_ ?_
  rotate_left
  · intro w'
    go_simp
    with_reducible rfl
  rotate_left
  · simp only [Act.put, List.setIfInBounds_toArray, List.set_cons_zero, List.set_cons_succ, i64_w, i32_w]
    rfl
  refine pure_ (i := 15) (N := some 55) (v := ?_) (a' := ?_) #[true, true, true, true, true, true, true, true, true, true, true, true, true, true, true, true, false, false, false, false, false, false, false, false, false, false, false, false] rfl rfl (by kernel_rfl) (fun _ _ _ h => h) (Or.inl ⟨by rfl, ?_⟩) ?_ ?_
  rotate_left
  · intro w'
    go_simp
    with_reducible rfl
  rotate_left
  · simp only [Act.put, List.setIfInBounds_toArray, List.set_cons_zero, List.set_cons_succ, i64_w, i32_w]
    rfl
  refine pure_ (i := 16) (N := some 56) (v := ?_) (a' := ?_) #[true, true, true, true, true, true, true, true, true, true, true, true, true, true, true, true, true, false, false, false, false, false, false, false, false, false, false, false] rfl rfl (by kernel_rfl) (fun _ _ _ h => h) (Or.inl ⟨by rfl, ?_⟩) ?_ ?_
  rotate_left
  · intro w'
    go_simp
    with_reducible rfl
  rotate_left
  · simp only [Act.put, List.setIfInBounds_toArray, List.set_cons_zero, List.set_cons_succ, i64_w, i32_w]
    rfl
  refine pure_ (i := 17) (N := some 57) (v := ?_) (a' := ?_) #[true, true, true, true, true, true, true, true, true, true, true, true, true, true, true, true, true, true, false, false, false, false, false, false, false, false, false, false] rfl rfl (by kernel_rfl) (fun _ _ _ h => h) (Or.inl ⟨by rfl, ?_⟩) ?_ ?_
  rotate_left
  · intro w'
    go_simp
    with_reducible rfl
  rotate_left
  · simp only [Act.put, List.setIfInBounds_toArray, List.set_cons_zero, List.set_cons_succ, i64_w, i32_w]
    rfl
  refine pure_ (i := 18) (N := some 58) (v := ?_) (a' := ?_) #[true, true, true, true, true, true, true, true, true, true, true, true, true, true, true, true, true, true, true, false, false, false, false, false, false, false, false, false] rfl rfl (by kernel_rfl) (fun _ _ _ h => h) (Or.inl ⟨by rfl, ?_⟩) ?_ ?_
  rotate_left
  · intro w'
    go_simp
    with_reducible rfl
  rotate_left
  · simp only [Act.put, List.setIfInBounds_toArray, List.set_cons_zero, List.set_cons_succ, i64_w, i32_w]
    rfl
  refine pure_ (i := 19) (N := some 59) (v := ?_) (a' := ?_) #[true, true, true, true, true, true, true, true, true, true, true, true, true, true, true, true, true, true, true, true, false, false, false, false, false, false, false, false] rfl rfl (by kernel_rfl) (fun _ _ _ h => h) (Or.inl ⟨by rfl, ?_⟩) ?_ ?_
  rotate_left
  · intro w'
    go_simp
    with_reducible rfl
  rotate_left
  · simp only [Act.put, List.setIfInBounds_toArray, List.set_cons_zero, List.set_cons_succ, i64_w, i32_w]
    rfl
  refine pure_ (i := 20) (N := some 60) (v := ?_) (a' := ?_) #[true, true, true, true, true, true, true, true, true, true, true, true, true, true, true, true, true, true, true, true, true, false, false, false, false, false, false, false] rfl rfl (by kernel_rfl) (fun _ _ _ h => h) (Or.inl ⟨by rfl, ?_⟩) ?_ ?_
  rotate_left
  · intro w'
    go_simp
    with_reducible rfl
  rotate_left
  · simp only [Act.put, List.setIfInBounds_toArray, List.set_cons_zero, List.set_cons_succ, i64_w, i32_w]
    rfl
  refine pure_ (i := 21) (N := some 61) (v := ?_) (a' := ?_) #[true, true, true, true, true, true, true, true, true, true, true, true, true, true, true, true, true, true, true, true, true, true, false, false, false, false, false, false] rfl rfl (by kernel_rfl) (fun _ _ _ h => h) (Or.inl ⟨by rfl, ?_⟩) ?_ ?_
  rotate_left
  · intro w'
    go_simp
    with_reducible rfl
  rotate_left
  · simp only [Act.put, List.setIfInBounds_toArray, List.set_cons_zero, List.set_cons_succ, i64_w, i32_w]
    rfl
  refine pure_ (i := 22) (N := some 62) (v := ?_) (a' := ?_) #[true, true, true, true, true, true, true, true, true, true, true, true, true, true, true, true, true, true, true, true, true, true, true, false, false, false, false, false] rfl rfl (by kernel_rfl) (fun _ _ _ h => h) (Or.inl ⟨by rfl, ?_⟩) ?_ ?_
  rotate_left
  · intro w'
    go_simp
    with_reducible rfl
  rotate_left
  · simp only [Act.put, List.setIfInBounds_toArray, List.set_cons_zero, List.set_cons_succ, i64_w, i32_w]
    rfl
  refine pure_ (i := 23) (N := some 63) (v := ?_) (a' := ?_) #[true, true, true, true, true, true, true, true, true, true, true, true, true, true, true, true, true, true, true, true, true, true, true, true, false, false, false, false] rfl rfl (by kernel_rfl) (fun _ _ _ h => h) (Or.inl ⟨by rfl, ?_⟩) ?_ ?_
  rotate_left
  · intro w'
    go_simp
    with_reducible rfl
  rotate_left
  · simp only [Act.put, List.setIfInBounds_toArray, List.set_cons_zero, List.set_cons_succ, i64_w, i32_w]
    rfl
  refine take_ (i := 24) (N := some 64) (v := ?_) (a' := ?_) #[true, true, true, true, true, true, true, true, true, true, true, true, true, true, true, true, true, true, true, true, true, true, true, true, true, false, false, false] rfl rfl (by kernel_rfl) (fun _ _ _ h => h) (Or.inl ⟨by rfl, ?_⟩) hHeld ?_ ?_
  rotate_left
  · rintro w' ⟨s0, s1, s2, s3⟩
    go_simp
    with_reducible rfl
  rotate_left
  · simp only [Act.put, List.setIfInBounds_toArray, List.set_cons_zero, List.set_cons_succ, i64_w, i32_w]
    rfl
  refine pure_ (i := 25) (N := some 65) (v := ?_) (a' := ?_) #[true, true, true, true, true, true, true, true, true, true, true, true, true, true, true, true, true, true, true, true, true, true, true, true, true, true, false, false] rfl rfl (by kernel_rfl) (fun _ _ _ h => h) (Or.inl ⟨by rfl, ?_⟩) ?_ ?_
  rotate_left
  · intro w'
    go_simp
    with_reducible rfl
  rotate_left
  · simp only [Act.put, List.setIfInBounds_toArray, List.set_cons_zero, List.set_cons_succ, i64_w, i32_w]
    rfl
  refine pure_ (i := 26) (N := some 66) (v := ?_) (a' := ?_) #[true, true, true, true, true, true, true, true, true, true, true, true, true, true, true, true, true, true, true, true, true, true, true, true, true, true, true, false] rfl rfl (by kernel_rfl) (fun _ _ _ h => h) (Or.inl ⟨by rfl, ?_⟩) ?_ ?_
  rotate_left
  · intro w'
    go_simp
    with_reducible rfl
  rotate_left
  · simp only [Act.put, List.setIfInBounds_toArray, List.set_cons_zero, List.set_cons_succ, i64_w, i32_w]
    rfl
  refine pure_ (i := 27) (N := some 14) (v := ?_) (a' := ?_) #[true, true, true, true, true, true, true, true, true, true, true, true, true, true, true, true, true, true, true, true, true, true, true, true, true, true, true, true] rfl rfl (by kernel_rfl) (fun _ _ _ h => h) (Or.inl ⟨by rfl, ?_⟩) ?_ ?_
  rotate_left
  · intro w'
    go_simp
    with_reducible rfl
  rotate_left
  · simp only [Act.put, List.setIfInBounds_toArray, List.set_cons_zero, List.set_cons_succ, i64_w, i32_w]
    rfl
  refine done_ (by kernel_rfl) ?_
  have HBW := Lib.hid (HB7.out.trans (HB8.out.mono HB7.out.size))
  have HRW7 := Lib.hid (Kd.R_below HR7.out HB8.out)
  have HL3 := Lib.hid (Kd.C_below HC0.out HB3.out)
  clear HCV hS0 hS8 hHeld HC8 HB8 HL4 HOWN4 HC7 HB4 HR7 HB7 hw1 H77 HO3 hq0 hq1 hq2
  go_wp2_with fail
  go_loopw [15] (fun i wr => ∃ (j : Nat) (xs : List Int), j ≤ r.length ∧ i = .int .i64 (j : Int) ∧ Hid (xs.length = r.length) ∧ Hid (Kd.R (Kd.int .u8) 5 wr w3.heap.size (fun _ => True) (.slice A7 r.length c7) xs) ∧ Hid (Below w3.heap.size w3 wr)) (fun i _ => r.length - (intOf i).toNat)
  case atStart => exact ⟨0, r, Nat.zero_le _, rfl, Lib.hid rfl, HRW7, HBW⟩
  case round =>
    obtain ⟨j, xs, hj, rfl, HX, HR, HBX⟩ := hrel
    have hrl : r.length ≤ 2000 := by have := HRL.out; have := HL0.out; omega
    by_cases hlt : j < r.length
    · have hlt' : (j : Int) < (r.length : Int) := by omega
      obtain ⟨g1, cap, e, gb, gl, cells, hg1⟩ := Kd.R_form HR.out (by rw [HX.out]; omega)
      injection e with e1 e2 e3
      subst e1
      subst e3
      obtain ⟨hcj, hfj⟩ := Kd.R_celln 0 HR.out (j : Int) (by omega) hlt'
      have HP := Lib.hid (fun x => (Kd.R_putn HR.out (j : Int) x))
      simp only [Int.toNat_natCast] at hcj hfj
      clear hg1
      go_wp2
      go_roundw
      case rel => exact ⟨j + 1, _, by omega, by go_num, Lib.hid (by rw [List.length_set]; exact HX.out), Lib.hid (HP.out _), Lib.hid (below_set HBX.out gb)⟩
      case measure => simp [intOf]; omega
    · obtain rfl : j = r.length := by omega
      have HOx := Lib.hid (Kd.C_below HOWN.out HBX.out)
      have HLx := Lib.hid (Kd.C_below HL3.out HBX.out)
      have HBY := Lib.hid (HB3.out.trans (HBX.out.mono HB3.out.size))
      have hc6n : l0.length ≤ c6 := by omega
      go_wp2_with (first
        | (go_at_call 9; (with_reducible refine (bits_First.calls (some ad) c6 l0 a2 a3 fx fs _ HOx.out ?d1 HF.out).mono ?_); (case d1 => exact hc6n); rintro e w9 ⟨rfl, hb9⟩; have HO9 := Lib.hid (Kd.C_below HOx.out hb9); have HL9 := Lib.hid (Kd.C_below HLx.out hb9); have HB9 := Lib.hid (HBY.out.trans (hb9.mono HBY.out.size)); clear hb9)
        | (go_at_call 10; (with_reducible refine (lockgateref1_First.calls KK A0 c0 l0 a2 a3 fx fs _ HL9.out HCC.out HRF.out).mono ?_); rintro e w10 ⟨rfl, hd⟩; obtain ⟨n1, rfl⟩ := hd.out; clear hd; have hcv6 := fun n : Nat => Kd.C_string (P := Try.prog) Try.underlying22 Try.underlying5 Try.underlying9 (c := c6) (Kd.C_drewN HO9.out n); have hcv0 := fun n : Nat => Kd.C_string (P := Try.prog) Try.underlying22 Try.underlying5 Try.underlying9 (c := c0) (Kd.C_drewN HL9.out n))
        | (go_at_call 11; (with_reducible refine (bits_Get.calls A0 c0 l0 a1 g _ (Kd.C_drewN HL9.out _) HCC.out HG.out).mono ?_); rintro e w11 ⟨rfl, hd⟩; obtain ⟨n2, rfl⟩ := hd.out; clear hd)
        | (go_at_call 12; (with_reducible refine (lockgateref1_Get.calls A0 c0 l0 a1 g _ (Kd.C_drewN HL9.out _) HCC.out HRG.out).mono ?_); rintro e w12 ⟨rfl, hd⟩; obtain ⟨n3, rfl⟩ := hd.out; clear hd)
        | (go_at_call 13; (with_reducible refine (bits_Count.calls A0 c0 l0 a2 cn _ (Kd.C_drewN HL9.out _) HCC.out HCN.out).mono ?_); rintro e w13 ⟨rfl, hb13⟩; have HB13 := Lib.hid ((pw_below_drewN HB9.out _).trans (hb13.mono (pw_below_drewN HB9.out _).size)); have HL13 := Lib.hid (Kd.C_below (Kd.C_drewN HL9.out _) hb13); clear hb13 hcv6 hcv0)
        | (go_at_call 14; (with_reducible refine (lockgateref1_Count.calls KK A0 c0 l0 a2 cn _ HL13.out HCC.out HRCN.out).mono ?_); rintro e w14 ⟨rfl, hd⟩; obtain ⟨n4, rfl⟩ := hd.out; clear hd))
      go_ret
      exact ⟨by first | rfl | simp, by repeat (first | exact HB13.out | apply pw_below_drewN | apply below_alloc)⟩
theorem bitsTell_walk (A0 : Option Addr) (c0 : Nat) (l0 : List Int) (a1 a2 a3 : Int) (a4 : Bool) (w : World) (hC0 : Kd.C (Kd.int .u8) w A0 l0.length l0) (hc0 : l0.length ≤ c0) (w0 : l0.length ≤ maxLen ∧ ∀ y ∈ l0, (Lit.int .u8 y).wf = true) (w1 : (Lit.int .i64 a1).wf = true) (w2 : (Lit.int .i64 a2).wf = true) (w3 : (Lit.int .i64 a3).wf = true) :
    Calls Try.prog 3 #[.slice A0 l0.length c0, .int .i64 a1, .int .i64 a2, .int .i64 a3, .bool a4] w fun e w' => e = .returned (.bool true) ∧ Below w.heap.size w w' := by
  by_cases h : 2000 < l0.length
  · exact bitsTell_big A0 c0 l0 a1 a2 a3 a4 w h
  have hB : Bytes l0 := fun x hx => by have := bounds_u8 (w0.2 x hx); omega
  have b1 := bounds_i64 w1
  obtain ⟨r, hrl, e1, e2⟩ := rwith_same (l := l0) (by omega) a1 (by omega) a4 1000000
  obtain ⟨fx, fs, e3, e4⟩ := rfirst_same hB (by omega) a2 a3 1000001 (by omega)
  obtain ⟨cn, e5, e6⟩ := rcount_same hB (by omega) a2 1000001 (by omega)
  have e7 := get_any (l := l0) (by omega) a1 (by omega)
  have e8 := (rget_same hB a1 (by omega)).trans e7
  exact bitsTell_all A0 c0 l0 a1 a2 a3 a4 w hC0 hc0 (by omega) 1000001 r hrl _ cn fx fs e1 e2 e3 e4 e7 e8 e5 e6
end Go.Proofs.Ytngkneggkjfiiaa.Given
