/- patch.Safe: whether what is out can be left out, for every changes and every row of numbers. -/
import Derived.Test.YtemachlhoanngaaG2
import Derived.Test.YtemachlhoanngaaPLapx1
import Derived.LoopTactic
import Derived.Deep.LoopGhost
namespace Go.Proofs.Ytemachlhoanngaa.Given
open Go.RowKit Go.Proofs.YtemachlhoanngaaW.PrintWords Go.Proofs.YtemachlhoanngaaW.PrintLast Go.Proofs.YtemachlhoanngaaBase Go.Proofs.Ytemachlhoanngaa.PPFns
set_option linter.unusedVariables false
set_option linter.unusedSimpArgs false

/-- have two changes a place in common? -/
def lapB (p q : S24) : Bool := decide (0 < p.f2.length ∧ 0 < q.f2.length ∧ p.f1 < q.f1 + q.f2.length ∧ q.f1 < p.f1 + p.f2.length)
theorem lap_tells (k : Nat) (p q : S24) (hp : okP p = true) (hq : okP q = true) : Go.Proofs.Ytemachlhoanngaa.PLap.patch_Lap.f (k + 1) p.f0 p.f1 p.f2 q.f0 q.f1 q.f2 = some (lapB p q) := by
  have h1 := of_decide_eq_true hp
  have h2 := of_decide_eq_true hq
  have wu : ∀ x : Int, IntKind.u64.wrap x = x % 18446744073709551616 := fun x => by unfold IntKind.wrap; rfl
  unfold Go.Proofs.Ytemachlhoanngaa.PLap.patch_Lap.f lapB
  by_cases e1 : (p.f2.length : Int) = 0
  · rw [if_pos e1]
    simp only [Go.Proofs.Ytemachlhoanngaa.PLap.patch_Lap.j0, if_true]
    rw [decide_eq_false (by omega)]
  · rw [if_neg e1]
    by_cases e2 : (q.f2.length : Int) = 0
    · rw [beq_iff_eq.2 e2]
      simp only [Go.Proofs.Ytemachlhoanngaa.PLap.patch_Lap.j0, if_true]
      rw [decide_eq_false (by omega)]
    · rw [beq_eq_false_iff_ne.2 e2]
      simp only [Go.Proofs.Ytemachlhoanngaa.PLap.patch_Lap.j0, Bool.false_eq_true, if_false, wu]
      split <;> exact congrArg some (decide_eq_decide.2 (by omega))

abbrev aggQ (q : S24) (A : Option Addr) (c : Nat) : Value := .agg #[.int .i64 q.f0, .int .i64 q.f1, .slice A q.f2.length c]
abbrev boxQ (q : S24) (A : Option Addr) (c : Nat) : Obj := .cells #[.int .i64 q.f0, .int .i64 q.f1, .slice A q.f2.length c] 24 (0, 0)

set_option maxHeartbeats 1000000 in
theorem clo_calls (w : World) (bp : Nat) (p q : S24) (Ap Aq : Option Addr) (cp cq : Nat) (hb : w.heap[bp]? = some (boxQ p Ap cp)) (hcp : p.f2.length ≤ cp) (hCp : Kd.C (Kd.int .u8) w Ap p.f2.length p.f2)
    (hcq : q.f2.length ≤ cq) (hCq : Kd.C (Kd.int .u8) w Aq q.f2.length q.f2) (hp : okP p = true) (hq : okP q = true) :
    Calls Try.prog 27 #[aggQ q Aq cq, .pointer (some ⟨bp, 0, none⟩)] w fun e w' => e = .returned (.bool (lapB p q)) ∧ Below w.heap.size w w' := by
  have b0 := (blk_cell hb 0).trans rfl
  have b1 := (blk_cell hb 1).trans rfl
  have b2 := (blk_cell hb 2).trans rfl
  have bl := blk_lt hb
  have HL := Lib.hid (lap_tells 5 p q hp hq)
  have HCp := Lib.hid (Kd.C_alloc hCp (boxQ q Aq cq))
  have HCq := Lib.hid (Kd.C_alloc hCq (boxQ q Aq cq))
  clear hb hCp hCq hp hq
  go_enter Try.func27, Try.ntmps27
  go_wp2_with (go_at_call 10; refine (Go.Proofs.Ytemachlhoanngaa.PLap.patch_Lap.calls 6 p.f0 p.f1 Ap cp p.f2 q.f0 q.f1 Aq cq q.f2 (lapB p q) _ HCp.out hcp HCq.out hcq HL.out).mono ?_; rintro e w1 ⟨rfl, hb1⟩)
  go_ret
  exact ⟨rfl, ((Below.refl _ w).alloc (Nat.le_refl _) _).trans (hb1.mono (by simp))⟩

set_option maxRecDepth 100000 in
set_option maxHeartbeats 2000000 in
theorem index_calls (w : World) (bp : Nat) (p : S24) (Ap A : Option Addr) (cp c : Nat) (gs : List S24) (hb : w.heap[bp]? = some (boxQ p Ap cp)) (hcp : p.f2.length ≤ cp) (hCp : Kd.C (Kd.int .u8) w Ap p.f2.length p.f2)
    (hC : Kd.C k24 w A gs.length gs) (hc : gs.length ≤ c) (hgl : gs.length ≤ 140737488351232) (hp : okP p = true) (hg : gs.all okP = true) :
    Calls Try.prog 30 #[.slice A gs.length c, .func (.func 27) #[] #[.pointer (some ⟨bp, 0, none⟩)]] w fun e w' => (∃ r : Int, e = .returned (.int .i64 r) ∧ decide (r ≥ 0) = gs.any (lapB p)) ∧ Below w.heap.size w w' := by
  have HB := Lib.hid hb
  have HCP := Lib.hid hCp
  have HC := Lib.hid hC
  have HP := Lib.hid hp
  have HG := Lib.hid hg
  clear hb hCp hC hp hg
  go_enter Try.func30, Try.ntmps30
  go_wp2
  go_loopw [8] (fun i wr => ∃ j : Nat, j ≤ gs.length ∧ i = .int .i64 (j : Int) ∧ Below w.heap.size w wr ∧ Hid (∀ m : Nat, m < j → lapB p (rd_T24 gs m) = false)) (fun i _ => gs.length - (intOf i).toNat)
  case atStart => exact ⟨0, Nat.zero_le _, rfl, Below.refl _ _, Lib.hid (fun m hm => by omega)⟩
  case round =>
    obtain ⟨j, hj, rfl, hbw, HN⟩ := hrel
    by_cases hlt : j < gs.length
    · obtain ⟨ad, Aq, cq, hA, k0, k1, k2, hlq, hCq⟩ := at_T24 (Kd.C_below HC.out hbw) j (by omega) (by omega)
      subst hA
      simp only [Int.toNat_natCast] at k0 k1 k2
      have hlt' : (j : Int) < (gs.length : Int) := by omega
      have hok : okP (rd_T24 gs j) = true := List.all_eq_true.1 HG.out _ (by
        simp only [rd_T24, Int.toNat_natCast, List.getD_eq_getElem?_getD, List.getElem?_eq_getElem hlt, Option.getD_some]
        exact List.getElem_mem _)
      have HOK := Lib.hid hok
      have HCQ := Lib.hid hCq
      have HBW := Lib.hid hbw
      clear hok hCq
      cases hlap : lapB p (rd_T24 gs j) with
      | true =>
        have HLAP := Lib.hid hlap
        clear hlap
        go_wp2_with (go_at_call 27; refine (clo_calls _ bp p (rd_T24 gs j) Ap Aq cp cq ((HBW.out.block _ (blk_lt HB.out)).trans HB.out) hcp (Kd.C_below HCP.out HBW.out) hlq HCQ.out HP.out HOK.out).mono ?_; rw [HLAP.out]; rintro e w1 ⟨rfl, hb1⟩)
        go_ret
        refine ⟨⟨_, rfl, ?_⟩, HBW.out.trans (hb1.mono HBW.out.size)⟩
        rw [decide_eq_true (by omega)]
        refine (List.any_eq_true.2 ⟨rd_T24 gs j, ?_, HLAP.out⟩).symm
        simp only [rd_T24, Int.toNat_natCast, List.getD_eq_getElem?_getD, List.getElem?_eq_getElem hlt, Option.getD_some]
        exact List.getElem_mem _
      | false =>
        have HLAP := Lib.hid hlap
        clear hlap
        go_wp2_with (go_at_call 27; refine (clo_calls _ bp p (rd_T24 gs j) Ap Aq cp cq ((HBW.out.block _ (blk_lt HB.out)).trans HB.out) hcp (Kd.C_below HCP.out HBW.out) hlq HCQ.out HP.out HOK.out).mono ?_; rw [HLAP.out]; rintro e w1 ⟨rfl, hb1⟩)
        go_roundw
        case rel =>
          refine ⟨j + 1, by omega, by go_num, HBW.out.trans (hb1.mono HBW.out.size), Lib.hid (fun m hm => ?_)⟩
          rcases Nat.lt_or_ge m j with h | h
          · exact HN.out m h
          · obtain rfl : m = j := by omega
            exact HLAP.out
        case measure => simp [intOf]; omega
    · obtain rfl : j = gs.length := by omega
      go_wp2
      go_ret
      refine ⟨⟨_, rfl, ?_⟩, hbw⟩
      rw [decide_eq_false (by omega)]
      refine (List.any_eq_false.2 fun q hq => ?_).symm
      obtain ⟨i, hi, rfl⟩ := List.mem_iff_getElem.1 hq
      have := HN.out i hi
      simp only [rd_T24, Int.toNat_natCast, List.getD_eq_getElem?_getD, List.getElem?_eq_getElem hi, Option.getD_some] at this
      rw [this]
      simp

set_option maxHeartbeats 1000000 in
theorem contains_calls (w : World) (bp : Nat) (p : S24) (Ap A : Option Addr) (cp c : Nat) (gs : List S24) (hb : w.heap[bp]? = some (boxQ p Ap cp)) (hcp : p.f2.length ≤ cp) (hCp : Kd.C (Kd.int .u8) w Ap p.f2.length p.f2)
    (hC : Kd.C k24 w A gs.length gs) (hc : gs.length ≤ c) (hgl : gs.length ≤ 140737488351232) (hp : okP p = true) (hg : gs.all okP = true) :
    Calls Try.prog 26 #[.slice A gs.length c, .func (.func 27) #[] #[.pointer (some ⟨bp, 0, none⟩)]] w fun e w' => e = .returned (.bool (gs.any (lapB p))) ∧ Below w.heap.size w w' := by
  have HI := Lib.hid (index_calls w bp p Ap A cp c gs hb hcp hCp hC hc hgl hp hg)
  clear hb hCp hC hp hg
  go_enter Try.func26, Try.ntmps26
  go_wp2_with (go_at_call 30; refine HI.out.mono ?_; rintro e w1 ⟨⟨r, rfl, hr⟩, hb1⟩; have HR := Lib.hid hr; clear hr)
  go_ret
  exact ⟨(congrArg (fun b => Ending.returned (Value.bool b)) HR.out :), hb1⟩

theorem info24 : (Try.prog.info? 24).map (fun i => (i.zero, i.size, i.bytes)) = some (some (.agg #[(.int .i64 0), (.int .i64 0), (.slice none 0 0)]), 3, 40) := by kernel_rfl
/-- the first j changes that are out -/
def goneL (l1 : List S24) (l2 : List Int) (j : Nat) : List S24 := ((List.range j).filter (fun i => isOut l1 l2 i)).map (fun i : Nat => rd_T24 l1 (i : Int))
theorem goneL_out {l1 : List S24} {l2 : List Int} {j : Nat} (h : isOut l1 l2 j = true) : goneL l1 l2 (j + 1) = goneL l1 l2 j ++ [rd_T24 l1 j] := by
  unfold goneL
  rw [List.range_succ, List.filter_append, List.map_append]
  simp [h]
theorem goneL_in {l1 : List S24} {l2 : List Int} {j : Nat} (h : isOut l1 l2 j = false) : goneL l1 l2 (j + 1) = goneL l1 l2 j := by
  unfold goneL
  rw [List.range_succ, List.filter_append, List.map_append]
  simp [h]
theorem goneL_length (l1 : List S24) (l2 : List Int) (j : Nat) : (goneL l1 l2 j).length ≤ j := by
  unfold goneL
  rw [List.length_map]
  exact Nat.le_trans (List.length_filter_le _ _) (by simp)
theorem goneL_ok {l1 : List S24} {l2 : List Int} (h : l1.all okP = true) {j : Nat} (hj : j ≤ l1.length) : (goneL l1 l2 j).all okP = true := by
  refine List.all_eq_true.2 fun q hq => ?_
  unfold goneL at hq
  obtain ⟨i, hi, rfl⟩ := List.mem_map.1 hq
  have hil := List.mem_range.1 (List.mem_filter.1 hi).1
  refine List.all_eq_true.1 h _ ?_
  simp only [rd_T24, Int.toNat_natCast, List.getD_eq_getElem?_getD, List.getElem?_eq_getElem (show i < l1.length by omega), Option.getD_some]
  exact List.getElem_mem _
def safeAt (l1 : List S24) (l2 : List Int) (i : Nat) : Bool := isOut l1 l2 i || !(goneL l1 l2 i).any (lapB (rd_T24 l1 i))
def patch_Safe.f (l0 : List S24) (l1 : List Int) : Option Bool :=
  if l0.length ≤ 1000000000000 ∧ l1.length ≤ 140737488351232 ∧ l0.all okP = true then some ((List.range l0.length).all (safeAt l0 l1)) else none

set_option maxRecDepth 100000 in
set_option maxHeartbeats 4000000 in
theorem patch_Safe.calls (A0 : Option Addr) (c0 : Nat) (l0 : List S24) (A1 : Option Addr) (c1 : Nat) (l1 : List Int) (r : Bool) (w : World)
    (hr0 : Kd.C k24 w A0 l0.length l0) (hc0 : l0.length ≤ c0) (hr1 : Kd.C (Kd.int .i64) w A1 l1.length l1) (hc1 : l1.length ≤ c1) (h : patch_Safe.f l0 l1 = some r) :
    Calls Try.prog 18 #[.slice A0 l0.length c0, .slice A1 l1.length c1] w fun e w' => e = .returned (.bool r) ∧ Below w.heap.size w w' := by
  unfold patch_Safe.f at h
  split at h
  case isFalse => cases h
  rename_i hall
  obtain ⟨hl0, hl1, hok⟩ := hall
  have hr := Option.some.inj h
  have HC0 := Lib.hid hr0
  have HC1 := Lib.hid hr1
  have HOK := Lib.hid hok
  have HR := Lib.hid hr
  clear hr0 hr1 hok hr h
  go_enter Try.func18, Try.ntmps18
  go_wp2
  go_loopw [5, 10] (fun v i wr => ∃ (j : Nat) (gs : List S24), j ≤ l0.length ∧ i = .int .i64 (j : Int) ∧ Hid (OwnRow (k24.K w) 24 3 wr w.heap.size v gs) ∧ Hid (goneL l0 l1 j = gs) ∧ Hid (∀ m : Nat, m < j → safeAt l0 l1 m = true) ∧ Hid (Below w.heap.size w wr)) (fun v i _ => l0.length - (intOf i).toNat)
  case atStart => exact ⟨0, [], Nat.zero_le _, rfl, Lib.hid (OwnRow.none_ _ _ _ _ _), Lib.hid rfl, Lib.hid (fun m hm => by omega), Lib.hid (Below.refl _ _)⟩
  case round =>
    obtain ⟨j, gs, hj, rfl, HO, HG, HN, HB⟩ := hrel
    obtain ⟨Ag, cg, rfl, hgc, hreads⟩ := OwnRow.reads HO.out
    have HRD := Lib.hid hreads
    clear hreads
    by_cases hlt : j < l0.length
    · obtain ⟨ad, Aq, cq, hA, k0, k1, k2, hlq, hCq⟩ := at_T24 HC0.out j (by omega) (by omega)
      subst hA
      have k0 := pw_cell_below HB.out k0
      have k1 := pw_cell_below HB.out k1
      have k2 := pw_cell_below HB.out k2
      simp only [Int.toNat_natCast] at k0 k1 k2
      have hlt' : (j : Int) < (l0.length : Int) := by omega
      have HOKP := Lib.hid (show okP (rd_T24 l0 j) = true from List.all_eq_true.1 HOK.out _ (by
        simp only [rd_T24, Int.toNat_natCast, List.getD_eq_getElem?_getD, List.getElem?_eq_getElem hlt, Option.getD_some]
        exact List.getElem_mem _))
      have HCQ := Lib.hid hCq
      have hgl := goneL_length l0 l1 j
      rw [HG.out] at hgl
      have hsz := HB.out.size
      have HO2 := Lib.hid (Kd.C_alloc (Kd.C_below HC1.out HB.out) (boxQ (rd_T24 l0 j) Aq cq))
      have hcont := contains_tells l1 (rd_T24 l0 j).f0 hl1
      clear hCq
      by_cases hout : (rd_T24 l0 j).f0 ∈ l1
      · rw [decide_eq_true hout] at hcont
        have HCO := Lib.hid hcont
        have HOUT := Lib.hid (show isOut l0 l1 j = true from decide_eq_true hout)
        clear hcont hout
        go_wp2_with (first
          | (go_at_call 25; refine (slices_Contains_int_int.calls (l1.length + 1) A1 c1 l1 _ true _ HO2.out hc1 HCO.out).mono ?_; rintro e w' ⟨rfl, hd⟩; obtain ⟨nd, rfl⟩ := hd)
          | (at_builtin; refine OwnRow.append (w0 := w) w.heap.size rfl (.tmp 18) (.tmp 20) 27 24 _ 3 40 rfl Try.underlying27 info24 rfl (by decide) (by decide) (.slice Ag gs.length cg) gs (rd_T24 l0 j) [.int .i64 (rd_T24 l0 j).f0, .int .i64 (rd_T24 l0 j).f1, .slice Aq (rd_T24 l0 j).f2.length cq] rfl (by show Value.slice (some ⟨wr.heap.size + 1, 0, none⟩) 1 1 = _; simp) (k24_mk w _ hlq HCQ.out) rfl (by simp [Value.oneCell']) (OwnRow.below HO.out (by first | exact pw_below_drewN ((Below.refl _ _).alloc (Nat.le_refl _) _) _ | exact (Below.refl _ _).alloc (Nat.le_refl _) _)) (by first | exact pw_below_drewN (HB.out.alloc hsz _) _ | exact (HB.out.alloc hsz _)) (by simp; omega) (by omega) ?_; intro v1 w1 hown hb1 hg hat; have HO1 := Lib.hid hown; have HB1 := Lib.hid hb1; clear hown hb1 hg hat))
        go_roundw
        case rel =>
          refine ⟨j + 1, gs ++ [rd_T24 l0 j], by omega, by go_num, HO1, Lib.hid (by rw [goneL_out HOUT.out, HG.out]), Lib.hid (fun m hm => ?_), HB1⟩
          rcases Nat.lt_or_ge m j with h | h
          · exact HN.out m h
          · obtain rfl : m = j := by omega
            unfold safeAt
            rw [HOUT.out]
            rfl
        case measure => simp [intOf]; omega
      · rw [decide_eq_false hout] at hcont
        have HCO := Lib.hid hcont
        have HOUT := Lib.hid (show isOut l0 l1 j = false from decide_eq_false hout)
        have HGO := Lib.hid (show gs.all okP = true from by rw [← HG.out]; exact goneL_ok HOK.out (by omega))
        clear hcont hout
        cases hany : gs.any (lapB (rd_T24 l0 j)) with
        | true =>
          have HANY := Lib.hid hany
          clear hany
          go_wp2_with (first
            | (go_at_call 25; refine (slices_Contains_int_int.calls (l1.length + 1) A1 c1 l1 _ false _ HO2.out hc1 HCO.out).mono ?_; rintro e w' ⟨rfl, hd⟩; obtain ⟨nd, rfl⟩ := hd)
            | (go_at_call 26; refine (contains_calls _ wr.heap.size (rd_T24 l0 j) Aq Ag cq cg gs (by first | exact blk_new _ _ | exact blk_drew (blk_new _ _)) hlq (Kd.C_below HCQ.out (by first | exact pw_below_drewN (HB.out.alloc hsz _) _ | exact (HB.out.alloc hsz _))) (ReadsRow.imp_ HRD.out (by first | exact pw_below_drewN ((Below.refl _ _).alloc (Nat.le_refl _) _) _ | exact (Below.refl _ _).alloc (Nat.le_refl _) _) (fun p c hp => k24.K_below (by first | exact pw_below_drewN (HB.out.alloc hsz _) _ | exact (HB.out.alloc hsz _)) hp)) hgc (by omega) HOKP.out HGO.out).mono ?_; rw [HANY.out]; rintro e w1 ⟨rfl, hb1⟩))
          go_ret
          refine ⟨?_, (pw_below_drewN (HB.out.alloc hsz _) _).trans (hb1.mono (by simp; omega))⟩
          have : (List.range l0.length).all (safeAt l0 l1) = false := by
            refine List.all_eq_false.2 ⟨j, List.mem_range.2 hlt, ?_⟩
            unfold safeAt
            rw [HOUT.out, HG.out, HANY.out]
            simp
          exact (congrArg (fun b => Ending.returned (Value.bool b)) (this.symm.trans HR.out) :)
        | false =>
          have HANY := Lib.hid hany
          clear hany
          go_wp2_with (first
            | (go_at_call 25; refine (slices_Contains_int_int.calls (l1.length + 1) A1 c1 l1 _ false _ HO2.out hc1 HCO.out).mono ?_; rintro e w' ⟨rfl, hd⟩; obtain ⟨nd, rfl⟩ := hd)
            | (go_at_call 26; refine (contains_calls _ wr.heap.size (rd_T24 l0 j) Aq Ag cq cg gs (by first | exact blk_new _ _ | exact blk_drew (blk_new _ _)) hlq (Kd.C_below HCQ.out (by first | exact pw_below_drewN (HB.out.alloc hsz _) _ | exact (HB.out.alloc hsz _))) (ReadsRow.imp_ HRD.out (by first | exact pw_below_drewN ((Below.refl _ _).alloc (Nat.le_refl _) _) _ | exact (Below.refl _ _).alloc (Nat.le_refl _) _) (fun p c hp => k24.K_below (by first | exact pw_below_drewN (HB.out.alloc hsz _) _ | exact (HB.out.alloc hsz _)) hp)) hgc (by omega) HOKP.out HGO.out).mono ?_; rw [HANY.out]; rintro e w1 ⟨rfl, hb1⟩))
          go_roundw
          case rel =>
            have hbig : Below w.heap.size w w1 := (pw_below_drewN (HB.out.alloc hsz _) _).trans (hb1.mono (by simp; omega))
            refine ⟨j + 1, gs, by omega, by go_num, Lib.hid (OwnRow.below (OwnRow.below HO.out (by first | exact pw_below_drewN ((Below.refl _ _).alloc (Nat.le_refl _) _) _ | exact (Below.refl _ _).alloc (Nat.le_refl _) _)) hb1), Lib.hid (by rw [goneL_in HOUT.out, HG.out]), Lib.hid (fun m hm => ?_), Lib.hid hbig⟩
            rcases Nat.lt_or_ge m j with h | h
            · exact HN.out m h
            · obtain rfl : m = j := by omega
              unfold safeAt
              rw [HOUT.out, HG.out, HANY.out]
              rfl
          case measure => simp [intOf]; omega
    · obtain rfl : j = l0.length := by omega
      go_wp2
      go_ret
      refine ⟨?_, HB.out⟩
      have : (List.range l0.length).all (safeAt l0 l1) = true := List.all_eq_true.2 fun m hm => HN.out m (List.mem_range.1 hm)
      exact (congrArg (fun b => Ending.returned (Value.bool b)) (this.symm.trans HR.out) :)
end Go.Proofs.Ytemachlhoanngaa.Given
