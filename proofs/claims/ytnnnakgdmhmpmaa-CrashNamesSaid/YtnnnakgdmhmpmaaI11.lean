/- CrashNames: the walk. -/
import Derived.Test.YtnnnakgdmhmpmaaI10
import Derived.Deep.DeepCutAuto
import Derived.Deep.CutBlock
namespace Go.Proofs.Ytnnnakgdmhmpmaa.Given
open Go.RowKit Go.Proofs.YtnnnakgdmhmpmaaW.PrintWords Go.Proofs.YtnnnakgdmhmpmaaW.PrintLast Go.Proofs.YtnnnakgdmhmpmaaW.PrintMore Go.Proofs.YtnnnakgdmhmpmaaBase
set_option linter.unusedVariables false
set_option linter.unusedSimpArgs false

theorem WS.lower {base base' : Nat} {w : World} {g : Nat} {N : List NS} {Q : List PS} (h : WS base w g N Q) (hb : base' ≤ base) : WS base' w g N Q := by
  obtain ⟨bn, bp, N', Q', hI, h1, h2⟩ := h
  exact ⟨bn, bp, N', Q', hI.lower hb, h1, h2⟩
/-- what the law has: the Watch, a node's box with what is found -/
def NBox (w : World) (g : Nat) (N : List NS) (f : Int) (nb : Nat) (A5 : Option Addr) (c5 : Nat) (wr : World) : Prop :=
  WS w.heap.size wr g N [] ∧ Below w.heap.size w wr ∧ wr.heap[nb]? = some (.cells #[.int .i64 1, .int .i64 2, .int .i64 0, .int .i64 0, .slice none 0 0, .slice A5 (nF f).f5.length c5] 29 (0, 0)) ∧ Node wr (nF f) none 0 A5 c5

theorem nF_pos {f : Int} (h : 0 < f) : (nF f).f5 = [⟨f, sA⟩] := by simp [nF, h]
theorem nF_zero {f : Int} (h : ¬ 0 < f) : (nF f).f5 = [] := by simp [nF, h]
theorem NBox.pos {w wc : World} {g : Nat} {N : List NS} {f : Int} (h : WS w.heap.size wc g N [] ∧ Below w.heap.size w wc) (hf : 0 < f) : NBox w g N f wc.heap.size (some ⟨wc.heap.size + 1, 0, none⟩) 1
    ((wc.alloc (.cells #[.int .i64 1, .int .i64 2, .int .i64 0, .int .i64 0, .slice none 0 0, .slice (some ⟨wc.heap.size + 1, 0, none⟩) 1 1] 29)).alloc (.cells #[.int .i64 f, .string sA] 33)) := by
  have e := nF_pos hf
  have hb1 := blk_new wc (.cells #[.int .i64 1, .int .i64 2, .int .i64 0, .int .i64 0, .slice none 0 0, .slice (some ⟨wc.heap.size + 1, 0, none⟩) 1 1] 29)
  have hb2 := blk_new (wc.alloc (.cells #[.int .i64 1, .int .i64 2, .int .i64 0, .int .i64 0, .slice none 0 0, .slice (some ⟨wc.heap.size + 1, 0, none⟩) 1 1] 29)) (.cells #[.int .i64 f, .string sA] 33)
  rw [World.size_alloc] at hb2
  have hbb := below_alloc (below_alloc (Below.refl wc.heap.size wc) (.cells #[.int .i64 1, .int .i64 2, .int .i64 0, .int .i64 0, .slice none 0 0, .slice (some ⟨wc.heap.size + 1, 0, none⟩) 1 1] 29)) (.cells #[.int .i64 f, .string sA] 33)
  refine ⟨h.1.below hbb, h.2.trans (hbb.mono h.2.size), ?_, ⟨by simp [nF], by rw [e]; simp, Kd.C_nil _ _, by rw [e]; exact C33_one (x := ⟨f, sA⟩) hb2⟩⟩
  rw [e]
  exact blk_alloc hb1 _
theorem NBox.zero {w wc : World} {g : Nat} {N : List NS} {f : Int} (h : WS w.heap.size wc g N [] ∧ Below w.heap.size w wc) (hf : ¬ 0 < f) : NBox w g N f wc.heap.size none 0
    (wc.alloc (.cells #[.int .i64 1, .int .i64 2, .int .i64 0, .int .i64 0, .slice none 0 0, .slice none 0 0] 29)) := by
  have e := nF_zero hf
  have hbb := below_alloc (Below.refl wc.heap.size wc) (.cells #[.int .i64 1, .int .i64 2, .int .i64 0, .int .i64 0, .slice none 0 0, .slice none 0 0] 29)
  refine ⟨h.1.below hbb, h.2.trans (hbb.mono h.2.size), ?_, ⟨by simp [nF], by rw [e]; simp, Kd.C_nil _ _, by rw [e]; exact Kd.C_nil _ _⟩⟩
  rw [e]
  exact blk_new wc _
theorem I64.of_wf {n : Int} (h : (Lit.int .i64 n).wf = true) : I64 n := by
  have h1 : IntKind.i64.min = -9223372036854775808 := by decide
  have h2 : IntKind.i64.max = 9223372036854775807 := by decide
  simp only [Lit.wf, h1, h2, Bool.and_eq_true, decide_eq_true_eq] at h
  exact h
theorem fit_nF {f : Int} (h : I64 f) : NodeFit (nF f) := by
  refine ⟨(by unfold I64; decide : I64 1), fun e he => ?_, fun e he => by simp [nF] at he⟩
  unfold nF at he
  by_cases h0 : 0 < f
  · simp only [h0, if_true, List.mem_singleton] at he
    subst he
    exact ⟨h, sA_max⟩
  · simp [h0] at he

set_option maxRecDepth 100000 in
set_option maxHeartbeats 4000000 in
theorem names_row (A : Option Addr) (c : Nat) (l : List Int) (s f : Int) (w : World) (hC : Kd.C (Kd.int .i64) w A l.length l) (hc : l.length ≤ c) (hl : l.length ≤ maxLen ∧ ∀ y ∈ l, (Lit.int .i64 y).wf = true) (hs : (Lit.int .i64 s).wf = true) (hf : (Lit.int .i64 f).wf = true) :
    Calls Try.prog 3 #[.slice A l.length c, .int .i64 s, .int .i64 f] w fun e w' => e = .returned (.bool true) ∧ Below w.heap.size w w' := by
  have hlm := hl.1
  unfold maxLen at hlm
  by_cases h1 : 50 < l.length
  · have h1i : (50 : Int) < (l.length : Int) := by omega
    clear hC hl
    go_enter Try.func3, Try.ntmps3
    go_wp2_with (go_at_call 6; (with_reducible refine (alive_calls _).mono ?_); rintro e w1 ⟨rfl, hb⟩; have HB := Lib.hid hb; clear hb)
    go_ret
    exact ⟨rfl, HB.out⟩
  by_cases h2 : s < 0
  · clear hC hl
    go_enter Try.func3, Try.ntmps3
    go_wp2_with (go_at_call 6; (with_reducible refine (alive_calls _).mono ?_); rintro e w1 ⟨rfl, hb⟩; have HB := Lib.hid hb; clear hb)
    go_ret
    exact ⟨rfl, HB.out⟩
  by_cases h3 : (l.length : Int) < s
  · clear hC hl
    go_enter Try.func3, Try.ntmps3
    go_wp2_with (go_at_call 6; (with_reducible refine (alive_calls _).mono ?_); rintro e w1 ⟨rfl, hb⟩; have HB := Lib.hid hb; clear hb)
    go_ret
    exact ⟨rfl, HB.out⟩
  by_cases h4 : f < 0
  · clear hC hl
    go_enter Try.func3, Try.ntmps3
    go_wp2_with (go_at_call 6; (with_reducible refine (alive_calls _).mono ?_); rintro e w1 ⟨rfl, hb⟩; have HB := Lib.hid hb; clear hb)
    go_ret
    exact ⟨rfl, HB.out⟩
  obtain ⟨k, rfl⟩ : ∃ k : Nat, s = (k : Int) := ⟨s.toNat, by omega⟩
  have hk : k ≤ l.length := by omega
  have hki : (k : Int) ≤ (l.length : Int) := by omega
  have h50 : l.length ≤ 50 := by omega
  have hf0 : (0 : Int) ≤ f := by omega
  have hfi : I64 f := I64.of_wf hf
  have HFI := Lib.hid hfi
  have hwf := fun (j : Nat) (hj : j < l.length) => I64.of_wf (hl.2 _ (List.getElem_mem hj))
  have HWF : Hid (∀ j, j < l.length → I64 (wasAt l j)) := Lib.hid (fun j hj => by unfold wasAt; rw [List.getD_eq_getElem?_getD, List.getElem?_eq_getElem hj, Option.getD_some]; exact hwf j hj)
  have HC := Lib.hid hC
  have hi1 : Hid (I64 1) := Lib.hid (by unfold I64; decide)
  clear hfi hwf hl hC hf hs
  go_enter Try.func3, Try.ntmps3
  go_wp2_with (first
    | (go_at_call 6; (with_reducible refine (alive_calls _).mono ?_); rintro e w1 ⟨rfl, hb⟩; have HB1 := Lib.hid hb; have HBK := Lib.hid (blk_nD w1); clear hb)
    | (go_at_call 7; (with_reducible refine (new_nD_calls _ HBK.out).mono ?_); rintro e w2 ⟨g, rfl, hW, hb⟩; have HW := Lib.hid (And.intro (WS.lower hW (Nat.le_trans HB1.out.size (by simp))) ((HB1.out.alloc HB1.out.size _).trans (hb.mono (Nat.le_trans HB1.out.size (by simp))))); clear hW hb))
  clear HBK HB1
  go_loopw [9] (fun i wr => ∃ m : Nat, m ≤ l.length ∧ i = .int .i64 (m : Int) ∧ Hid (WS w.heap.size wr g (stN l k m) [] ∧ Below w.heap.size w wr)) (fun i _ => l.length - (intOf i).toNat)
  case atStart => exact ⟨0, Nat.zero_le _, rfl, HW⟩
  case round =>
    clear HW
    obtain ⟨m, hm, rfl, HW⟩ := hrel
    by_cases hlt : m < l.length
    · have hlti : (m : Int) < (l.length : Int) := by omega
      obtain ⟨ad, rfl, hcell⟩ := C_cells HC.out (by omega)
      have hcl : w.cell? (ad.add m) = some (.int .i64 (wasAt l m)) := hcell m _ (by unfold wasAt; simp [nums, List.getElem?_eq_getElem hlt, List.getD_eq_getElem?_getD])
      obtain ⟨x, hx⟩ : ∃ x, wasAt l m = x := ⟨_, rfl⟩
      have hxi := HWF.out m hlt
      rw [hx] at hcl hxi
      have HX := Lib.hid hx
      have HXI := Lib.hid hxi
      have HCW := Lib.hid hcl
      have hcr := pw_cell_below HW.out.2 hcl
      clear hcell hx hxi hcl
      by_cases hneg : x < 0
      · have HB := Lib.hid HW.out.2
        clear HW
        go_wp2
        go_ret
        exact ⟨rfl, HB.out⟩
      · by_cases hmk : m = k
        · subst hmk
          have HE : Hid (stN l m (m + 1) = entS (syncS (stN l m m)) 1 sA x) := Lib.hid (by rw [← HX.out]; conv => lhs; unfold stN; rw [if_pos rfl])
          have b1 : ((m : Int) == (m : Int)) = true := by simp
          go_wp2_with (first
            | (go_at_call 8; (with_reducible refine (synced_calls HW.out.1).mono ?_); rintro e w3 ⟨rfl, hW3, hb3⟩; have HW3 := Lib.hid (And.intro hW3 (HW.out.2.trans hb3)); have hc3 := pw_cell_below HW3.out.2 HCW.out; clear hW3 hb3)
            | (go_at_call 9; (with_reducible refine (entry_calls HW3.out.1 hi1.out sA_max HXI.out).mono ?_); rintro e w4 ⟨rfl, hW4, hb4, _⟩; have HW4 := Lib.hid (And.intro hW4 (HW3.out.2.trans hb4)); clear hW4 hb4))
          go_roundw
          case rel => exact ⟨m + 1, by omega, by go_num, by rw [HE.out]; exact HW4⟩
          case measure => simp [intOf]; omega
        · have HE : Hid (stN l k (m + 1) = entS (stN l k m) 1 sA x) := Lib.hid (by rw [← HX.out]; conv => lhs; unfold stN; rw [if_neg hmk])
          have hne : ¬ (m : Int) = (k : Int) := by omega
          have b1 : ((m : Int) == (k : Int)) = false := by simpa using hne
          have b2 : decide ((m : Int) = (k : Int)) = false := by simpa using hne
          have b3 : decide (m = k) = false := by simpa using hmk
          have b4 : (m == k) = false := by simpa using hmk
          clear hne hmk
          go_wp2_with (first
            | (go_at_call 9; (with_reducible refine (entry_calls HW.out.1 hi1.out sA_max HXI.out).mono ?_); rintro e w4 ⟨rfl, hW4, hb4, _⟩; have HW4 := Lib.hid (And.intro hW4 (HW.out.2.trans hb4)); clear hW4 hb4))
          go_roundw
          case rel => exact ⟨m + 1, by omega, by go_num, by rw [HE.out]; exact HW4⟩
          case measure => simp [intOf]; omega
    · obtain rfl : m = l.length := by omega
      clear hlt
      go_upto_if 66 with (fail)
      go_cut [8] (fun s8 wc => s8 = .pointer (some ⟨g, 0, none⟩) ∧ Hid (WS w.heap.size wc g (endN l k) [] ∧ Below w.heap.size w wc))
      case first =>
        by_cases hmk : k = l.length
        · have HE : Hid (endN l k = syncS (stN l k l.length)) := Lib.hid (by unfold endN; rw [if_pos hmk])
          have b1 : ((k : Int) == (l.length : Int)) = true := by rw [hmk]; simp
          have b4 : (k == l.length) = true := by rw [hmk]; simp
          have b2 : decide ((k : Int) = (l.length : Int)) = true := by rw [hmk]; simp
          have b3 : decide (k = l.length) = true := by rw [hmk]; simp
          clear hmk
          go_wp2_with (first
            | (go_at_call 8; (with_reducible refine (synced_calls HW.out.1).mono ?_); rintro e w3 ⟨rfl, hW3, hb3⟩; have HW3 := Lib.hid (And.intro hW3 (HW.out.2.trans hb3)); clear hW3 hb3))
          go_meet
          case rel => exact ⟨rfl, by rw [HE.out]; exact HW3⟩
        · have HE : Hid (endN l k = stN l k l.length) := Lib.hid (by unfold endN; rw [if_neg hmk])
          have hne : ¬ (k : Int) = (l.length : Int) := by omega
          have b1 : ((k : Int) == (l.length : Int)) = false := by simpa using hne
          have b2 : decide ((k : Int) = (l.length : Int)) = false := by simpa using hne
          have b3 : decide (k = l.length) = false := by simpa using hmk
          have b4 : (k == l.length) = false := by simpa using hmk
          clear hne hmk
          go_wp2
          go_meet
          case rel => exact ⟨rfl, by rw [HE.out]; exact HW⟩
      case rest =>
        obtain ⟨rfl, HV⟩ := hcut
        clear HW
        go_upto_if 71 with (fail)
        go_cut [10] (fun s10 wd => ∃ (nb : Nat) (A5 : Option Addr) (c5 : Nat), s10 = .pointer (some ⟨nb, 0, none⟩) ∧ Hid (NBox w g (endN l k) f nb A5 c5 wd))
        case first =>
          by_cases hfp : 0 < f
          · go_wp2
            go_meet
            case rel => exact ⟨_, _, _, rfl, Lib.hid (NBox.pos HV.out hfp)⟩
          · go_wp2
            go_meet
            case rel => exact ⟨_, _, _, rfl, Lib.hid (NBox.zero HV.out (by omega))⟩
        case rest =>
          obtain ⟨nb, A5, c5, rfl, HN⟩ := hcut
          clear HV
          go_upto_if 77 with (fail)
          go_cut [11] (fun s11 wd => s11 = .int .i64 (lastOf l k) ∧ Hid (NBox w g (endN l k) f nb A5 c5 wd))
          case first =>
            by_cases hk0 : 0 < k
            · have hk0i : (0 : Int) < (k : Int) := by omega
              have hk0j : ((k : Int) - 1).toNat = k - 1 := by omega
              have hk0l : (k : Int) - 1 < (l.length : Int) := by omega
              have hk0m : (0 : Int) ≤ (k : Int) - 1 := by omega
              obtain ⟨ad, rfl, hcell⟩ := C_cells HC.out (by omega)
              have hcl : w.cell? (ad.add (k - 1)) = some (.int .i64 (lastOf l k)) := hcell (k - 1) _ (by
                have h9 : k - 1 < l.length := by omega
                unfold lastOf wasAt
                rw [if_pos hk0]
                simp [nums, List.getElem?_eq_getElem h9, List.getD_eq_getElem?_getD])
              have hcr := pw_cell_below HN.out.2.1 hcl
              clear hcell hcl
              go_wp2
              go_meet
              case rel => exact ⟨rfl, HN⟩
            · have hk0i : ¬ (0 : Int) < (k : Int) := by omega
              have HL : Hid (lastOf l k = 0) := Lib.hid (by unfold lastOf; rw [if_neg hk0])
              go_wp2
              go_meet
              case rel => exact ⟨by rw [HL.out], HN⟩
          case rest =>
            obtain ⟨rfl, HN1⟩ := hcut
            clear HN
            obtain ⟨la, hla⟩ : ∃ la, lastOf l k = la := ⟨_, rfl⟩
            have HLA := Lib.hid hla
            rw [hla]
            clear hla
            go_wp2
            go_loopw [12, 13] (fun b i wr => ∃ (m : Nat) (q : Bool), k ≤ m ∧ m ≤ l.length ∧ i = .int .i64 (m : Int) ∧ b = .bool q ∧ Hid (q = true ↔ SetOf l k m f) ∧ Hid (NBox w g (endN l k) f nb A5 c5 wr)) (fun _ i _ => l.length - (intOf i).toNat)
            case atStart => exact ⟨k, _, Nat.le_refl _, hk, rfl, rfl, Lib.hid (by unfold SetOf; rw [HLA.out]; simp; constructor; (intro h; exact .inl h.symm); (rintro (h | ⟨j, h1, h2, _⟩); exact h.symm; omega)), HN1⟩
            case round =>
              clear HN1
              obtain ⟨m, q, hkm, hml, rfl, rfl, HQ, HN1⟩ := hrel
              by_cases hlt : m < l.length
              · have hlti : (m : Int) < (l.length : Int) := by omega
                obtain ⟨ad, rfl, hcell⟩ := C_cells HC.out (by omega)
                have hcl : w.cell? (ad.add m) = some (.int .i64 (wasAt l m)) := hcell m _ (by unfold wasAt; simp [nums, List.getElem?_eq_getElem hlt, List.getD_eq_getElem?_getD])
                have hcr := pw_cell_below HN1.out.2.1 hcl
                clear hcell hcl
                cases q with
                | true =>
                  have HQ2 : Hid (true = true ↔ SetOf l k (m + 1) f) := Lib.hid ⟨fun _ => ((HQ.out.1 rfl).imp id (fun ⟨j, h1, h2, h3⟩ => ⟨j, h1, by omega, h3⟩)), fun _ => rfl⟩
                  clear HQ
                  go_wp2
                  go_roundw
                  case rel => exact ⟨m + 1, true, by omega, by omega, by go_num, rfl, HQ2, HN1⟩
                  case measure => simp [intOf]; omega
                | false =>
                  obtain ⟨x, hx⟩ : ∃ x, wasAt l m = x := ⟨_, rfl⟩
                  have HX := Lib.hid hx
                  rw [hx] at hcr
                  clear hx
                  by_cases hxf : x = f
                  · have HQ2 : Hid (true = true ↔ SetOf l k (m + 1) f) := Lib.hid ⟨fun _ => .inr ⟨m, hkm, by omega, by rw [HX.out]; exact hxf⟩, fun _ => rfl⟩
                    have d1 : (x == f) = true := by simpa using hxf
                    have d2 : decide (x = f) = true := by simpa using hxf
                    clear HQ hxf
                    go_wp2
                    go_roundw
                    case rel => exact ⟨m + 1, true, by omega, by omega, by go_num, by first | rfl | simp [d1] | simp [d2], HQ2, HN1⟩
                    case measure => simp [intOf]; omega
                  · have HQ2 : Hid (false = true ↔ SetOf l k (m + 1) f) := Lib.hid ⟨fun h => (by cases h), fun h => HQ.out.2 (h.imp id (fun ⟨j, h1, h2, h3⟩ => ⟨j, h1, by
                      rcases Nat.lt_succ_iff_lt_or_eq.1 h2 with h2 | rfl
                      · exact h2
                      · exact absurd (HX.out.symm.trans h3) hxf, h3⟩))⟩
                    have d1 : (x == f) = false := by simpa using hxf
                    have d2 : decide (x = f) = false := by simpa using hxf
                    clear HQ hxf
                    go_wp2
                    go_roundw
                    case rel => exact ⟨m + 1, false, by omega, by omega, by go_num, by first | rfl | simp [d1] | simp [d2], HQ2, HN1⟩
                    case measure => simp [intOf]; omega
              · obtain rfl : m = l.length := by omega
                clear hlt
                go_upto_if 103 with (fail)
                go_cut [12] (fun s12 wd => ∃ q : Bool, s12 = .bool q ∧ Hid (q = true ↔ Want l k f) ∧ Hid (NBox w g (endN l k) f nb A5 c5 wd))
                case first =>
                  by_cases hfz : f = 0
                  · have HFZ := Lib.hid hfz
                    have d1 : (f == 0) = true := by simpa using hfz
                    have d2 : decide (f = 0) = true := by simpa using hfz
                    clear hfz
                    obtain ⟨wo, rfl⟩ : ∃ wo : World, wo = wr := ⟨_, rfl⟩
                    go_wp2
                    go_loopw [12, 14] (fun b i wr => ∃ (m : Nat) (q : Bool), k ≤ m ∧ m ≤ l.length ∧ i = .int .i64 (m : Int) ∧ b = .bool q ∧ Hid (q = true ↔ SetOf l k l.length f ∨ ∃ j, k ≤ j ∧ j < m ∧ wasAt l j ≠ la) ∧ Hid (NBox w g (endN l k) f nb A5 c5 wr)) (fun _ i _ => l.length - (intOf i).toNat)
                    case atStart => exact ⟨k, q, Nat.le_refl _, hk, rfl, rfl, Lib.hid (HQ.out.trans ⟨.inl, fun h => h.elim id (fun ⟨j, h1, h2, _⟩ => absurd h2 (by omega))⟩), HN1⟩
                    case round =>
                      clear HQ HN1
                      obtain ⟨m, q, hkm, hml, rfl, rfl, HQ, HN1⟩ := hrel
                      by_cases hlt : m < l.length
                      · have hlti : (m : Int) < (l.length : Int) := by omega
                        obtain ⟨ad, rfl, hcell⟩ := C_cells HC.out (by omega)
                        have hcl : w.cell? (ad.add m) = some (.int .i64 (wasAt l m)) := hcell m _ (by unfold wasAt; simp [nums, List.getElem?_eq_getElem hlt, List.getD_eq_getElem?_getD])
                        have hcr := pw_cell_below HN1.out.2.1 hcl
                        clear hcell hcl
                        cases q with
                        | true =>
                          have HQ2 : Hid (true = true ↔ SetOf l k l.length f ∨ ∃ j, k ≤ j ∧ j < m + 1 ∧ wasAt l j ≠ la) := Lib.hid ⟨fun _ => ((HQ.out.1 rfl).imp id (fun ⟨j, h1, h2, h3⟩ => ⟨j, h1, by omega, h3⟩)), fun _ => rfl⟩
                          clear HQ
                          go_wp2
                          go_roundw
                          case rel => exact ⟨m + 1, true, by omega, by omega, by go_num, rfl, HQ2, HN1⟩
                          case measure => simp [intOf]; omega
                        | false =>
                          obtain ⟨x, hx⟩ : ∃ x, wasAt l m = x := ⟨_, rfl⟩
                          have HX := Lib.hid hx
                          rw [hx] at hcr
                          clear hx
                          by_cases hxf : x = la
                          · have HQ2 : Hid (false = true ↔ SetOf l k l.length f ∨ ∃ j, k ≤ j ∧ j < m + 1 ∧ wasAt l j ≠ la) := Lib.hid ⟨fun h => (by cases h), fun h => HQ.out.2 (h.imp id (fun ⟨j, h1, h2, h3⟩ => ⟨j, h1, by
                              rcases Nat.lt_succ_iff_lt_or_eq.1 h2 with h2 | rfl
                              · exact h2
                              · exact absurd (HX.out.trans hxf) h3, h3⟩))⟩
                            have d3 : (x == la) = true := by simpa using hxf
                            have d4 : decide (x = la) = true := by simpa using hxf
                            have d5 : (x != la) = false := by simpa using hxf
                            clear HQ hxf
                            go_wp2
                            go_roundw
                            case rel => exact ⟨m + 1, false, by omega, by omega, by go_num, by first | rfl | simp [d3] | simp [d4] | simp [d5], HQ2, HN1⟩
                            case measure => simp [intOf]; omega
                          · have HQ2 : Hid (true = true ↔ SetOf l k l.length f ∨ ∃ j, k ≤ j ∧ j < m + 1 ∧ wasAt l j ≠ la) := Lib.hid ⟨fun _ => .inr ⟨m, hkm, by omega, by rw [HX.out]; exact hxf⟩, fun _ => rfl⟩
                            have d3 : (x == la) = false := by simpa using hxf
                            have d4 : decide (x = la) = false := by simpa using hxf
                            have d5 : (x != la) = true := by simpa using hxf
                            clear HQ hxf
                            go_wp2
                            go_roundw
                            case rel => exact ⟨m + 1, true, by omega, by omega, by go_num, by first | rfl | simp [d3] | simp [d4] | simp [d5], HQ2, HN1⟩
                            case measure => simp [intOf]; omega
                      · obtain rfl : m = l.length := by omega
                        clear hlt
                        go_wp2
                        go_meet
                        case rel => exact ⟨q, rfl, Lib.hid (HQ.out.trans (by unfold Want; rw [HLA.out]; exact ⟨fun h => h.imp id (fun h => ⟨HFZ.out, h⟩), fun h => h.imp id (fun h => h.2)⟩)), HN1⟩
                  · have HFZ := Lib.hid hfz
                    have d1 : (f == 0) = false := by simpa using hfz
                    have d2 : decide (f = 0) = false := by simpa using hfz
                    clear hfz
                    go_wp2
                    go_meet
                    case rel => exact ⟨q, rfl, Lib.hid (HQ.out.trans ⟨.inl, fun h => h.elim id (fun h => absurd h.1 HFZ.out)⟩), HN1⟩
                case rest =>
                  clear HQ HN1
                  obtain ⟨q, rfl, HQ, HN⟩ := hcut
                  have hbk := HN.out.2.2.1
                  have c0 := blk_cell hbk 0
                  have c1 := blk_cell hbk 1
                  have c2 := blk_cell hbk 2
                  have c3 := blk_cell hbk 3
                  have c4 := blk_cell hbk 4
                  have c5' := blk_cell hbk 5
                  simp only [List.getElem?_toArray, List.getElem?_cons_zero, List.getElem?_cons_succ] at c0 c1 c2 c3 c4 c5'
                  have hbel := below_alloc (Below.refl wc.heap.size wc) (.cells #[.int .i64 1, .int .i64 2, .int .i64 0, .int .i64 0, .slice none 0 0, .slice A5 (nF f).f5.length c5] 29)
                  have HWS := Lib.hid (HN.out.1.below hbel)
                  have HCC : Hid (Kd.C k29 (wc.alloc (.cells #[.int .i64 1, .int .i64 2, .int .i64 0, .int .i64 0, .slice none 0 0, .slice A5 (nF f).f5.length c5] 29)) (some ⟨wc.heap.size, 0, none⟩) [nF f].length [nF f]) := Lib.hid (C29_one (x := nF f) (blk_new wc _) (HN.out.2.2.2.below hbel))
                  have HB := Lib.hid (HN.out.2.1.trans (hbel.mono HN.out.2.1.size))
                  have HSH := Lib.hid (endN_short l k hk (by omega))
                  have HMB := Lib.hid ((maybe_nF l k hk f hf0).trans HQ.out.symm)
                  clear hbk hbel HN HQ
                  cases q with
                  | true =>
                    go_wp2_with (go_at_call 10; (with_reducible refine (ok_one HWS.out HCC.out (fit_nF HFI.out) HSH.out).mono ?_); rintro e w9 ⟨b, rfl, hb, hb9⟩; obtain rfl : b = true := hb.2 (HMB.out.2 rfl); have HB9 := Lib.hid (HB.out.trans (hb9.mono HB.out.size)); clear hb hb9)
                    go_ret
                    exact ⟨rfl, HB9.out⟩
                  | false =>
                    go_wp2_with (go_at_call 10; (with_reducible refine (ok_one HWS.out HCC.out (fit_nF HFI.out) HSH.out).mono ?_); rintro e w9 ⟨b, rfl, hb, hb9⟩; obtain rfl : b = false := (by cases b; rfl; exact absurd (HMB.out.1 (hb.1 rfl)) (by simp)); have HB9 := Lib.hid (HB.out.trans (hb9.mono HB.out.size)); clear hb hb9)
                    go_ret
                    exact ⟨rfl, HB9.out⟩
end Go.Proofs.Ytnnnakgdmhmpmaa.Given
