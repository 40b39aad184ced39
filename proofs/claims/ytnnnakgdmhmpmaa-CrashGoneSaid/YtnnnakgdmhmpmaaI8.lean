/- crash.New: a Watch of nodes. -/
import Derived.Test.YtnnnakgdmhmpmaaI7
namespace Go.Proofs.Ytnnnakgdmhmpmaa.Given
open Go.RowKit Go.Proofs.YtnnnakgdmhmpmaaW.PrintWords Go.Proofs.YtnnnakgdmhmpmaaW.PrintLast Go.Proofs.YtnnnakgdmhmpmaaW.PrintMore Go.Proofs.YtnnnakgdmhmpmaaBase
set_option linter.unusedVariables false
set_option linter.unusedSimpArgs false

noncomputable def slotN (d : Int) (N : List NS) (e : S33) : List NS := if e.f0 = 0 then N else entS N d e.f1 e.f0
noncomputable def partQ (d : Int) (Q : List PS) (p : S39) : List PS := partS Q d p.f0 (blk p.f1)
noncomputable def nodeN (N : List NS) (n : S29) : List NS := n.f5.foldl (slotN n.f0) N
noncomputable def nodeQ (Q : List PS) (n : S29) : List PS := n.f4.foldl (partQ n.f0) Q
theorem foldl_take {α β : Type} (f : β → α → β) (b : β) (l : List α) (z : α) {m : Nat} (h : m < l.length) : (l.take (m + 1)).foldl f b = f ((l.take m).foldl f b) (l.getD m z) := by
  rw [List.take_succ_eq_append_getElem h, List.foldl_append, List.getD_eq_getElem?_getD, List.getElem?_eq_getElem h]
  rfl
theorem rd39_mem {l : List S39} {j : Nat} (h : j < l.length) : rd39 l j ∈ l := by
  unfold rd39
  rw [List.getD_eq_getElem?_getD, List.getElem?_eq_getElem h, Option.getD_some]
  exact List.getElem_mem _
def NewI (w : World) (g : Nat) (N : List NS) (Q : List PS) (n : S29) (nb : Nat) (A4 : Option Addr) (c4 : Nat) (A5 : Option Addr) (c5 : Nat) (wr : World) : Prop :=
  WS w.heap.size wr g N Q ∧ Below w.heap.size w wr ∧ wr.heap[nb]? = some (.cells #[.int .i64 n.f0, .int .i64 n.f1, .int .i64 n.f2, .int .i64 n.f3, .slice A4 n.f4.length c4, .slice A5 n.f5.length c5] 29 (0, 0))
theorem NewI.alloc {w wr : World} {g nb : Nat} {N : List NS} {Q : List PS} {n : S29} {A4 A5 : Option Addr} {c4 c5 : Nat} (h : NewI w g N Q n nb A4 c4 A5 c5 wr) (o : Obj) : NewI w g N Q n nb A4 c4 A5 c5 (wr.alloc o) := ⟨h.1.below (below_alloc (Below.refl _ _) o), h.2.1.alloc h.2.1.size o, blk_alloc h.2.2 o⟩
theorem NewI.next {w wr w2 : World} {g nb : Nat} {N N2 : List NS} {Q Q2 : List PS} {n : S29} {A4 A5 : Option Addr} {c4 c5 : Nat} (h : NewI w g N Q n nb A4 c4 A5 c5 wr) (hW : WS w.heap.size w2 g N2 Q2) (hb : Below w.heap.size wr w2) (hk : KeepC wr w2) : NewI w g N2 Q2 n nb A4 c4 A5 c5 w2 := ⟨hW, h.2.1.trans hb, hk _ _ _ _ (by decide) h.2.2⟩

theorem WS_new (w : World) : WS w.heap.size (((w.alloc (.map #[] 0)).alloc (.map #[] 0)).alloc (.cells #[.map (some w.heap.size), .map (some (w.heap.size + 1))] 45)) (w.heap.size + 1 + 1) [] [] := by
  refine ⟨w.heap.size, w.heap.size + 1, [], [], ⟨?_, ?_, ?_, by simp, by simp, by simp [bls, flatN]; omega, by simp [bls, flatN]; omega⟩, rfl, rfl⟩
  · have := blk_new ((w.alloc (.map #[] 0)).alloc (.map #[] 0)) (.cells #[.map (some w.heap.size), .map (some (w.heap.size + 1))] 45)
    simpa only [World.size_alloc] using this
  · exact ((MapAt.new w).alloc _).alloc _
  · have := (MapAt.new (P := Try.prog) (k := 55) (w.alloc (.map #[] 0))).alloc (.cells #[.map (some w.heap.size), .map (some (w.heap.size + 1))] 45)
    simp only [World.size_alloc] at this
    exact this

set_option maxRecDepth 100000 in
set_option maxHeartbeats 4000000 in
theorem new_calls {w : World} {l : List S29} {A : Option Addr} {c : Nat} (hC : Kd.C k29 w A l.length l) (hf : ∀ n ∈ l, NodeFit n) :
    Calls Try.prog 7 #[.slice A l.length c] w fun e w' => ∃ g, e = .returned (.pointer (some ⟨g, 0, none⟩)) ∧ WS w.heap.size w' g (syncS (l.foldl nodeN [])) (l.foldl nodeQ []) ∧ Below w.heap.size w w' := by
  have hl := hC.2.1
  have HW0 := Lib.hid (And.intro (WS_new w) ((((Below.refl _ w).alloc (Nat.le_refl _) (.map #[] 0)).alloc (by simp) (.map #[] 0)).alloc (by simp; omega) (.cells #[.map (some w.heap.size), .map (some (w.heap.size + 1))] 45)))
  have HC := Lib.hid hC
  have HF := Lib.hid hf
  have hmk := fun w => @run_makeMap Try.prog w
  clear hC hf
  go_enter Try.func7, Try.ntmps7
  go_wp2
  go_loopw [16] (fun i wr => ∃ m : Nat, m ≤ l.length ∧ i = .int .i64 (m : Int) ∧ Hid (WS w.heap.size wr (w.heap.size + 1 + 1) ((l.take m).foldl nodeN []) ((l.take m).foldl nodeQ []) ∧ Below w.heap.size w wr)) (fun i _ => l.length - (intOf i).toNat)
  case atStart => exact ⟨0, Nat.zero_le _, rfl, HW0⟩
  case round =>
    obtain ⟨m, hm, rfl, HR⟩ := hrel
    by_cases hlt : m < l.length
    · have hlti : (m : Int) < (l.length : Int) := by omega
      have HNN : Hid ((l.take (m + 1)).foldl nodeN [] = nodeN ((l.take m).foldl nodeN []) (rd29 l m)) := Lib.hid (foldl_take _ _ _ z29 hlt)
      have HNQ : Hid ((l.take (m + 1)).foldl nodeQ [] = nodeQ ((l.take m).foldl nodeQ []) (rd29 l m)) := Lib.hid (foldl_take _ _ _ z29 hlt)
      obtain ⟨N0, hN0⟩ : ∃ x, (l.take m).foldl nodeN [] = x := ⟨_, rfl⟩
      obtain ⟨Q0, hQ0⟩ : ∃ x, (l.take m).foldl nodeQ [] = x := ⟨_, rfl⟩
      rw [hN0] at HNN HR
      rw [hQ0] at HNQ HR
      clear hN0 hQ0
      obtain ⟨ad, A4, c4, A5, c5, rfl, e0, e1, e2, e3, e4, e5, hNd⟩ := at29 HC.out m hlt
      replace e0 := pw_cell_below HR.out.2 e0
      replace e1 := pw_cell_below HR.out.2 e1
      replace e2 := pw_cell_below HR.out.2 e2
      replace e3 := pw_cell_below HR.out.2 e3
      replace e4 := pw_cell_below HR.out.2 e4
      replace e5 := pw_cell_below HR.out.2 e5
      have hfit := HF.out _ (rd29_mem hlt)
      obtain ⟨n, hn⟩ : ∃ n, rd29 l m = n := ⟨_, rfl⟩
      rw [hn] at e0 e1 e2 e3 e4 e5 hNd hfit HNN HNQ
      clear hn
      have HFIT := Lib.hid hfit
      have HNW := Lib.hid hNd
      have HINO := Lib.hid hfit.ino
      have hl5 := hNd.C5.2.1
      have hl4 := hNd.C4.2.1
      have HQ0 : Hid (NewI w (w.heap.size + 1 + 1) N0 Q0 n wr.heap.size A4 c4 A5 c5 (wr.alloc (.cells #[.int .i64 n.f0, .int .i64 n.f1, .int .i64 n.f2, .int .i64 n.f3, .slice A4 n.f4.length c4, .slice A5 n.f5.length c5] 29))) := Lib.hid ⟨HR.out.1.below (below_alloc (Below.refl _ _) _), HR.out.2.alloc HR.out.2.size _, blk_new wr _⟩
      clear HR hfit hNd
      go_wp2
      clear e0 e1 e2 e3 e4 e5
      obtain ⟨wo, rfl⟩ : ∃ wo : World, wo = wr := ⟨_, rfl⟩
      go_loopw [23] (fun i wr => ∃ k : Nat, k ≤ n.f5.length ∧ i = .int .i64 (k : Int) ∧ Hid (NewI w (w.heap.size + 1 + 1) ((n.f5.take k).foldl (slotN n.f0) N0) Q0 n wo.heap.size A4 c4 A5 c5 wr)) (fun i _ => n.f5.length - (intOf i).toNat)
      case atStart => exact ⟨0, Nat.zero_le _, rfl, HQ0⟩
      case round =>
        clear HQ0
        obtain ⟨k, hk, rfl, HQ⟩ := hrel
        by_cases hlk : k < n.f5.length
        · have hlki : (k : Int) < (n.f5.length : Int) := by omega
          have HST : Hid ((n.f5.take (k + 1)).foldl (slotN n.f0) N0 = slotN n.f0 ((n.f5.take k).foldl (slotN n.f0) N0) (rd33 n.f5 k)) := Lib.hid (foldl_take _ _ _ z33 hlk)
          obtain ⟨N1, hN1⟩ : ∃ x, (n.f5.take k).foldl (slotN n.f0) N0 = x := ⟨_, rfl⟩
          rw [hN1] at HST HQ
          clear hN1
          obtain ⟨ae, rfl, s0, s1⟩ := at33 (Kd.C_below HNW.out.C5 HQ.out.2.1) k hlk
          have hes := HFIT.out.names _ (rd33_mem hlk)
          obtain ⟨y, hy⟩ : ∃ y, rd33 n.f5 k = y := ⟨_, rfl⟩
          rw [hy] at HST s0 s1 hes
          clear hy
          have HES := Lib.hid hes
          have HQA := Lib.hid (HQ.out.alloc (.cells #[.int .i64 y.f0, .string y.f1] 33))
          have HWS := Lib.hid HQA.out.1
          have cn0 := blk_cell HQA.out.2.2 0
          simp only [List.getElem?_toArray, List.getElem?_cons_zero, List.getElem?_cons_succ] at cn0
          clear hes HQ
          by_cases hz : y.f0 = 0
          · have n1 : (y.f0 == 0) = true := by simpa using hz
            have n2 : decide (y.f0 = 0) = true := by simpa using hz
            have n3 : (y.f0 != 0) = false := by simpa using hz
            have HST2 : Hid ((n.f5.take (k + 1)).foldl (slotN n.f0) N0 = N1) := Lib.hid (by rw [HST.out, slotN, if_pos hz])
            clear hz
            go_wp2
            go_roundw
            case rel => exact ⟨k + 1, by omega, by go_num, by rw [HST2.out]; exact HQA⟩
            case measure => simp [intOf]; omega
          · have n1 : (y.f0 == 0) = false := by simpa using hz
            have n2 : decide (y.f0 = 0) = false := by simpa using hz
            have n3 : (y.f0 != 0) = true := by simpa using hz
            have HST2 : Hid ((n.f5.take (k + 1)).foldl (slotN n.f0) N0 = entS N1 n.f0 y.f1 y.f0) := Lib.hid (by rw [HST.out, slotN, if_neg hz])
            clear hz
            go_wp2_with (go_at_call 9; (with_reducible refine (entry_calls HWS.out HINO.out HES.out.2 HES.out.1).mono ?_); rintro e w9 ⟨rfl, hW9, hb9, hk9⟩; have HQ9 := Lib.hid (HQA.out.next hW9 hb9 hk9); clear hW9 hb9 hk9)
            go_roundw
            case rel => exact ⟨k + 1, by omega, by go_num, by rw [HST2.out]; exact HQ9⟩
            case measure => simp [intOf]; omega
        · obtain rfl : k = n.f5.length := by omega
          rw [List.take_length] at HQ
          clear hlk
          obtain ⟨N1, hN1⟩ : ∃ x, n.f5.foldl (slotN n.f0) N0 = x := ⟨_, rfl⟩
          have HN1 : Hid (nodeN N0 n = N1) := Lib.hid hN1
          rw [hN1] at HQ
          clear hN1
          have c4' := blk_cell HQ.out.2.2 4
          simp only [List.getElem?_toArray, List.getElem?_cons_zero, List.getElem?_cons_succ] at c4'
          go_wp2
          clear c4'
          obtain ⟨wp, rfl⟩ : ∃ wp : World, wp = wr := ⟨_, rfl⟩
          go_loopw [42] (fun i wr => ∃ k : Nat, k ≤ n.f4.length ∧ i = .int .i64 (k : Int) ∧ Hid (NewI w (w.heap.size + 1 + 1) N1 ((n.f4.take k).foldl (partQ n.f0) Q0) n wo.heap.size A4 c4 A5 c5 wr)) (fun i _ => n.f4.length - (intOf i).toNat)
          case atStart => exact ⟨0, Nat.zero_le _, rfl, HQ⟩
          case round =>
            clear HQ
            obtain ⟨k, hk, rfl, HQ⟩ := hrel
            by_cases hlk : k < n.f4.length
            · have hlki : (k : Int) < (n.f4.length : Int) := by omega
              have HST : Hid ((n.f4.take (k + 1)).foldl (partQ n.f0) Q0 = partQ n.f0 ((n.f4.take k).foldl (partQ n.f0) Q0) (rd39 n.f4 k)) := Lib.hid (foldl_take _ _ _ z39 hlk)
              obtain ⟨Q1, hQ1⟩ : ∃ x, (n.f4.take k).foldl (partQ n.f0) Q0 = x := ⟨_, rfl⟩
              rw [hQ1] at HST HQ
              clear hQ1
              obtain ⟨ae, A1, c1, rfl, s0, s1, hlc, hCd⟩ := at39 (Kd.C_below HNW.out.C4 HQ.out.2.1) k hlk
              have hes := HFIT.out.parts _ (rd39_mem hlk)
              obtain ⟨y, hy⟩ : ∃ y, rd39 n.f4 k = y := ⟨_, rfl⟩
              rw [hy] at HST s0 s1 hes hlc hCd
              clear hy
              have HES := Lib.hid hes
              have hlb := hCd.2.1
              have HCD : Hid (Kd.C (Kd.int .u8) (wr.alloc (.cells #[.int .i64 y.f0, .slice A1 y.f1.length c1] 39)) A1 y.f1.length y.f1) := Lib.hid (Kd.C_below hCd (below_alloc (Below.refl _ _) _))
              have HQA := Lib.hid (HQ.out.alloc (.cells #[.int .i64 y.f0, .slice A1 y.f1.length c1] 39))
              have HWS := Lib.hid HQA.out.1
              have cn0 := blk_cell HQA.out.2.2 0
              simp only [List.getElem?_toArray, List.getElem?_cons_zero, List.getElem?_cons_succ] at cn0
              clear hes HQ hCd hlc
              go_wp2_with (go_at_call 11; (with_reducible refine (part_calls HWS.out HINO.out HES.out HCD.out hlb).mono ?_); rintro e w9 ⟨rfl, hW9, hb9, hk9⟩; have HQ9 := Lib.hid (HQA.out.next hW9 hb9 hk9); clear hW9 hb9 hk9)
              go_roundw
              case rel => exact ⟨k + 1, by omega, by go_num, by rw [HST.out]; exact HQ9⟩
              case measure => simp [intOf]; omega
            · obtain rfl : k = n.f4.length := by omega
              rw [List.take_length] at HQ
              clear hlk
              have HEND : Hid (WS w.heap.size wr (w.heap.size + 1 + 1) ((l.take (m + 1)).foldl nodeN []) ((l.take (m + 1)).foldl nodeQ []) ∧ Below w.heap.size w wr) := Lib.hid (by rw [HNN.out, HNQ.out, HN1.out]; exact ⟨HQ.out.1, HQ.out.2.1⟩)
              clear HQ
              go_wp2
              go_roundw
              case rel => exact ⟨m + 1, by omega, by go_num, HEND⟩
              case measure => simp [intOf]; omega
    · obtain rfl : m = l.length := by omega
      rw [List.take_length] at HR
      clear hlt
      go_wp2_with (go_at_call 8; (with_reducible refine (synced_calls HR.out.1).mono ?_); rintro e w9 ⟨rfl, hW9, hb9⟩; have H9 := Lib.hid (And.intro hW9 (HR.out.2.trans hb9)); clear hW9 hb9)
      go_ret
      exact ⟨_, rfl, H9.out.1, H9.out.2⟩
end Go.Proofs.Ytnnnakgdmhmpmaa.Given
