/- patch.Diff: what it answers, for all bytes. -/
import Derived.Test.YtemachlhoanngaaDiffW
import Derived.Deep.RegionWith
import Derived.LoopTactic
import Derived.Deep.LoopGhost
import Derived.Outline
namespace Go.Proofs.Ytemachlhoanngaa.Given
open Go.RowKit Go.Proofs.YtemachlhoanngaaW.PrintWords Go.Proofs.YtemachlhoanngaaW.PrintLast Go.Proofs.YtemachlhoanngaaBase
set_option linter.unusedVariables false
set_option linter.unusedSimpArgs false

def Mk_ (p : Prop) : Prop := p
theorem mk_ {p : Prop} (h : Mk_ p) : p := h
def grow (out : List S24) (b : Int) : List S24 := out.set (out.length - 1) ⟨(rd_T24 out ((out.length - 1 : Nat) : Int)).f0, (rd_T24 out ((out.length - 1 : Nat) : Int)).f1, (rd_T24 out ((out.length - 1 : Nat) : Int)).f2 ++ [b]⟩
def stepD (a b : Int) (i : Nat) (st : List S24 × Bool) : List S24 × Bool :=
  if a = b then (st.1, false) else if st.2 = true then (grow st.1 b, true) else (st.1 ++ [⟨(st.1.length : Int), (i : Int), [b]⟩], true)
def stD (l0 l1 : List Int) : Nat → List S24 × Bool
  | 0 => ([], false)
  | j + 1 => stepD (rd l0 (j : Int)) (rd l1 (j : Int)) j (stD l0 l1 j)
theorem stD_inv (l0 l1 : List Int) : ∀ j : Nat, (stD l0 l1 j).1.length ≤ j ∧ ((stD l0 l1 j).2 = true → 0 < (stD l0 l1 j).1.length) ∧ ∀ p ∈ (stD l0 l1 j).1, p.f2.length ≤ j
  | 0 => ⟨Nat.le_refl _, (fun h => by cases h), (fun p h => by cases h)⟩
  | j + 1 => by
    obtain ⟨h1, h2, h3⟩ := stD_inv l0 l1 j
    simp only [stD, stepD]
    by_cases c : rd l0 (j : Int) = rd l1 (j : Int)
    · rw [if_pos c]
      exact ⟨by simp only; omega, (fun h => by cases h), fun p hp => Nat.le_succ_of_le (h3 p hp)⟩
    · rw [if_neg c]
      cases hb : (stD l0 l1 j).2 with
      | true =>
        rw [if_pos rfl]
        have hn := h2 hb
        refine ⟨by simp only [grow, List.length_set]; omega, (fun _ => by simp only [grow, List.length_set]; exact hn), fun p hp => ?_⟩
        rcases List.mem_or_eq_of_mem_set hp with hp | hp
        · exact Nat.le_succ_of_le (h3 p hp)
        · rw [hp]
          simp only [List.length_append, List.length_cons, List.length_nil]
          have : rd_T24 (stD l0 l1 j).1 (((stD l0 l1 j).1.length - 1 : Nat) : Int) ∈ (stD l0 l1 j).1 := by
            simp only [rd_T24, Int.toNat_natCast, List.getD_eq_getElem?_getD, List.getElem?_eq_getElem (show (stD l0 l1 j).1.length - 1 < (stD l0 l1 j).1.length by omega), Option.getD_some]
            exact List.getElem_mem _
          have := h3 _ this
          omega
      | false =>
        rw [if_neg (by simp)]
        refine ⟨by simp only [List.length_append, List.length_cons, List.length_nil]; omega, (fun _ => by simp), fun p hp => ?_⟩
        rcases List.mem_append.1 hp with hp | hp
        · exact Nat.le_succ_of_le (h3 p hp)
        · obtain rfl : p = _ := by simpa using hp
          simp
def patch_Diff.f (l0 l1 : List Int) : Option (List S24) := if l0.length ≤ 100000 ∧ l1.length ≤ 100000 then some (if l0.length = l1.length then (stD l0 l1 l0.length).1 else []) else none

set_option maxRecDepth 100000 in
set_option maxHeartbeats 2000000 in
theorem patch_Diff.calls (A0 : Option Addr) (c0 : Nat) (l0 : List Int) (A1 : Option Addr) (c1 : Nat) (l1 : List Int) (r : List S24) (w : World) (hr0 : Kd.C (Kd.int .u8) w A0 l0.length l0) (hc0 : l0.length ≤ c0) (hr1 : Kd.C (Kd.int .u8) w A1 l1.length l1) (hc1 : l1.length ≤ c1) (h : patch_Diff.f l0 l1 = some r) :
    Calls Try.prog 12 #[.slice A0 l0.length c0, .slice A1 l1.length c1] w fun e w' => ∃ v0_ : Value, e = .returned (v0_) ∧ Kd.S k24 24 w' w.heap.size (fun _ => True) v0_ r ∧ Below w.heap.size w w' := by
  unfold patch_Diff.f at h
  split at h
  case isFalse => cases h
  rename_i hlen
  have hres := Option.some.inj h
  have HC0 := Lib.hid hr0
  have HC1 := Lib.hid hr1
  have HLEN := Lib.hid hlen
  clear h hr0 hr1
  by_cases hl : l0.length = l1.length
  · rw [if_pos hl] at hres
    have HRES := Lib.hid hres
    have HL := Lib.hid hl
    have t1 : ((l0.length : Int) != (l1.length : Int)) = false := by simp; omega
    have t2 : ((l0.length : Int) == (l1.length : Int)) = true := by simp; omega
    have t3 : (l0.length == l1.length) = true := by simp [hl]
    clear hres hl
    go_enter Try.func12, Try.ntmps12
    go_wp2
    go_loopw [16, 5, 6] (fun i v b wr => ∃ j : Nat, j ≤ l0.length ∧ i = .int .i64 (j : Int) ∧ b = .bool (stD l0 l1 j).2 ∧ Hid (Kd.S k24 24 wr w.heap.size (fun _ => True) v (stD l0 l1 j).1) ∧ Hid (Below w.heap.size w wr)) (fun i _ _ _ => l0.length - (intOf i).toNat)
    case atStart => exact ⟨0, Nat.zero_le _, rfl, rfl, Lib.hid (Kd.S_nil _ _ _ _ _), Lib.hid (Below.refl _ _)⟩
    case round =>
      obtain ⟨j, hj, rfl, rfl, HS, HB⟩ := hrel
      by_cases hlt : j < l0.length
      · have hlt0 : (j : Int) < (l0.length : Int) := by omega
        have hlt1 : (j : Int) < (l1.length : Int) := by have := HL.out; omega
        have hj0 : (0 : Int) ≤ (j : Int) := by omega
        obtain ⟨ad0, e0, h0w⟩ := Kd.at_int HC0.out (j : Int) (by omega) hlt0
        obtain ⟨ad1, e1, h1w⟩ := Kd.at_int HC1.out (j : Int) (by omega) hlt1
        subst e0 e1
        rw [Int.toNat_natCast] at h0w h1w
        have h0 := (HB.out.cell (World.block_lt_of_cell? w _ h0w)).trans h0w
        have h1 := (HB.out.cell (World.block_lt_of_cell? w _ h1w)).trans h1w
        have H1W := Lib.hid h1w
        clear h0w h1w
        have hS0 : wr.drew.cell? (ad0.add j) = some (.int .u8 (rd l0 (j : Int))) ∧ wr.drew.cell? (ad1.add j) = some (.int .u8 (rd l1 (j : Int))) := ⟨h0, h1⟩
        have H1 := Lib.hid h1
        clear h0 h1
        by_cases c : rd l0 (j : Int) = rd l1 (j : Int)
        · have hst : stD l0 l1 (j + 1) = ((stD l0 l1 j).1, false) := by simp only [stD, stepD, if_pos c]
          have HST := Lib.hid hst
          have tq : ((rd l0 (j : Int)) == (rd l1 (j : Int))) = true := by simp [c]
          clear hst c
          go_upto_region 10 with (fail)
          go_region_held3 (fun V => V.cell? (ad0.add j) = some (.int .u8 (rd l0 (j : Int))) ∧ V.cell? (ad1.add j) = some (.int .u8 (rd l1 (j : Int)))) (first | exact hS0) (fail)
          go_wp2_with fail
          go_roundw
          case rel => exact ⟨j + 1, by omega, by go_num, by rw [HST.out], Lib.hid (by rw [HST.out]; exact Kd.S_drew HS.out), Lib.hid (below_drew HB.out)⟩
          case measure => simp [intOf]; omega
        · have tq : ((rd l0 (j : Int)) == (rd l1 (j : Int))) = false := by simp [c]
          have HINV := Lib.hid (stD_inv l0 l1 j)
          cases hb : (stD l0 l1 j).2 with
          | true =>
            have hst : stD l0 l1 (j + 1) = (grow (stD l0 l1 j).1 (rd l1 (j : Int)), true) := by simp only [stD, stepD, if_neg c, hb, if_true]
            have HST := Lib.hid hst
            obtain ⟨m, hm⟩ : ∃ m, (stD l0 l1 j).1.length = m + 1 := ⟨(stD l0 l1 j).1.length - 1, by have := HINV.out.2.1 hb; omega⟩
            obtain ⟨L, hL⟩ : ∃ L, (stD l0 l1 j).1 = L := ⟨_, rfl⟩
            have HIN2 := Lib.hid HINV.out.2.2
            rw [hL] at hm HS HST HIN2
            have HLD := Lib.hid hL
            have HM := Lib.hid hm
            clear hst hb c hL
            obtain ⟨go, co, A2, c2, oki, hv, hgo, hgl, hx2, hUU, hown, hput⟩ := S_last (Kd.S_drew (Kd.S_drew HS.out)) m (by omega)
            subst hv
            rw [hm]
            have HX2 := Lib.hid hx2
            have HUU := Lib.hid hUU
            have HOWN := Lib.hid hown
            have HPUT := Lib.hid hput
            have hf2 : (rd_T24 L (m : Int)).f2.length ≤ j := by
              have hlm : m < L.length := by omega
              refine HIN2.out _ ?_
              simp only [rd_T24, Int.toNat_natCast, List.getD_eq_getElem?_getD, List.getElem?_eq_getElem hlm, Option.getD_some]
              exact List.getElem_mem _
            have HF2 := Lib.hid hf2
            have hm1 : m ≤ 100000 := by have := HINV.out.1; rw [HLD.out] at this; have := HLEN.out; omega
            clear hm hx2 hUU hown hput hf2
            go_upto_region 10 with (fail)
            go_region_held3 (fun V => V.cell? (ad0.add j) = some (.int .u8 (rd l0 (j : Int))) ∧ V.cell? (ad1.add j) = some (.int .u8 (rd l1 (j : Int)))) (first | exact hS0) (fail)
            go_upto_region 14 with (fail)
            have hS1 : wr.drew.drew.cell? ⟨go, m * 3 + 2, none⟩ = some (.slice A2 (rd_T24 L (m : Int)).f2.length c2) ∧ wr.drew.drew.cell? (ad1.add j) = some (.int .u8 (rd l1 (j : Int))) := ⟨HX2.out, H1.out⟩
            have HBV := Lib.hid (below_drew (below_drew HB.out))
            refine start_ (n := 14) (S := fun V => V.cell? ⟨go, m * 3 + 2, none⟩ = some (.slice A2 (rd_T24 L (m : Int)).f2.length c2) ∧ V.cell? (ad1.add j) = some (.int .u8 (rd l1 (j : Int)))) (ds := [13]) #[false, false, false, false, false, false, false, false, false, false, false, false, false, false] (by kernel_rfl) rfl rfl hS1 (fun hHeld => ?_)
            generalize wr.drew.drew = V at HX2 HUU HPUT HBV hS1 hHeld ⊢
            refine pure_ (i := 0) (N := some 48) (v := ?_) (a' := ?_) #[true, false, false, false, false, false, false, false, false, false, false, false, false, false] rfl rfl (by kernel_rfl) (fun _ _ _ h => h) (Or.inl ⟨by rfl, ?_⟩) ?_ ?_
            rotate_left
            · intro w'
              go_simp
              with_reducible rfl
            rotate_left
            · simp only [Act.put, List.setIfInBounds_toArray, List.set_cons_zero, List.set_cons_succ, i64_w, i32_w]
              rfl
            refine pure_ (i := 1) (N := some 49) (v := ?_) (a' := ?_) #[true, true, false, false, false, false, false, false, false, false, false, false, false, false] rfl rfl (by kernel_rfl) (fun _ _ _ h => h) (Or.inl ⟨by rfl, ?_⟩) ?_ ?_
            rotate_left
            · intro w'
              go_simp
              with_reducible rfl
            rotate_left
            · simp only [Act.put, List.setIfInBounds_toArray, List.set_cons_zero, List.set_cons_succ, i64_w, i32_w]
              rfl
            refine pure_ (i := 2) (N := some 50) (v := ?_) (a' := ?_) #[true, true, true, false, false, false, false, false, false, false, false, false, false, false] rfl rfl (by kernel_rfl) (fun _ _ _ h => h) (Or.inl ⟨by rfl, ?_⟩) ?_ ?_
            rotate_left
            · intro w'
              go_simp
              with_reducible rfl
            rotate_left
            · simp only [Act.put, List.setIfInBounds_toArray, List.set_cons_zero, List.set_cons_succ, i64_w, i32_w]
              rfl
            refine pure_ (i := 3) (N := some 51) (v := ?_) (a' := ?_) #[true, true, true, true, false, false, false, false, false, false, false, false, false, false] rfl rfl (by kernel_rfl) (fun _ _ _ h => h) (Or.inl ⟨by rfl, ?_⟩) ?_ ?_
            rotate_left
            · intro w'
              go_simp
              with_reducible rfl
            rotate_left
            · simp only [Act.put, List.setIfInBounds_toArray, List.set_cons_zero, List.set_cons_succ, i64_w, i32_w]
              rfl
            refine take_ (i := 4) (N := some 52) (v := ?_) (a' := ?_) #[true, true, true, true, true, false, false, false, false, false, false, false, false, false] rfl rfl (by kernel_rfl) (fun _ _ _ h => h) (Or.inl ⟨by rfl, ?_⟩) hHeld ?_ ?_
            rotate_left
            · rintro w' ⟨s0, s1⟩
              go_simp
              with_reducible rfl
            rotate_left
            · simp only [Act.put, List.setIfInBounds_toArray, List.set_cons_zero, List.set_cons_succ, i64_w, i32_w]
              rfl
            refine pure_ (i := 5) (N := some 53) (v := ?_) (a' := ?_) #[true, true, true, true, true, true, false, false, false, false, false, false, false, false] rfl rfl (by kernel_rfl) (fun _ _ _ h => h) (Or.inl ⟨by rfl, ?_⟩) ?_ ?_
            rotate_left
            · intro w'
              go_simp
              with_reducible rfl
            rotate_left
            · simp only [Act.put, List.setIfInBounds_toArray, List.set_cons_zero, List.set_cons_succ, i64_w, i32_w]
              rfl
            refine pure_ (i := 6) (N := some 54) (v := ?_) (a' := ?_) #[true, true, true, true, true, true, true, false, false, false, false, false, false, false] rfl rfl (by kernel_rfl) (fun _ _ _ h => h) (Or.inl ⟨by rfl, ?_⟩) ?_ ?_
            rotate_left
            · intro w'
              go_simp
              with_reducible rfl
            rotate_left
            · simp only [Act.put, List.setIfInBounds_toArray, List.set_cons_zero, List.set_cons_succ, i64_w, i32_w]
              rfl
            refine pure_ (i := 7) (N := some 55) (v := ?_) (a' := ?_) #[true, true, true, true, true, true, true, true, false, false, false, false, false, false] rfl rfl (by kernel_rfl) (fun _ _ _ h => h) (Or.inl ⟨by rfl, ?_⟩) ?_ ?_
            rotate_left
            · intro w'
              go_simp
              with_reducible rfl
            rotate_left
            · simp only [Act.put, List.setIfInBounds_toArray, List.set_cons_zero, List.set_cons_succ, i64_w, i32_w]
              rfl
            refine take_ (i := 8) (N := some 56) (v := ?_) (a' := ?_) #[true, true, true, true, true, true, true, true, true, false, false, false, false, false] rfl rfl (by kernel_rfl) (fun _ _ _ h => h) (Or.inl ⟨by rfl, ?_⟩) hHeld ?_ ?_
            rotate_left
            · rintro w' ⟨s0, s1⟩
              go_simp
              with_reducible rfl
            rotate_left
            · simp only [Act.put, List.setIfInBounds_toArray, List.set_cons_zero, List.set_cons_succ, i64_w, i32_w]
              rfl
            refine one_ (i := 9) (N := some 57) #[true, true, true, true, true, true, true, true, true, true, false, false, false, false] rfl rfl (by kernel_rfl) (by decide) (fun K hK => ?_)
            refine value_ (w1 := ?_) (v := ?_) (by rfl) rfl ?_ ?_
            rotate_left 2
            · go_simp
              constructor
              · rfl
              · rfl
            refine hK.out _ _ ⟨(World.cell?_alloc_lt _ _ _ (World.block_lt_of_cell? _ _ hS1.1)).trans hS1.1, (World.cell?_alloc_lt _ _ _ (World.block_lt_of_cell? _ _ hS1.2)).trans hS1.2⟩ (fun hHeld => ?_)
            clear hK K
            refine norm_ (a' := ?_) ?_ ?_
            rotate_left
            · show Act.put _ (some 57) _ = _
              simp only [Act.put, List.setIfInBounds_toArray, List.set_cons_zero, List.set_cons_succ, i64_w, i32_w]
              rfl
            refine one_ (i := 10) (N := some 58) #[true, true, true, true, true, true, true, true, true, true, true, false, false, false] rfl rfl (by kernel_rfl) (by decide) (fun K hK => ?_)
            refine Kd.R_append_step (Kd.int .u8) (w0 := w) w.heap.size (by rfl) (.tmp 52) (.tmp 57) 22 5 (.int .u8 0) 1 (by rfl) Try.underlying22 info5d rfl (by decide) (by omega) (.slice A2 (rd_T24 L (m : Int)).f2.length c2) ((rd_T24 L (m : Int)).f2) (rd l1 (j : Int)) [.int .u8 (rd l1 (j : Int))] (fun k_ => oki k_ ∨ True ∧ V.heap.size ≤ k_) (fun _ => False) (by rfl) (by rfl) (by rfl) (fun _ hk => hk.elim) (fun k_ hk => .inr ⟨trivial, hk⟩) (Kd.R_mono HUU.out (fun _ hk => .inl hk)) HBV.out HBV.out.size (by have := HF2.out; have := HLEN.out; omega) ?_
            intro v9 w9 ho9 hb9 hg9 hat9
            obtain ⟨A9, c9, hv9⟩ := Kd.R_slice ho9
            subst hv9
            obtain ⟨hfz9, ⟨u9, hcl9⟩, hS9⟩ := HPUT.out w9 _ _ ho9 hg9
            have hS3 := And.intro (cell_grown (a := ⟨go, m * 3 + 2, none⟩) hg9 hS1.1 HOWN.out) ((hb9.cell (World.block_lt_of_cell? w _ H1W.out)).trans H1W.out)
            have HS9 := Lib.hid hS9
            have HB9 := Lib.hid (hb9.setCell (p := ⟨go, m * 3 + 2, none⟩) hgo (.slice A9 ((rd_T24 L (m : Int)).f2 ++ [rd l1 (j : Int)]).length c9))
            clear hS9 hb9 hg9 hat9 ho9
            refine hK.out _ _ hS3 (fun hHeld => ?_)
            clear hK K
            refine norm_ (a' := ?_) ?_ ?_
            rotate_left
            · show Act.put _ (some 58) _ = _
              simp only [Act.put, List.setIfInBounds_toArray, List.set_cons_zero, List.set_cons_succ, i64_w, i32_w]
              rfl
            refine pure_ (i := 11) (N := some 59) (v := ?_) (a' := ?_) #[true, true, true, true, true, true, true, true, true, true, true, true, false, false] rfl rfl (by kernel_rfl) (fun _ _ _ h => h) (Or.inl ⟨by rfl, ?_⟩) ?_ ?_
            rotate_left
            · intro w'
              go_simp
              with_reducible rfl
            rotate_left
            · simp only [Act.put, List.setIfInBounds_toArray, List.set_cons_zero, List.set_cons_succ, i64_w, i32_w]
              rfl
            refine pure_ (i := 12) (N := some 60) (v := ?_) (a' := ?_) #[true, true, true, true, true, true, true, true, true, true, true, true, true, false] rfl rfl (by kernel_rfl) (fun _ _ _ h => h) (Or.inl ⟨by rfl, ?_⟩) ?_ ?_
            rotate_left
            · intro w'
              go_simp
              with_reducible rfl
            rotate_left
            · simp only [Act.put, List.setIfInBounds_toArray, List.set_cons_zero, List.set_cons_succ, i64_w, i32_w]
              rfl
            refine last_ (i := 13) (N := none) #[true, true, true, true, true, true, true, true, true, true, true, true, true, true] rfl rfl (by kernel_rfl) (by decide) (fun K hK => ?_)
            refine skip_ (w1 := ?_) (by rfl) rfl ?_ ?_
            rotate_left
            · go_simp
              rfl
            refine hK.out _ _ ?_
            clear hK K
            refine done_ (by kernel_rfl) ?_
            go_wp2_with fail
            go_roundw
            case rel =>
              have hLm : L.length = m + 1 := HM.out
              have hf : ((rd_T24 L (m : Int)).f2 ++ [rd l1 (j : Int)]).length = (rd_T24 L (m : Int)).f2.length + 1 := by simp
              have HS10 := HS9.out
              have HB10 := HB9.out
              rw [hf] at HS10 HB10
              rw [hLm] at HS10
              exact ⟨j + 1, by omega, by go_num, by rw [HST.out], Lib.hid (by rw [HST.out]; simp only [grow, hLm, Nat.add_sub_cancel]; exact HS10), Lib.hid HB10⟩
            case measure => simp [intOf]; omega
          | false =>
            have hst : stD l0 l1 (j + 1) = ((stD l0 l1 j).1 ++ [⟨((stD l0 l1 j).1.length : Int), (j : Int), [rd l1 (j : Int)]⟩], true) := by simp [stD, stepD, c, hb]
            have HST := Lib.hid hst
            have hlx : (stD l0 l1 j).1.length ≤ j := HINV.out.1
            obtain ⟨X, hX⟩ : ∃ X, (stD l0 l1 j).1 = X := ⟨_, rfl⟩
            rw [hX] at hlx HS HST
            have HLX := Lib.hid hlx
            have HLD := Lib.hid hX
            clear hst hb c hX hlx
            obtain ⟨Ao, co, rfl⟩ := Kd.S_slice HS.out
            have HS1 := Lib.hid (Kd.S_drew HS.out)
            have hob : ∀ k, (Value.slice Ao X.length co).ownBlock = some k → k < wr.drew.heap.size := fun k hk => by
              obtain ⟨f_, h_⟩ := Kd.S_bound HS1.out
              exact (h_.1 k hk).2.2.1
            have HOB := Lib.hid hob
            clear hob
            go_upto_region 10 with (fail)
            go_region_held3 (fun V => V.cell? (ad0.add j) = some (.int .u8 (rd l0 (j : Int))) ∧ V.cell? (ad1.add j) = some (.int .u8 (rd l1 (j : Int)))) (first | exact hS0) (fail)
            go_upto_region 9 with (fail)
            have h1v : wr.drew.cell? (ad1.add j) = some (.int .u8 (rd l1 (j : Int))) := H1.out
            have HBV := Lib.hid (below_drew HB.out)
            clear HS HB
            generalize wr.drew = V at HS1 HOB HBV h1v ⊢
            go_wp2_with (first | ((with_reducible refine gate_builtin (b := .append) (xs := #[.tmp 19, .tmp 29]) rfl ?_); at_builtin; refine mk_ ?_))
            unfold Mk_
            refine Kd.S_append k24 (w0 := w) w.heap.size rfl (.tmp 19) (.tmp 29) 27 24 (.agg #[.int .i64 0, .int .i64 0, .slice none 0 0]) 40 rfl Try.underlying27 info24 rfl (by decide) (by omega) (.slice Ao X.length co) X (⟨(X.length : Int), (j : Int), [rd l1 (j : Int)]⟩ : S24) [.int .i64 (X.length : Int), .int .i64 (j : Int), .slice (some ⟨V.heap.size, 0, none⟩) 1 1] (fun _ => True) (fun k => k = V.heap.size) rfl (by rw [World.size_alloc]; rfl) ?aP ?aK (fun _ _ => trivial) ?aO ?aB ?aS ?aL ?_; (case aP => exact k24_mkM _ _ _ (⟨(X.length : Int), (j : Int), [rd l1 (j : Int)]⟩ : S24) (R_of_block (xs := [rd l1 (j : Int)]) (blk_new V (.cells #[.int .u8 (rd l1 (j : Int))] 5)) HBV.out.size rfl (by show 1 ≤ _; decide))); (case aK => exact fun k hk => ⟨trivial, fun e => (by have := HOB.out k e.symm; omega)⟩); (case aO => exact Kd.S_alloc (Kd.S_mono (Kd.S_bound HS1.out) (fun k hk => ⟨trivial, (by have := hk.2.2.1; omega)⟩)) _); (case aB => exact below_alloc HBV.out _); (case aS => exact (below_alloc HBV.out _).size); (case aL => have := HLX.out; have := HLEN.out; omega); intro v9 w9 ho9 hb9 hg9 hat9; have HS9 := Lib.hid ho9; have HB9 := Lib.hid hb9; clear ho9 hb9 hg9 hat9
            go_wp2_with fail
            go_roundw
            case rel => exact ⟨j + 1, by omega, by go_num, by rw [HST.out], Lib.hid (by rw [HST.out]; exact HS9.out), HB9⟩
            case measure => simp [intOf]; omega
      · have hlt0 : ¬ ((j : Int) < (l0.length : Int)) := by omega
        have he : j = l0.length := by omega
        subst he
        clear hj hlt
        go_wp2_with fail
        go_ret
        · exact ⟨_, rfl, by rw [← HRES.out]; exact HS.out, HB.out⟩
  · rw [if_neg hl] at hres
    have t1 : ((l0.length : Int) != (l1.length : Int)) = true := by simp; omega
    have t2 : ((l0.length : Int) == (l1.length : Int)) = false := by simp; omega
    have t3 : (l0.length == l1.length) = false := by simp [hl]
    go_enter Try.func12, Try.ntmps12
    go_wp2
    go_ret
    · exact ⟨_, rfl, by rw [← hres]; exact Kd.S_nil _ _ _ _ _, Below.refl _ _⟩
end Go.Proofs.Ytemachlhoanngaa.Given
