/- PatchEnds answers true for every three numbers: what would lie outside is left out; by hand over patch.Apply's contract. -/
import Derived.Test.YtemachlhoanngaaG3
import Derived.Deep.RegionWith
import Derived.LoopTactic
import Derived.Deep.LoopGhost
namespace Go.Proofs.Ytemachlhoanngaa.Given
open Go.RowKit Go.Proofs.YtemachlhoanngaaW.PrintWords Go.Proofs.YtemachlhoanngaaW.PrintLast Go.Proofs.YtemachlhoanngaaBase
set_option linter.unusedVariables false
set_option linter.unusedSimpArgs false

theorem C_block {k : IntKind} {W : World} {B e : Nat} {xs : List Int} (h : W.heap[B]? = some (.cells (nums k xs).toArray e (0, 0))) (hl : xs.length ≤ maxLen) : Kd.C (Kd.int k) W (some ⟨B, 0, none⟩) xs.length xs :=
  (Kd.R_reads' (R_of_block (base := 0) (ok := fun _ => True) h (Nat.zero_le _) trivial hl)).2.2
theorem C_one24 {W : World} {B : Nat} {id at_ : Int} {q : List Int} {A : Option Addr} {c : Nat} (h : W.heap[B]? = some (.cells #[.int .i64 id, .int .i64 at_, .slice A q.length c] 24 (0, 0))) (hc : q.length ≤ c) (hq : (Kd.int .u8).C W A q.length q) :
    Kd.C k24 W (some ⟨B, 0, none⟩) 1 [⟨id, at_, q⟩] := by
  refine ⟨rfl, by omega, fun _ => ⟨⟨B, 0, none⟩, rfl, fun j p hj => ?_⟩⟩
  have hj0 : j = 0 := by
    have := (List.getElem?_eq_some_iff.1 hj).1
    simp at this
    exact this
  subst hj0
  obtain rfl : (⟨id, at_, q⟩ : S24) = p := by simpa using hj
  refine ⟨_, rfl, k24_mk W _ hc hq, fun i u hi => ?_⟩
  rw [add_plain]
  have := blk_cell h i
  rw [show 0 * k24.sz + i = i by omega]
  exact this.trans (by simpa using hi)
theorem made_nums (m : Nat) : madeCells #[.int .u8 0] m = (nums .u8 (List.replicate m 0)).toArray := by
  have := toList_madeCells_one (.int .u8 0) m
  apply Array.toList_inj.1
  rw [this]
  simp [nums]
/-- j nines, and noughts behind them -/
def nines (k j : Nat) : List Int := List.replicate j 9 ++ List.replicate (k - j) 0
theorem nines_length {k j : Nat} (h : j ≤ k) : (nines k j).length = k := by simp [nines]; omega
theorem nines_set {k j : Nat} (h : j < k) : (nums .u8 (nines k j)).toArray.setIfInBounds j (.int .u8 9) = (nums .u8 (nines k (j + 1))).toArray := by
  apply Array.toList_inj.1
  rw [Array.toList_setIfInBounds]
  simp only [nines, nums_append]
  have e : k - j = (k - (j + 1)) + 1 := by omega
  rw [e, List.replicate_succ, List.set_append_right _ _ (by simp [nums])]
  simp [nums, List.replicate_succ']

set_option maxRecDepth 100000 in
set_option maxHeartbeats 2000000 in
theorem ends_out (n at_ k : Int) (w : World) (h : n < 0 ∨ 200 < n ∨ k < 0 ∨ 50 < k) :
    Calls Try.prog 5 #[.int .i64 n, .int .i64 at_, .int .i64 k] w fun e w' => e = .returned (.bool true) ∧ Below w.heap.size w w' := by
  rcases h with h | h | h | h
  · go_enter Try.func5, Try.ntmps5
    go_wp2_with (go_at_call 9; refine (lockgatelaw14_alive.calls true _ rfl).mono ?_; rintro e w1 ⟨rfl, hb⟩)
    go_ret
    exact ⟨rfl, hb⟩
  · by_cases h0 : n < 0
    · omega
    · go_enter Try.func5, Try.ntmps5
      go_wp2_with (go_at_call 9; refine (lockgatelaw14_alive.calls true _ rfl).mono ?_; rintro e w1 ⟨rfl, hb⟩)
      go_ret
      exact ⟨rfl, hb⟩
  · by_cases h0 : n < 0
    · go_enter Try.func5, Try.ntmps5
      go_wp2_with (go_at_call 9; refine (lockgatelaw14_alive.calls true _ rfl).mono ?_; rintro e w1 ⟨rfl, hb⟩)
      go_ret
      exact ⟨rfl, hb⟩
    by_cases h1 : 200 < n
    all_goals
      go_enter Try.func5, Try.ntmps5
      go_wp2_with (go_at_call 9; refine (lockgatelaw14_alive.calls true _ rfl).mono ?_; rintro e w1 ⟨rfl, hb⟩)
      go_ret
      exact ⟨rfl, hb⟩
  · by_cases h0 : n < 0
    · go_enter Try.func5, Try.ntmps5
      go_wp2_with (go_at_call 9; refine (lockgatelaw14_alive.calls true _ rfl).mono ?_; rintro e w1 ⟨rfl, hb⟩)
      go_ret
      exact ⟨rfl, hb⟩
    by_cases h1 : 200 < n
    · go_enter Try.func5, Try.ntmps5
      go_wp2_with (go_at_call 9; refine (lockgatelaw14_alive.calls true _ rfl).mono ?_; rintro e w1 ⟨rfl, hb⟩)
      go_ret
      exact ⟨rfl, hb⟩
    have h2 : ¬ k < 0 := by omega
    go_enter Try.func5, Try.ntmps5
    go_wp2_with (go_at_call 9; refine (lockgatelaw14_alive.calls true _ rfl).mono ?_; rintro e w1 ⟨rfl, hb⟩)
    go_ret
    exact ⟨rfl, hb⟩

/-- what the law asks of a place -/
def inB (i : Nat) (at_ : Int) (k : Nat) : Bool := decide (at_ ≤ i ∧ i - at_ < k ∧ (0 ≤ at_ ∨ -1000 < at_))
/-- the bytes that the one change makes of noughts -/
def endsR (n : Nat) (at_ : Int) (k : Nat) : List Int := stepP (List.replicate n 0) ⟨0, at_, nines k k⟩
theorem endsR_length (n : Nat) (at_ : Int) (k : Nat) : (endsR n at_ k).length = n := by unfold endsR; rw [stepP_length]; simp
theorem endsR_at (n : Nat) (at_ : Int) (k i : Nat) (hk : k ≤ 50) (hi : i < n) : rd (endsR n at_ k) i = if inB i at_ k = true then 9 else 0 := by
  have hz : ∀ j : Nat, (List.replicate n (0 : Int))[j]?.getD 0 = 0 := fun j => by rw [List.getElem?_replicate]; split <;> rfl
  have h9 : ∀ j : Nat, j < k → (nines k k)[j]?.getD 0 = 9 := fun j hj => by
    simp only [nines, Nat.sub_self, List.replicate_zero, List.append_nil]
    rw [List.getElem?_replicate, if_pos hj]
    rfl
  have hkl : (nines k k).length = k := nines_length (Nat.le_refl _)
  unfold endsR stepP inB
  simp only [rd, Int.toNat_natCast, List.getD_eq_getElem?_getD, List.length_replicate, hkl]
  by_cases c1 : at_ ≥ n ∨ (at_ < 0 ∧ at_ + k ≤ 0)
  · rw [if_pos c1, hz, decide_eq_false (by omega)]
    rfl
  rw [if_neg c1]
  by_cases c2 : at_ < 0
  · rw [if_pos c2]
    simp only [Go.splice, List.take_zero, List.nil_append, Nat.zero_add]
    by_cases c3 : i < ((List.drop (-at_).toNat (nines k k)).take n).length
    · have c4 := c3
      rw [List.length_take, List.length_drop, hkl] at c4
      rw [List.getElem?_append_left c3, List.getElem?_take, if_pos (by omega), List.getElem?_drop, h9 _ (by omega), decide_eq_true (by omega)]
      rfl
    · have c4 := c3
      rw [List.length_take, List.length_drop, hkl] at c4
      rw [List.getElem?_append_right (by omega), List.getElem?_drop, hz, decide_eq_false (by omega)]
      rfl
  · rw [if_neg c2]
    simp only [Go.splice]
    by_cases c3 : i < at_.toNat
    · rw [List.getElem?_append_left (by rw [List.length_take, List.length_replicate]; omega), List.getElem?_take, if_pos c3, hz, decide_eq_false (by omega)]
      rfl
    · have hlt : (List.take at_.toNat (List.replicate n (0 : Int))).length = at_.toNat := by rw [List.length_take, List.length_replicate]; omega
      rw [List.getElem?_append_right (by rw [hlt]; omega), hlt]
      by_cases c4 : i - at_.toNat < ((nines k k).take (n - at_.toNat)).length
      · have c5 := c4
        rw [List.length_take, hkl] at c5
        rw [List.getElem?_append_left c4, List.getElem?_take, if_pos (by omega), h9 _ (by omega), decide_eq_true (by omega)]
        rfl
      · have c5 := c4
        rw [List.length_take, hkl] at c5
        rw [List.getElem?_append_right (by omega), List.getElem?_drop, hz, decide_eq_false (by omega)]
        rfl
theorem ends_apply (n : Nat) (at_ : Int) (k : Nat) (hn : n ≤ 200) (hk : k ≤ 50) (ha : -9223372036854775808 ≤ at_ ∧ at_ ≤ 9223372036854775807) : patch_Apply.f (List.replicate n 0) [⟨0, at_, nines k k⟩] [] = some (endsR n at_ k) := by
  unfold patch_Apply.f
  rw [if_pos ⟨by simp; omega, by simp, by simp, by
    simp only [List.all_cons, List.all_nil, Bool.and_true, okP]
    exact decide_eq_true ⟨ha.1, ha.2, by rw [nines_length (Nat.le_refl _)]; omega⟩⟩]
  rfl

theorem blk_new2 (w : World) (A B : Obj) : ((w.alloc A).alloc B).heap[w.heap.size + 1]? = some B := by
  have := blk_new (w.alloc A) B
  rwa [World.size_alloc] at this
theorem apply_ends (n k : Nat) (at_ : Int) (W : World) (Bn Bp Bk : Nat) (hn : n ≤ 200) (hk : k ≤ 50) (ha : -9223372036854775808 ≤ at_ ∧ at_ ≤ 9223372036854775807)
    (h1 : W.heap[Bn]? = some (.cells (nums .u8 (List.replicate n 0)).toArray 5 (0, 0))) (h2 : W.heap[Bp]? = some (.cells #[.int .i64 0, .int .i64 at_, .slice (some ⟨Bk, 0, none⟩) k k] 24 (0, 0)))
    (h3 : W.heap[Bk]? = some (.cells (nums .u8 (nines k k)).toArray 5 (0, 0))) :
    Calls Try.prog 15 #[.slice (some ⟨Bn, 0, none⟩) n n, .slice (some ⟨Bp, 0, none⟩) 1 1, .slice none 0 0] W fun e w' => ∃ v0_ : Value, e = .returned (v0_) ∧ Kd.R (Kd.int .u8) 5 w' W.heap.size (fun _ => True) v0_ (endsR n at_ k) ∧ Below W.heap.size W w' := by
  have hl : (nines k k).length = k := nines_length (Nat.le_refl _)
  have hc3 := C_block h3 (by rw [hl]; unfold maxLen; omega)
  have hc1 := C_block h1 (by rw [List.length_replicate]; unfold maxLen; omega)
  have h2' : W.heap[Bp]? = some (.cells #[.int .i64 0, .int .i64 at_, .slice (some ⟨Bk, 0, none⟩) (nines k k).length k] 24 (0, 0)) := by rw [hl]; exact h2
  have := patch_Apply.calls (some ⟨Bn, 0, none⟩) n (List.replicate n 0) (some ⟨Bp, 0, none⟩) 1 [⟨0, at_, nines k k⟩] none 0 [] (endsR n at_ k) W hc1 (by simp) (C_one24 h2' (by rw [hl]; exact Nat.le_refl _) hc3) (by simp) (Kd.C_nil _ _) (by simp) (ends_apply n at_ k hn hk ha)
  rw [List.length_replicate] at this
  exact this

set_option maxRecDepth 100000 in
set_option maxHeartbeats 4000000 in
theorem ends_in (n k : Nat) (at_ : Int) (w : World) (hn : n ≤ 200) (hk : k ≤ 50) (ha : -9223372036854775808 ≤ at_ ∧ at_ ≤ 9223372036854775807) :
    Calls Try.prog 5 #[.int .i64 n, .int .i64 at_, .int .i64 k] w fun e w' => e = .returned (.bool true) ∧ Below w.heap.size w w' := by
  have t1 : decide ((n : Int) < 0) = false := decide_eq_false (by omega)
  have t2 : decide (200 < (n : Int)) = false := decide_eq_false (by omega)
  have t3 : decide ((k : Int) < 0) = false := decide_eq_false (by omega)
  have t4 : decide (50 < (k : Int)) = false := decide_eq_false (by omega)
  have hmk := print_make (P := Try.prog) 22 5 .u8 1 Try.underlying22 info5 (by decide) k (by omega)
  have hmn := print_make (P := Try.prog) 22 5 .u8 1 Try.underlying22 info5 (by decide) n (by omega)
  rw [made_nums] at hmk hmn
  go_enter Try.func5, Try.ntmps5
  go_wp2_with (go_at_call 9; refine (lockgatelaw14_alive.calls true _ rfl).mono ?_; rintro e w1 ⟨rfl, hb⟩; have HB1 := Lib.hid hb; clear hb)
  have h0 : w.heap.size ≤ w1.heap.size := HB1.out.size
  go_loopw [9] (fun i wr => ∃ j : Nat, j ≤ k ∧ i = .int .i64 (j : Int) ∧ Hid (wr.heap[w1.heap.size]? = some (.cells (nums .u8 (nines k j)).toArray 5 (0, 0))) ∧ Hid (wr.heap[w1.heap.size + 1]? = some (.cells #[.int .i64 0, .int .i64 at_, .slice (some ⟨w1.heap.size, 0, none⟩) k k] 24 (0, 0))) ∧ Below w.heap.size w wr) (fun i _ => k - (intOf i).toNat)
  case atStart =>
    refine ⟨0, Nat.zero_le _, rfl, Lib.hid ?_, Lib.hid ?_, (HB1.out.alloc h0 _).alloc (by simp; omega) _⟩
    · have := blk_new w1 (.cells (nums .u8 (List.replicate k 0)).toArray 5)
      exact blk_alloc this _
    · have := blk_new (w1.alloc (.cells (nums .u8 (List.replicate k 0)).toArray 5)) (.cells #[.int .i64 0, .int .i64 at_, .slice (some ⟨w1.heap.size, 0, none⟩) k k] 24)
      rwa [World.size_alloc] at this
  case round =>
    obtain ⟨j, hj, rfl, HK, HP, hbw⟩ := hrel
    by_cases hlt : j < k
    · have c2 := (blk_cell HP.out 2).trans rfl
      have cj : wr.cell? ⟨w1.heap.size, j, none⟩ = some (.int .u8 0) := by
        rw [blk_cell HK.out j]
        simp only [nums, nines, List.getElem?_toArray, List.map_append, List.map_replicate]
        rw [List.getElem?_append_right (by simp), List.length_replicate, Nat.sub_self, List.getElem?_replicate, if_pos (by omega)]
      have fj := blk_frozen HK.out j
      have hlt' : (j : Int) < (k : Int) := by omega
      go_wp2
      go_roundw
      case rel => exact ⟨j + 1, by omega, by go_num, Lib.hid (by rw [blk_set HK.out j (.int .u8 9), nines_set hlt]), Lib.hid (blk_far HP.out (by simp) _), hbw.setCell (p := ⟨w1.heap.size, j, none⟩) h0 _⟩
      case measure => simp [intOf]; omega
    · obtain rfl : j = k := by omega
      have p0 := (blk_cell HP.out 0).trans rfl
      have p1 := (blk_cell HP.out 1).trans rfl
      have p2 := (blk_cell HP.out 2).trans rfl
      have lp := blk_lt HP.out
      go_wp2
      go_region_with ((go_at_call 15; go_loud (refine (apply_ends n j at_ _ _ _ _ hn hk ha (by first | exact blk_drew (blk_alloc (blk_new _ _) _) | exact blk_drew (blk_new2 _ _ _)) (by first | exact blk_drew (blk_alloc (blk_new _ _) _) | exact blk_drew (blk_new2 _ _ _)) (by exact blk_drew (blk_alloc (blk_alloc HK.out _) _))).mono ?_); rintro e w2 ⟨v, rfl, hR, hb2⟩; have HR := Lib.hid hR; have HB2 := Lib.hid hb2; clear hR hb2; obtain ⟨Ab, cb, rfl⟩ := Kd.R_slice HR.out; rw [endsR_length] at HR ⊢))
      all_goals
        go_wp2
        go_loop [11] (fun i => ∃ m : Nat, m ≤ n ∧ i = .int .i64 (m : Int)) (fun i => n - (intOf i).toNat)
        case atStart => exact ⟨0, Nat.zero_le _, rfl⟩
        case round =>
          obtain ⟨m, hm, rfl⟩ := hrel
          by_cases hmn : m < n
          · have hRr := HR.out
            have hCr := (Kd.R_reads' hRr).2.2
            have hn0 : 0 < n := by omega
            obtain ⟨ad, rfl, hcell⟩ := C_cells hCr (by first | exact hn0 | (rw [endsR_length]; exact hn0))
            have hcm := hcell m (.int .u8 (rd (endsR n at_ j) m)) (by
              simp only [nums, List.getElem?_map, rd, Int.toNat_natCast, List.getD_eq_getElem?_getD]
              rw [List.getElem?_eq_getElem (by rw [endsR_length]; exact hmn)]
              rfl)
            have hrd := endsR_at n at_ j m hk hmn
            have hmn' : (m : Int) < (n : Int) := by omega
            have HA := Lib.hid ha
            clear hRr hCr hcell ha
            by_cases c1 : at_ ≤ (m : Int)
            · by_cases c2 : 0 ≤ at_
              · by_cases c3 : (m : Int) - at_ < (j : Int)
                · rw [if_pos (show inB m at_ j = true from decide_eq_true (by omega))] at hrd
                  rw [hrd] at hcm
                  clear hrd
                  go_wp2
                  all_goals
                    go_round
                    case rel => exact ⟨m + 1, by omega, by go_num⟩
                    case measure => simp [intOf]; omega
                · rw [if_neg (show ¬ inB m at_ j = true from fun h => by have := of_decide_eq_true h; omega)] at hrd
                  rw [hrd] at hcm
                  clear hrd
                  go_wp2
                  all_goals
                    go_round
                    case rel => exact ⟨m + 1, by omega, by go_num⟩
                    case measure => simp [intOf]; omega
              · by_cases c4 : -1000 < at_
                · by_cases c3 : (m : Int) - at_ < (j : Int)
                  · rw [if_pos (show inB m at_ j = true from decide_eq_true (by omega))] at hrd
                    rw [hrd] at hcm
                    clear hrd
                    go_wp2
                    all_goals
                      go_round
                      case rel => exact ⟨m + 1, by omega, by go_num⟩
                      case measure => simp [intOf]; omega
                  · rw [if_neg (show ¬ inB m at_ j = true from fun h => by have := of_decide_eq_true h; omega)] at hrd
                    rw [hrd] at hcm
                    clear hrd
                    go_wp2
                    all_goals
                      go_round
                      case rel => exact ⟨m + 1, by omega, by go_num⟩
                      case measure => simp [intOf]; omega
                · rw [if_neg (show ¬ inB m at_ j = true from fun h => by have := of_decide_eq_true h; omega)] at hrd
                  rw [hrd] at hcm
                  clear hrd
                  go_wp2
                  all_goals
                    go_round
                    case rel => exact ⟨m + 1, by omega, by go_num⟩
                    case measure => simp [intOf]; omega
            · rw [if_neg (show ¬ inB m at_ j = true from fun h => by have := of_decide_eq_true h; omega)] at hrd
              rw [hrd] at hcm
              clear hrd
              go_wp2
              all_goals
                go_round
                case rel => exact ⟨m + 1, by omega, by go_num⟩
                case measure => simp [intOf]; omega
          · go_wp2
            go_ret
            have hws := hbw.size
            refine ⟨rfl, (below_drew ((hbw.alloc hws _).alloc (by simp; omega) _)).trans (HB2.out.mono ?_)⟩
            show w.heap.size ≤ _
            simp
            omega

theorem patchEnds_walk (a0 a1 a2 : Int) (w : World) (w0 : (Lit.int .i64 a0).wf = true) (w1 : (Lit.int .i64 a1).wf = true) (w2 : (Lit.int .i64 a2).wf = true) :
    Calls Try.prog 5 #[.int .i64 a0, .int .i64 a1, .int .i64 a2] w fun e w' => e = .returned (.bool true) ∧ Below w.heap.size w w' := by
  by_cases h : a0 < 0 ∨ 200 < a0 ∨ a2 < 0 ∨ 50 < a2
  · exact ends_out a0 a1 a2 w h
  · have ha := bounds_i64 w1
    have := ends_in a0.toNat a2.toNat a1 w (by omega) (by omega) (by omega)
    rw [Int.toNat_of_nonneg (by omega), Int.toNat_of_nonneg (by omega)] at this
    exact this
end Go.Proofs.Ytemachlhoanngaa.Given
