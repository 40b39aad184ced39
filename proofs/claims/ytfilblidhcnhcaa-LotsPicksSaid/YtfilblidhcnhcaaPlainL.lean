/- Plain facts of the lots: the reference draws the same calls; a script as a list. -/
import Derived.Test.YtfilblidhcnhcaaG3
namespace Go.Proofs.Ytfilblidhcnhcaa.Given
open Go.RowKit Go.Proofs.YtfilblidhcnhcaaW.PrintWords Go.Proofs.YtfilblidhcnhcaaW.PrintLast Go.Proofs.Ytfilblidhcnhcaa.PLotsFns
set_option linter.unusedVariables false
set_option linter.unusedSimpArgs false

theorem ref_next (s n : Int) : lockgateref28_Lot_Next.f s n = some (drw s n, stp s) := by
  unfold lockgateref28_Lot_Next.f drw stp
  by_cases h : n < 1
  · rw [if_pos h, if_pos h]
  · rw [if_neg h, if_neg (by omega), if_neg h]
theorem own_next (s n : Int) : lots_Lot_Next.f s n = some (drw s n, stp s) := by
  unfold lots_Lot_Next.f drw stp
  by_cases h : n < 1
  · rw [if_pos h, if_pos h]
  · rw [if_neg h, if_neg (by omega), if_neg h]
theorem wrap_id (x : Int) (h : -9223372036854775808 ≤ x ∧ x ≤ 9223372036854775807) : wrap64 x = x := by unfold wrap64; omega

theorem ref_path_l (s : Int) (K : Nat) (hK : K ≤ 100) : ∀ (d j k : Nat), j + d = K → d < k → lockgateref28_Lot_path.l0 k (pathOf (drawL s 4 j)) K j (stpN s j) = some (pathOf (drawL s 4 K), stpN s K) := by
  intro d
  induction d with
  | zero =>
    intro j k hj hk
    obtain ⟨k, rfl⟩ : ∃ m, k = m + 1 := ⟨k - 1, by omega⟩
    obtain rfl : j = K := by omega
    simp only [lockgateref28_Lot_path.l0]
    rw [if_neg (by omega)]
  | succ d ih =>
    intro j k hj hk
    obtain ⟨k, rfl⟩ : ∃ m, k = m + 1 := ⟨k - 1, by omega⟩
    have hr := drw_range (stpN s j) 4 (by omega)
    have hsz := pathOf_size (drawL s 4 j)
    rw [drawL_length] at hsz
    simp only [lockgateref28_Lot_path.l0]
    rw [if_pos (by omega), ref_next, Option.bind_some, if_pos (by omega), if_pos (by omega), wrap_id _ (by omega), if_pos (by omega), if_pos (by omega), wrap_id _ (by omega)]
    dsimp only
    rw [ByteArray.append_assoc, part_eq _ hr.1 hr.2]
    rw [if_pos (by
      rw [ByteArray.size_append]
      have : ((⟨#[97, 98, 99, 100]⟩ : ByteArray).extract (drw (stpN s j) 4).toNat (drw (stpN s j) 4 + 1).toNat).size ≤ 4 := by
        rw [ByteArray.size_extract]
        show min _ 4 - _ ≤ 4
        omega
      have h1 : (⟨#[47]⟩ : ByteArray).size = 1 := rfl
      omega)]
    have := ih (j + 1) k (by omega) (by omega)
    simp only [drawL, stpN, pathOf_snoc] at this
    rw [show ((j : Int) + 1) = ((j + 1 : Nat) : Int) by omega]
    exact this
theorem ref_path (s : Int) (k : Nat) (hk : 3 ≤ k) : lockgateref28_Lot_path.f k s = some (pathR s) := by
  have hr := drw_range s 2 (by omega)
  unfold lockgateref28_Lot_path.f pathR pathLen
  rw [ref_next, Option.bind_some]
  simp only
  rw [wrap_id _ (by omega)]
  have := ref_path_l (stp s) (drw s 2 + 1).toNat (by omega) (drw s 2 + 1).toNat 0 k (by omega) (by omega)
  rw [show (((drw s 2 + 1).toNat : Nat) : Int) = drw s 2 + 1 by omega] at this
  exact this

theorem ref_data_l (a : Int) (b c : ByteArray) (x y : Int) (s : Int) (K : Nat) (hK : K ≤ 2000) : ∀ (d j k : Nat), j + d = K → d < k → lockgateref28_Lot_Call.l0 k K j (stpN s j) a b c x y (drawL s 256 j) = some (a, b, c, x, y, drawL s 256 K, stpN s K) := by
  intro d
  induction d with
  | zero =>
    intro j k hj hk
    obtain ⟨k, rfl⟩ : ∃ m, k = m + 1 := ⟨k - 1, by omega⟩
    obtain rfl : j = K := by omega
    simp only [lockgateref28_Lot_Call.l0]
    rw [if_neg (by omega)]
  | succ d ih =>
    intro j k hj hk
    obtain ⟨k, rfl⟩ : ∃ m, k = m + 1 := ⟨k - 1, by omega⟩
    have hr := drw_range (stpN s j) 256 (by omega)
    simp only [lockgateref28_Lot_Call.l0]
    rw [if_pos (by omega), ref_next, Option.bind_some, if_pos (by rw [drawL_length]; omega), wrap_id _ (by omega)]
    have := ih (j + 1) k (by omega) (by omega)
    simp only [drawL, stpN] at this
    rw [show ((j : Int) + 1) = ((j + 1 : Nat) : Int) by omega, Int.emod_eq_of_lt hr.1 hr.2]
    exact this

theorem ref_call (s : Int) (k : Nat) (hk : 1600 ≤ k) : lockgateref28_Lot_Call.f k s = lots_Lot_Call.f s := by
  have hr := drw_range s 13 (by omega)
  unfold lockgateref28_Lot_Call.f lots_Lot_Call.f
  rw [ref_next, Option.bind_some]
  simp only
  rw [wrap_id _ (by omega)]
  by_cases c12 : drw s 13 = 12
  · rw [if_pos (by omega), if_pos c12, c12]
    rfl
  rw [if_neg (by omega), if_neg c12, ref_path _ _ (by omega), Option.bind_some]
  obtain ⟨k, rfl⟩ : ∃ m, k = m + 6 := ⟨k - 6, by omega⟩
  obtain ⟨⟨p, q⟩, hp⟩ : ∃ x, pathR (stp s) = x := ⟨_, rfl⟩
  rw [hp]
  simp only
  by_cases c25 : drw s 13 = 2 ∨ drw s 13 = 5
  · rw [if_pos c25]
    have e : (if drw s 13 + 1 = 3 then lockgateref28_Lot_Call.j0 (k + 6) true q (drw s 13 + 1) p ⟨#[]⟩ 0 0 else lockgateref28_Lot_Call.j0 (k + 6) (drw s 13 + 1 == 6) q (drw s 13 + 1) p ⟨#[]⟩ 0 0) = lockgateref28_Lot_Call.j0 (k + 6) true q (drw s 13 + 1) p ⟨#[]⟩ 0 0 := by
      rcases c25 with c | c <;> rw [c] <;> rfl
    rw [e]
    simp only [lockgateref28_Lot_Call.j0, if_true]
    rw [ref_path _ _ (by omega), Option.bind_some]
    simp only [lockgateref28_Lot_Call.j1, lockgateref28_Lot_Call.j2, lockgateref28_Lot_Call.j3, lockgateref28_Lot_Call.j4, lockgateref28_Lot_Call.j5]
    rcases c25 with c | c <;> rw [c] <;> rfl
  rw [if_neg c25, if_neg (by omega), beq_eq_false_iff_ne.2 (by omega)]
  simp only [lockgateref28_Lot_Call.j0, Bool.false_eq_true, if_false, lockgateref28_Lot_Call.j1]
  by_cases c6 : drw s 13 = 6
  · rw [if_pos c6, c6]
    simp only [Int.reduceAdd, if_true, lockgateref28_Lot_Call.j2, lockgateref28_Lot_Call.j3, lockgateref28_Lot_Call.j4, lockgateref28_Lot_Call.j5, ref_next, Option.bind_some]
    have := drw_range q 4 (by omega)
    rw [wrap_id _ (by omega)]
    rfl
  rw [if_neg c6, if_neg (by omega)]
  by_cases c7 : drw s 13 = 7
  · rw [if_pos c7, c7]
    have h4 := drw_range q 4 (by omega)
    have h15 := drw_range (stp q) 1500 (by omega)
    obtain ⟨K, hK⟩ : ∃ K : Nat, drw (stp q) 1500 = K := ⟨(drw (stp q) 1500).toNat, by omega⟩
    have e8 : ((7 : Int) + 1 == 8) = true := rfl
    have e9 : ((7 : Int) + 1 == 9) = false := rfl
    rw [e8]
    simp only [lockgateref28_Lot_Call.j2, if_true, ref_next, Option.bind_some, lockgateref28_Lot_Call.j3]
    rw [if_neg (by omega), e9]
    simp only [lockgateref28_Lot_Call.j4, Bool.false_eq_true, if_false, lockgateref28_Lot_Call.j5]
    rw [if_pos (by omega), ref_next, Option.bind_some]
    simp only
    rw [hK, wrap_id _ (by omega)]
    have := ref_data_l (7 + 1) p ⟨#[]⟩ (drw q 4 * 700) 0 (stp (stp q)) K (by omega) K 0 k (by omega) (by omega)
    rw [Int.toNat_natCast]
    exact this
  rw [if_neg c7, beq_eq_false_iff_ne.2 (by omega)]
  simp only [lockgateref28_Lot_Call.j2, Bool.false_eq_true, if_false, lockgateref28_Lot_Call.j3]
  rw [if_neg (by omega)]
  by_cases c8 : drw s 13 = 8
  · rw [if_pos c8, c8]
    have e9 : ((8 : Int) + 1 == 9) = true := rfl
    rw [e9]
    simp only [lockgateref28_Lot_Call.j4, if_true, ref_next, Option.bind_some, lockgateref28_Lot_Call.j5]
    rw [if_neg (by omega)]
    rfl
  rw [if_neg c8, beq_eq_false_iff_ne.2 (by omega)]
  simp only [lockgateref28_Lot_Call.j4, Bool.false_eq_true, if_false, lockgateref28_Lot_Call.j5]
  rw [if_neg (by omega)]
  rfl

/-- the call that a state draws, and the state behind it -/
def callT (s : Int) : Int × ByteArray × ByteArray × Int × Int × List Int × Int := (lots_Lot_Call.f s).getD (0, emp, emp, 0, 0, [], 0)
theorem call_some (s : Int) : lots_Lot_Call.f s = some (callT s) := by
  have : (lots_Lot_Call.f s).isSome = true := by
    unfold lots_Lot_Call.f
    repeat' split
    all_goals rfl
  unfold callT
  cases h : lots_Lot_Call.f s with
  | none => rw [h] at this; cases this
  | some t => rfl
def callS (s : Int) : S35 := ⟨(callT s).1, (callT s).2.1, (callT s).2.2.1, (callT s).2.2.2.1, (callT s).2.2.2.2.1, (callT s).2.2.2.2.2.1⟩
def callN (s : Int) : Int := (callT s).2.2.2.2.2.2
theorem call_kind (s : Int) : 1 ≤ (callS s).f0 ∧ (callS s).f0 ≤ 13 := by
  have hr := drw_range s 13 (by omega)
  unfold callS callT lots_Lot_Call.f
  repeat' split
  all_goals simp only [Option.getD_some]
  all_goals omega
def callSt (s : Int) : Nat → Int
  | 0 => s
  | j + 1 => callN (callSt s j)
def callL (s : Int) (n : Nat) : List S35 := (List.range n).map (fun j => callS (callSt s j))
theorem callL_length (s : Int) (n : Nat) : (callL s n).length = n := by simp [callL]
theorem callL_snoc (s : Int) (n : Nat) : callL s (n + 1) = callL s n ++ [callS (callSt s n)] := by simp [callL, List.range_succ]
theorem callL_rd (s : Int) (n j : Nat) (h : j < n) : rd_T35 (callL s n) j = callS (callSt s j) := by
  simp only [rd_T35, callL, Int.toNat_natCast, List.getD_eq_getElem?_getD, List.getElem?_map, List.getElem?_range h, Option.map_some, Option.getD_some]

theorem same_refl (x : S35) : lockgateref28_SameCall.f x.f0 x.f1 x.f2 x.f3 x.f4 x.f5 x.f0 x.f1 x.f2 x.f3 x.f4 x.f5 = some true := by
  unfold lockgateref28_SameCall.f
  simp

theorem ref_calls_l (a1 : Int) (s : Int) (K : Nat) (hK : K ≤ 1000) (hm : lockgateref28_many.f a1 = some (K : Int) ∨ (K = 0 ∧ ∃ m, m ≤ 0 ∧ lockgateref28_many.f a1 = some m)) :
    ∀ (d j k : Nat), j + d = K → d + 1600 < k → lockgateref28_Calls.l0 k a1 (callL s j) j (callSt s j) = some (callL s K) := by
  intro d
  induction d with
  | zero =>
    intro j k hj hk
    obtain ⟨k, rfl⟩ : ∃ m, k = m + 1 := ⟨k - 1, by omega⟩
    obtain rfl : j = K := by omega
    simp only [lockgateref28_Calls.l0]
    rcases hm with h | ⟨rfl, m, hm, h⟩
    · rw [h, Option.bind_some, if_neg (by omega)]
    · rw [h, Option.bind_some, if_neg (by omega)]
  | succ d ih =>
    intro j k hj hk
    obtain ⟨k, rfl⟩ : ∃ m, k = m + 1 := ⟨k - 1, by omega⟩
    have h : lockgateref28_many.f a1 = some (K : Int) := by
      rcases hm with h | ⟨rfl, _⟩
      · exact h
      · omega
    simp only [lockgateref28_Calls.l0]
    rw [h, Option.bind_some, if_pos (by omega), ref_call _ _ (by omega), call_some, Option.bind_some, if_pos (by rw [callL_length]; omega), wrap_id _ (by omega)]
    have := ih (j + 1) k (by omega) (by omega)
    rw [callL_snoc] at this
    rw [show ((j : Int) + 1) = ((j + 1 : Nat) : Int) by omega]
    exact this
/-- how many calls a script has -/
def cnt (n : Int) : Nat := (if n < 0 then 0 else if n > 1000 then 1000 else n).toNat
theorem cnt_le (n : Int) : cnt n ≤ 1000 := by unfold cnt; split <;> (try split) <;> omega
theorem cnt_id (n : Int) (h0 : 0 ≤ n) (h1 : n ≤ 1000) : (cnt n : Int) = n := by unfold cnt; rw [if_neg (by omega), if_neg (by omega)]; omega
def msk (s : Int) : Int := Go.bits .and .i64 s 4294967295
theorem ref_calls (a0 a1 : Int) (k : Nat) (hk : 3000 ≤ k) : lockgateref28_Calls.f k a0 a1 = some (callL (msk a0) (cnt a1)) := by
  unfold lockgateref28_Calls.f
  rw [show lockgateref28_NewLot.f a0 = some (msk a0) from rfl, Option.bind_some]
  have hc := cnt_le a1
  refine ref_calls_l a1 (msk a0) (cnt a1) hc ?_ (cnt a1) 0 k (by omega) (by omega)
  unfold lockgateref28_many.f cnt
  by_cases h0 : a1 < 0
  · right
    rw [if_pos h0]
    exact ⟨rfl, a1, by omega, by rw [if_neg (by omega)]⟩
  · left
    rw [if_neg h0]
    by_cases h1 : a1 > 1000
    · rw [if_pos h1, if_pos h1]
      rfl
    · rw [if_neg h1, if_neg h1, Int.toNat_of_nonneg (by omega)]
theorem alive_f : lockgatelaw31_alive.f = some true := by
  unfold lockgatelaw31_alive.f
  rw [show lots_New.f 0 = some (msk 0) from rfl, Option.bind_some, own_next, Option.bind_some]
  decide +kernel
end Go.Proofs.Ytfilblidhcnhcaa.Given
