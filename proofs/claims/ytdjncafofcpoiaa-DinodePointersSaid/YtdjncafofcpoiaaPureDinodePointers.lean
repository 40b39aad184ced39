/- DinodePointers: the pointers of any block, and the block of any pointers; for all bytes and numbers; no condition. -/
import Derived.Test.YtdjncafofcpoiaaPDinodePointersx1
namespace Go.Proofs.Ytdjncafofcpoiaa.Pure
open Go.RowKit Go.Proofs.Ytdjncafofcpoiaa.PDinodePointers Go.Proofs.Ytdjncafofcpoiaa.PDFns Go.Proofs.Ytdjncafofcpoiaa.Given Go.Proofs.YtdjncafofcpoiaaW.PrintWords Go.Proofs.YtdjncafofcpoiaaW.PrintLast
set_option linter.unusedVariables false
set_option linter.unusedSimpArgs false

def pts (l : List Int) (m : Nat) : List Int := (List.range m).map (fun k => at4 l (4 * k))
theorem pts_succ (l : List Int) (m : Nat) : pts l (m + 1) = pts l m ++ [at4 l (4 * m)] := by unfold pts; rw [List.range_succ, List.map_append]; rfl
theorem pts_len (l : List Int) (m : Nat) : (pts l m).length = m := by simp [pts]
theorem pointers_loop (l : List Int) (hb : Bytes l) (hl : l.length = 1024) : ∀ (d j k : Nat), j + d = 256 → d + 5 < k → dinode_Pointers.l0 k l (pts l j) (j : Int) = some (pts l 256)
  | 0, j, k, h, hk => by
    obtain ⟨k, rfl⟩ : ∃ m, k = m + 1 := ⟨k - 1, by omega⟩
    obtain rfl : j = 256 := by omega
    simp only [dinode_Pointers.l0]
    rw [if_neg (by omega)]
  | d + 1, j, k, h, hk => by
    obtain ⟨k, rfl⟩ : ∃ m, k = m + 1 := ⟨k - 1, by omega⟩
    have hk5 : k - 5 + 5 = k := by omega
    have w1 : wrap64 (4 * (j : Int)) = ((4 * j : Nat) : Int) := by rw [w64 _ (by omega)]; omega
    have w2 : wrap64 (((4 * j : Nat) : Int) + 4) = ((4 * j + 4 : Nat) : Int) := by rw [w64 _ (by omega)]; omega
    have w3 : wrap64 ((j : Int) + 1) = ((j + 1 : Nat) : Int) := by rw [w64 _ (by omega)]; omega
    have hg := get4 (k - 5) l hb (4 * j) (by omega)
    rw [hk5] at hg
    have ih := pointers_loop l hb hl d (j + 1) k (by omega) (by omega)
    simp only [dinode_Pointers.l0]
    rw [w1, w2, w3, if_pos (by omega), if_pos (by omega), if_pos (by omega), if_pos (by omega), Int.toNat_natCast, Int.toNat_natCast, hg, Option.bind_some, if_pos (by rw [pts_len]; omega), ← pts_succ, ih]
theorem rpointers_loop (l : List Int) (hb : Bytes l) (hl : l.length = 1024) : ∀ (d j k : Nat), j + d = 256 → d + 5 < k → lockgateref1_Pointers.l0 k l (pts l j) (j : Int) = some (pts l 256)
  | 0, j, k, h, hk => by
    obtain ⟨k, rfl⟩ : ∃ m, k = m + 1 := ⟨k - 1, by omega⟩
    obtain rfl : j = 256 := by omega
    simp only [lockgateref1_Pointers.l0]
    rw [if_neg (by omega)]
  | d + 1, j, k, h, hk => by
    obtain ⟨k, rfl⟩ : ∃ m, k = m + 1 := ⟨k - 1, by omega⟩
    have hk5 : k - 5 + 5 = k := by omega
    have w1 : wrap64 (4 * (j : Int)) = ((4 * j : Nat) : Int) := by rw [w64 _ (by omega)]; omega
    have w3 : wrap64 ((j : Int) + 1) = ((j + 1 : Nat) : Int) := by rw [w64 _ (by omega)]; omega
    have hg := rnum4 (k - 5) l hb (4 * j) (by omega) (by omega)
    rw [hk5] at hg
    have ih := rpointers_loop l hb hl d (j + 1) k (by omega) (by omega)
    simp only [lockgateref1_Pointers.l0]
    rw [w1, w3, if_pos (by omega), hg, Option.bind_some, if_pos (by rw [pts_len]; omega), ← pts_succ, ih]
def ptsOf (l : List Int) : List Int := if l.length = 1024 then pts l 256 else []
theorem pointers_is (l : List Int) (hb : Bytes l) (k : Nat) (hk : 300 ≤ k) : dinode_Pointers.f k l = some (ptsOf l) ∧ lockgateref1_Pointers.f k l = some (ptsOf l) := by
  unfold dinode_Pointers.f lockgateref1_Pointers.f ptsOf
  by_cases h : l.length = 1024
  · have h' : (l.length : Int) = 1024 := by omega
    simp only [h, h', if_true]
    exact ⟨pointers_loop l hb h 256 0 k rfl (by omega), rpointers_loop l hb h 256 0 k rfl (by omega)⟩
  · have h' : ¬ (l.length : Int) = 1024 := by omega
    simp only [h, h', if_false]
    exact ⟨trivial, trivial⟩

def nbytes (l : List Int) (j : Nat) : List Int := (l.take j).flatMap num4
theorem nbytes_succ (l : List Int) (j : Nat) (h : j < l.length) : nbytes l (j + 1) = nbytes l j ++ num4 l[j] := by
  unfold nbytes
  rw [List.take_succ_eq_append_getElem h, List.flatMap_append]
  simp
theorem flat_len (q : List Int) : (q.flatMap num4).length = 4 * q.length := by
  induction q with
  | nil => rfl
  | cons y q ih => rw [List.flatMap_cons, List.length_append, ih, List.length_cons]; show 4 + _ = _; omega
theorem nbytes_len (l : List Int) (j : Nat) (h : j ≤ l.length) : (nbytes l j).length = 4 * j := by
  unfold nbytes
  rw [flat_len, List.length_take]
  omega
def packed (l : List Int) : List Int := l.flatMap num4 ++ List.replicate (1024 - 4 * l.length) 0
theorem nbytes_all (l : List Int) : nbytes l l.length = l.flatMap num4 := by unfold nbytes; rw [List.take_length]
theorem pack_loop (l : List Int) (hl : l.length ≤ 256) : ∀ (d j k : Nat), j + d = l.length → d + 5 < k → dinode_PackPointers.l0 k (nbytes l j) l (l.length : Int) (j : Int) = some (packed l, 0)
  | 0, j, k, h, hk => by
    obtain ⟨k, rfl⟩ : ∃ m, k = m + 1 := ⟨k - 1, by omega⟩
    obtain rfl : j = l.length := by omega
    have hlen : (nbytes l l.length).length = 4 * l.length := nbytes_len l _ (Nat.le_refl _)
    have w1 : wrap64 (1024 - ((4 * l.length : Nat) : Int)) = ((1024 - 4 * l.length : Nat) : Int) := by rw [w64 _ (by omega)]; omega
    simp only [dinode_PackPointers.l0]
    rw [if_neg (by omega), hlen, w1, if_pos (by omega), Int.toNat_natCast, if_pos (by omega), nbytes_all]
    rfl
  | d + 1, j, k, h, hk => by
    obtain ⟨k, rfl⟩ : ∃ m, k = m + 1 := ⟨k - 1, by omega⟩
    have hk5 : k - 5 + 5 = k := by omega
    have hj : j < l.length := by omega
    have hlen : (nbytes l j).length = 4 * j := nbytes_len l _ (by omega)
    have w3 : wrap64 ((j : Int) + 1) = ((j + 1 : Nat) : Int) := by rw [w64 _ (by omega)]; omega
    have hg := Put4 (k - 5) l[j]
    rw [hk5] at hg
    have ih := pack_loop l hl d (j + 1) k (by omega) (by omega)
    simp only [dinode_PackPointers.l0]
    rw [w3, if_pos (by omega), if_pos (by omega), if_pos (by omega), rd_nat l j hj, hg, Option.bind_some, if_pos (by rw [hlen]; show 4 * j + 4 < _; omega), ← nbytes_succ l j hj, ih]
theorem rpack_loop (l : List Int) (hl : l.length ≤ 256) : ∀ (d j k : Nat), j + d = l.length → d + 5 < k → lockgateref1_PackPointers.l0 k l (nbytes l j) (j : Int) = some (if (l.drop j).all fit4 = true then (packed l, true) else ([], false))
  | 0, j, k, h, hk => by
    obtain ⟨k, rfl⟩ : ∃ m, k = m + 1 := ⟨k - 1, by omega⟩
    obtain rfl : j = l.length := by omega
    have hlen : (nbytes l l.length).length = 4 * l.length := nbytes_len l _ (Nat.le_refl _)
    simp only [lockgateref1_PackPointers.l0]
    rw [if_neg (by omega), show (1024 : Int) = ((1024 : Nat) : Int) from rfl, fill_at _ 1024 (by omega) (by omega), hlen, Option.bind_some, nbytes_all, List.drop_length]
    rfl
  | d + 1, j, k, h, hk => by
    obtain ⟨k, rfl⟩ : ∃ m, k = m + 1 := ⟨k - 1, by omega⟩
    have hk5 : k - 5 + 5 = k := by omega
    have hj : j < l.length := by omega
    have hlen : (nbytes l j).length = 4 * j := nbytes_len l _ (by omega)
    have w3 : wrap64 ((j : Int) + 1) = ((j + 1 : Nat) : Int) := by rw [w64 _ (by omega)]; omega
    have hg := put4 (k - 5) (nbytes l j) l[j] (by omega)
    rw [hk5] at hg
    have ih := rpack_loop l hl d (j + 1) k (by omega) (by omega)
    simp only [lockgateref1_PackPointers.l0]
    rw [w3, if_pos (by omega), if_pos (by omega), rd_nat l j hj, rfits4, Option.bind_some, hg, List.drop_eq_getElem_cons hj, List.all_cons]
    cases hf : fit4 l[j] with
    | false => rw [if_neg (by simp), Bool.false_and, if_neg (by simp)]
    | true => rw [if_pos rfl, Option.bind_some, ← nbytes_succ l j hj, ih, Bool.true_and]
def okP (l : List Int) : Bool := decide (l.length ≤ 256) && l.all fit4
theorem pack_is (l : List Int) (k : Nat) (hk : 300 ≤ k) (hlm : l.length < 100000) : dinode_PackPointers.f k l = some (if okP l = true then (packed l, 0) else ([], 1)) ∧ lockgateref1_PackPointers.f k l = some (if okP l = true then (packed l, true) else ([], false)) := by
  obtain ⟨k, rfl⟩ : ∃ m, k = m + 1 := ⟨k - 1, by omega⟩
  unfold dinode_PackPointers.f lockgateref1_PackPointers.f okP
  by_cases h : l.length ≤ 256
  · have h' : ¬ (l.length : Int) > 256 := by omega
    refine ⟨?_, ?_⟩
    · rw [if_neg h', fits4 (k + 1) l (by omega) (by omega), Option.bind_some, decide_eq_true h, Bool.true_and]
      cases hf : l.all fit4 with
      | false => simp [dinode_PackPointers.j0]
      | true =>
        have := pack_loop l h l.length 0 k (by omega) (by omega)
        simp only [dinode_PackPointers.j0, Bool.not_true, Bool.false_eq_true, if_false, if_true]
        exact this
    · have := rpack_loop l h l.length 0 (k + 1) (by omega) (by omega)
      rw [List.drop_zero] at this
      rw [if_neg h', decide_eq_true h, Bool.true_and]
      exact this
  · have h' : (l.length : Int) > 256 := by omega
    rw [if_pos h', if_pos h', decide_eq_false h, Bool.false_and]
    simp [dinode_PackPointers.j0]

theorem num4_at4 (l : List Int) (hb : Bytes l) (j : Nat) (h : j + 4 ≤ l.length) : num4 (at4 l j) = (l.take (j + 4)).drop j := by
  have h0 := rd_rng hb j
  have h1 := rd_rng hb (j + 1)
  have h2 := rd_rng hb (j + 2)
  have h3 := rd_rng hb (j + 3)
  rw [cut4 l j h]
  unfold num4 at4 val4
  generalize rd l (j : Int) = a at *
  generalize rd l ((j + 1 : Nat) : Int) = b at *
  generalize rd l ((j + 2 : Nat) : Int) = c at *
  generalize rd l ((j + 3 : Nat) : Int) = d at *
  simp only [List.cons.injEq, and_true]
  omega
theorem pts_back (l : List Int) (hb : Bytes l) : ∀ m : Nat, 4 * m ≤ l.length → (pts l m).flatMap num4 = l.take (4 * m)
  | 0, _ => by simp [pts]
  | m + 1, h => by
    rw [pts_succ, List.flatMap_append, pts_back l hb m (by omega)]
    simp only [List.flatMap_cons, List.flatMap_nil, List.append_nil]
    rw [num4_at4 l hb (4 * m) (by omega), show 4 * (m + 1) = 4 * m + 4 by omega]
    have e : List.take (4 * m) l = (l.take (4 * m + 4)).take (4 * m) := by rw [List.take_take]; congr 1; omega
    rw [e, List.take_append_drop]
theorem at4_fit (l : List Int) (hb : Bytes l) (j : Nat) : fit4 (at4 l j) = true := by
  have h0 := rd_rng hb j
  have h1 := rd_rng hb (j + 1)
  have h2 := rd_rng hb (j + 2)
  have h3 := rd_rng hb (j + 3)
  unfold fit4 at4 val4
  exact decide_eq_true (by omega)
theorem back (l : List Int) (hb : Bytes l) (hl : l.length = 1024) : okP (pts l 256) = true ∧ packed (pts l 256) = l := by
  refine ⟨?_, ?_⟩
  · unfold okP
    rw [pts_len, decide_eq_true (by omega), Bool.true_and, List.all_eq_true]
    intro x hx
    simp only [pts, List.mem_map] at hx
    obtain ⟨q, _, rfl⟩ := hx
    exact at4_fit l hb _
  · unfold packed
    rw [pts_back l hb 256 (by omega), pts_len, List.take_of_length_le (by omega)]
    simp

theorem law_loop (l0 l1 : List Int) (hb : Bytes l0) (h1 : l1.length ≤ 600) (K : Nat) (hK : 300 ≤ K) (q : List Int) (hq : q = ptsOf l0) : ∀ (d j : Nat), j + d = q.length → lockgatelaw5_DinodePointers.l0 (K + 2 + d) l0 l1 q q (j : Int) = some true
  | 0, j, h => by
    obtain rfl : j = q.length := by omega
    have hj2 : lockgatelaw5_DinodePointers.j2 (K + 1) l0 q false = some true := by
      simp only [lockgatelaw5_DinodePointers.j2, Bool.false_eq_true, if_false]
      by_cases hl : l0.length = 1024
      · obtain ⟨b1, b2⟩ := back l0 hb hl
        have e : q = pts l0 256 := by rw [hq, ptsOf, if_pos hl]
        rw [if_pos (by omega), e, (pack_is _ K hK (by rw [pts_len]; omega)).1, b1, b2]
        simp [lockgatelaw5_num.f]
      · rw [if_neg (by omega)]
    obtain ⟨p1, p2⟩ := pack_is l1 (K + 1) (by omega) (by omega)
    rw [show K + 2 + 0 = K + 1 + 1 from rfl]
    simp only [lockgatelaw5_DinodePointers.l0]
    rw [if_neg (by omega), p1, p2, Option.bind_some, Option.bind_some]
    cases hok : okP l1 with
    | true => simp [lockgatelaw5_num.f, hj2]
    | false => simp [lockgatelaw5_num.f, hj2]
  | d + 1, j, h => by
    have w3 : wrap64 ((j : Int) + 1) = ((j + 1 : Nat) : Int) := by
      have : q.length ≤ 256 := by rw [hq, ptsOf]; split <;> simp [pts_len]
      rw [w64 _ (by omega)]; omega
    rw [show K + 2 + (d + 1) = (K + 2 + d) + 1 by omega]
    simp only [lockgatelaw5_DinodePointers.l0]
    rw [if_pos (by omega), if_pos (by omega), if_pos (by omega), if_pos trivial, w3]
    exact law_loop l0 l1 hb h1 K hK q hq d (j + 1) (by omega)
theorem DinodePointers : lockgatelaw5_DinodePointers.Pure := by
  intro l0 l1 hm0 _ hw0 hm1 _ hw1
  have hb : Bytes l0 := fun x hx => by have := bounds_u8 (hw0 x hx); omega
  refine ⟨300 + 2 + (ptsOf l0).length + 1, ?_⟩
  unfold lockgatelaw5_DinodePointers.f lockgatelaw5_alive.f
  rw [Option.bind_some, if_pos rfl]
  by_cases h0 : (l0.length : Int) > 3000
  · rw [if_pos h0]; simp only [lockgatelaw5_DinodePointers.j0, if_true]
  rw [if_neg h0]
  by_cases h1 : (l1.length : Int) > 600
  · rw [decide_eq_true h1]; simp only [lockgatelaw5_DinodePointers.j0, if_true]
  rw [decide_eq_false h1]
  simp only [lockgatelaw5_DinodePointers.j0, Bool.false_eq_true, if_false]
  obtain ⟨p1, p2⟩ := pointers_is l0 hb (300 + 2 + (ptsOf l0).length) (by omega)
  rw [p1, p2, Option.bind_some, Option.bind_some, if_pos rfl]
  exact law_loop l0 l1 hb (by omega) 300 (by omega) _ rfl (ptsOf l0).length 0 (by omega)
end Go.Proofs.Ytdjncafofcpoiaa.Pure
