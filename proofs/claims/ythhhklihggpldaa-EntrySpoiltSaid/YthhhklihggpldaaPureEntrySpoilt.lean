/- EntrySpoilt: one entry of a block that is spoilt is told as free, and the others as they are; for every row of numbers, place and byte; no condition. -/
import Derived.Test.YthhhklihggpldaaPEntrySpoiltx
import Derived.Test.YthhhklihggpldaaPureEntryReads
import Derived.Laws.BitsAllLaws
namespace Go.Proofs.Ythhhklihggpldaa.Pure
open Go.RowKit Go.Proofs.Ythhhklihggpldaa.PEntrySpoilt Go.Proofs.Ythhhklihggpldaa.Given Go.Proofs.YthhhklihggpldaaW.PrintWords Go.Proofs.YthhhklihggpldaaW.PrintLast
set_option linter.unusedVariables false
set_option linter.unusedSimpArgs false

def digits : ByteArray := ⟨#[48, 49, 50, 51, 52, 53, 54, 55, 56, 57]⟩
def nm (j : Nat) : ByteArray := ((⟨#[110]⟩ : ByteArray) ++ digits.extract (j / 10) (j / 10 + 1)) ++ digits.extract (j % 10) (j % 10 + 1)
theorem nm_ok : ∀ j : Fin 32, (nm j).size = 3 ∧ nameOk (nm j) = true := by decide +kernel

/-! a row of 32 bytes, one behind the name another -/
theorem str_get (xs : List Int) (j : Nat) : (strOfNums xs).toList[j]? = (xs[j]?).map fun x => UInt8.ofNat x.toNat := by
  rw [ByteArray.toList_eq, strOfNums_data, List.getElem?_map]
theorem row_shape (n : Int) (s : ByteArray) (hz : s.size = 3) : ∃ c0 c1 c2 : Int, bytesOf s = [c0, c1, c2] ∧ entryBytes n s = [n % 256, n / 256 % 256, n / 65536 % 256, n / 16777216 % 256, 3, c0, c1, c2] ++ List.replicate 24 0 := by
  have hl := bytesOf_length s
  rw [hz] at hl
  match hb : bytesOf s, hl with
  | [c0, c1, c2], _ =>
    refine ⟨c0, c1, c2, rfl, ?_⟩
    unfold entryBytes
    rw [hb, hz]
    rfl
theorem set_tail (A : List Int) (hA : A.length = 8) (v : Int) (m : Nat) : (A ++ List.replicate 24 0).set (9 + m) v = A ++ (List.replicate 24 0).set (1 + m) v := by
  rw [List.set_append, if_neg (by omega)]
  congr 2
  omega
theorem set_zero (n m : Nat) : (List.replicate n (0 : Int)).set m 0 = List.replicate n 0 := by
  apply List.ext_getElem?
  intro i
  rw [List.getElem?_set]
  split
  · rename_i h
    subst h
    by_cases h : m < n <;> simp [h]
  · rfl

theorem read_row (n : Int) (s : ByteArray) (h : 0 < n ∧ n < 4294967296) (hs : nameOk s = true) (hz : s.size = 3) (v : Int) (hv : 0 ≤ v ∧ v < 256) (m : Nat) (hm : m < 23)
    (hb : ∀ x ∈ (entryBytes n s).set (9 + m) v, 0 ≤ x ∧ x < 256) : PEntryReads.entry_Read.f 1 ((entryBytes n s).set (9 + m) v) = if v = 0 then some (n, s, 0) else some (0, ⟨#[]⟩, 5) := by
  obtain ⟨c0, c1, c2, hc, hE⟩ := row_shape n s hz
  obtain ⟨A, hA⟩ : ∃ A : List Int, A = [n % 256, n / 256 % 256, n / 65536 % 256, n / 16777216 % 256, 3, c0, c1, c2] := ⟨_, rfl⟩
  have hR : (entryBytes n s).set (9 + m) v = A ++ (List.replicate 24 0).set (1 + m) v := by rw [hE, ← hA, set_tail A (by rw [hA]; rfl)]
  have hnum : numOf ((entryBytes n s).set (9 + m) v) = n := by
    rw [hR, hA]
    exact back_ n h
  have hname : nameOf ((entryBytes n s).set (9 + m) v) = s := by
    rw [hR, hA]
    have : nameOf ([n % 256, n / 256 % 256, n / 65536 % 256, n / 16777216 % 256, 3, c0, c1, c2] ++ (List.replicate 24 0).set (1 + m) v) = strOfNums [c0, c1, c2] := rfl
    rw [this, ← hc, str_bytes]
  have h4 : rd ((entryBytes n s).set (9 + m) v) 4 = 3 := by rw [hR, hA]; rfl
  have hlen : ((entryBytes n s).set (9 + m) v).length = 32 := by rw [hE]; simp
  have hp := pack_ok h hs
  have e := read_good 0 ((entryBytes n s).set (9 + m) v) hlen (by omega) hb (entryBytes n s) 0 (by rw [hnum, hname]; exact hp)
  rw [if_pos rfl, hnum, hname] at e
  rw [e]
  by_cases hv0 : v = 0
  · subst hv0
    rw [if_pos rfl, hR, hE, ← hA, set_zero, beq_self_eq_true, if_pos rfl]
  · rw [if_neg hv0, if_neg]
    intro hq
    have hq := congrArg (fun l => l[9 + m]?) (beq_iff_eq.1 hq)
    simp only [str_get] at hq
    have i1 : (entryBytes n s)[9 + m]? = some 0 := by
      have hl : A.length = 8 := by rw [hA]; rfl
      rw [hE, ← hA, List.getElem?_append_right (by omega), List.getElem?_replicate, if_pos (by omega)]
    have i2 : ((entryBytes n s).set (9 + m) v)[9 + m]? = some v := by
      rw [List.getElem?_set_self (by rw [List.length_set] at hlen; omega)]
    rw [i1, i2] at hq
    have := congrArg UInt8.toNat (Option.some.inj hq)
    simp at this
    omega

theorem read_none (v : Int) (hv : 0 ≤ v ∧ v < 256) (m : Nat) (hm : m < 23)
    (hb : ∀ x ∈ (List.replicate 32 (0 : Int)).set (9 + m) v, 0 ≤ x ∧ x < 256) : ∃ s e, PEntryReads.entry_Read.f 1 ((List.replicate 32 0).set (9 + m) v) = some (0, s, e) ∧ s.toList = [] := by
  have hR : (List.replicate 32 (0 : Int)).set (9 + m) v = List.replicate 8 0 ++ (List.replicate 24 0).set (1 + m) v := by
    rw [← set_tail (List.replicate 8 0) (by simp)]
    rfl
  have hnum : numOf ((List.replicate 32 (0 : Int)).set (9 + m) v) = 0 := by rw [hR]; rfl
  have hname : nameOf ((List.replicate 32 (0 : Int)).set (9 + m) v) = strOfNums [] := by rw [hR]; rfl
  have h4 : rd ((List.replicate 32 (0 : Int)).set (9 + m) v) 4 = 0 := by rw [hR]; rfl
  have hs : (strOfNums []).toList = [] := by decide +kernel
  have hlen : ((List.replicate 32 (0 : Int)).set (9 + m) v).length = 32 := by simp
  have e := read_good 0 ((List.replicate 32 (0 : Int)).set (9 + m) v) hlen (by omega) hb (List.replicate 32 0) 0 (by rw [hnum, hname]; exact pack_free ⟨rfl, hs⟩)
  rw [if_pos rfl, hnum, hname] at e
  rw [e]
  split
  · exact ⟨_, _, rfl, hs⟩
  · exact ⟨_, _, rfl, by decide +kernel⟩

/-! the block of entries -/
def eAt (l : List Int) (j : Nat) : S28 := ⟨rd l (j : Int), nm j⟩
def rowAt (l : List Int) (j : Nat) : List Int := entryBytes (rd l (j : Int)) (nm j)
def blockOf (l : List Int) : List Int := (List.range l.length).flatMap (rowAt l) ++ List.replicate (1024 - 32 * l.length) 0

theorem flat_get (f : Nat → List Int) : ∀ n, (∀ j < n, (f j).length = 32) → ((List.range n).flatMap f).length = 32 * n ∧ ∀ i j, i < n → j < 32 → ((List.range n).flatMap f)[32 * i + j]? = (f i)[j]?
  | 0, _ => ⟨rfl, fun i j h _ => by omega⟩
  | n + 1, hf => by
    obtain ⟨h1, h2⟩ := flat_get f n (fun j hj => hf j (by omega))
    have hn := hf n (by omega)
    rw [List.range_succ, List.flatMap_append]
    simp only [List.flatMap_cons, List.flatMap_nil, List.append_nil]
    refine ⟨by rw [List.length_append, h1, hn]; omega, fun i j hi hj => ?_⟩
    rcases Nat.lt_or_ge i n with hlt | hge
    · rw [List.getElem?_append_left (by omega)]
      exact h2 i j hlt hj
    · obtain rfl : i = n := by omega
      rw [List.getElem?_append_right (by omega), h1]
      congr 1
      omega

theorem cut_get (P : List Int) (i j : Nat) (hj : j < 32) : (cutB P i)[j]? = P[32 * i + j]? := by
  unfold cutB
  rw [List.getElem?_drop, List.getElem?_take, if_pos (by omega)]
theorem cut_out (P : List Int) (i j : Nat) (hj : 32 ≤ j) : (cutB P i)[j]? = none := by
  unfold cutB
  rw [List.getElem?_drop, List.getElem?_take, if_neg (by omega)]

theorem rowAt_len {l : List Int} (hl : l.length ≤ 32) {j : Nat} (hj : j < l.length) : (rowAt l j).length = 32 := by
  obtain ⟨_, _, _, _, h⟩ := row_shape (rd l (j : Int)) (nm j) (nm_ok ⟨j, by omega⟩).1
  unfold rowAt
  rw [h]
  simp
theorem block_len {l : List Int} (hl : l.length ≤ 32) : (blockOf l).length = 1024 := by
  unfold blockOf
  rw [List.length_append, (flat_get (rowAt l) l.length (fun j hj => rowAt_len hl hj)).1, List.length_replicate]
  omega
theorem block_cut {l : List Int} (hl : l.length ≤ 32) (i : Nat) (hi : i < 32) : cutB (blockOf l) i = if i < l.length then rowAt l i else List.replicate 32 0 := by
  obtain ⟨h1, h2⟩ := flat_get (rowAt l) l.length (fun j hj => rowAt_len hl hj)
  apply List.ext_getElem?
  intro j
  rcases Nat.lt_or_ge j 32 with hj | hj
  · rw [cut_get _ _ _ hj]
    unfold blockOf
    by_cases hlt : i < l.length
    · rw [if_pos hlt, List.getElem?_append_left (by omega), h2 i j hlt hj]
    · rw [if_neg hlt, List.getElem?_append_right (by omega), h1, List.getElem?_replicate, List.getElem?_replicate, if_pos (by omega), if_pos (by omega)]
  · rw [cut_out _ _ _ hj]
    split
    · rename_i hlt
      rw [List.getElem?_eq_none (by rw [rowAt_len hl hlt]; exact hj)]
    · rw [List.getElem?_eq_none (by simpa using hj)]
theorem cut_set (P : List Int) (hP : P.length = 1024) (q r i : Nat) (hr : r < 32) (v : Int) : cutB (P.set (32 * q + r) v) i = if i = q then (cutB P i).set r v else cutB P i := by
  apply List.ext_getElem?
  intro j
  rcases Nat.lt_or_ge j 32 with hj | hj
  · rw [cut_get _ _ _ hj, List.getElem?_set]
    by_cases hi : i = q
    · subst hi
      rw [if_pos rfl, List.getElem?_set, cut_get _ _ _ hj]
      by_cases hjr : r = j
      · subst hjr
        rw [if_pos rfl, if_pos rfl]
        by_cases hlt : 32 * i + r < P.length
        · rw [if_pos hlt, if_pos]
          have := cut_get P i r hj
          rw [List.getElem?_eq_getElem hlt] at this
          exact (List.getElem?_eq_some_iff.1 this).1
        · rw [if_neg hlt, if_neg]
          intro h
          have := cut_get P i r hj
          rw [List.getElem?_eq_getElem h, List.getElem?_eq_none (by omega)] at this
          cases this
      · rw [if_neg (by omega), if_neg hjr]
    · rw [if_neg hi, if_neg (by omega), cut_get _ _ _ hj]
  · rw [cut_out _ _ _ hj]
    split
    · rw [List.getElem?_eq_none]
      have := cut_out P i j hj
      rw [List.getElem?_eq_none_iff] at this
      simpa using this
    · rw [cut_out _ _ _ hj]

theorem entryBytes_rng (n : Int) (s : ByteArray) : ∀ x ∈ entryBytes n s, 0 ≤ x ∧ x < 256 := by
  intro x hx
  simp only [entryBytes, List.mem_append, List.mem_cons, List.not_mem_nil, or_false, List.mem_replicate, bytesOf, List.mem_map] at hx
  rcases hx with (hx | ⟨b, _, rfl⟩) | ⟨_, rfl⟩
  · omega
  · have := b.toNat_lt; omega
  · omega
theorem block_rng (l : List Int) : ∀ x ∈ blockOf l, 0 ≤ x ∧ x < 256 := by
  intro x hx
  simp only [blockOf, List.mem_append, List.mem_flatMap, List.mem_replicate] at hx
  rcases hx with ⟨j, _, hx⟩ | ⟨_, rfl⟩
  · exact entryBytes_rng _ _ x hx
  · omega
theorem set_rng {P : List Int} (h : ∀ x ∈ P, 0 ≤ x ∧ x < 256) (i : Nat) (v : Int) (hv : 0 ≤ v ∧ v < 256) : ∀ x ∈ P.set i v, 0 ≤ x ∧ x < 256 := by
  intro x hx
  rcases List.mem_or_eq_of_mem_set hx with h1 | h1
  · exact h x h1
  · rw [h1]; exact hv

/-- what stands at a place of the spoilt block -/
theorem spoilt_at (l : List Int) (hl : l.length ≤ 32) (hn : ∀ j < l.length, 0 < rd l (j : Int) ∧ rd l (j : Int) < 4294967296) (q m : Nat) (hq : q < 32) (hm : m < 23) (v : Int) (hv : 0 ≤ v ∧ v < 256) (i : Nat) (hi : i < 32) :
    ∃ s : S28, entryAt ((blockOf l).set (32 * q + (9 + m)) v) i = some s ∧ entryAt! ((blockOf l).set (32 * q + (9 + m)) v) i = s ∧ (if i < l.length ∧ (i ≠ q ∨ v = 0) then s = eAt l i else s.f0 = 0 ∧ s.f1.toList = []) := by
  have hcut := cut_set (blockOf l) (block_len hl) q (9 + m) i (by omega) v
  have key : ∃ n s e, PEntryReads.entry_Read.f 1 (cutB ((blockOf l).set (32 * q + (9 + m)) v) i) = some (n, s, e) ∧ (if i < l.length ∧ (i ≠ q ∨ v = 0) then n = rd l (i : Int) ∧ s = nm i else n = 0 ∧ s.toList = []) := by
    rw [hcut, block_cut hl i hi]
    by_cases hiq : i = q
    · rw [if_pos hiq]
      by_cases hlt : i < l.length
      · rw [if_pos hlt]
        have hok := nm_ok ⟨i, hi⟩
        have := read_row (rd l (i : Int)) (nm i) (hn i hlt) hok.2 hok.1 v hv m hm (set_rng (entryBytes_rng _ _) _ _ hv)
        unfold rowAt
        rw [this]
        by_cases hv0 : v = 0
        · rw [if_pos hv0]
          exact ⟨_, _, _, rfl, by rw [if_pos ⟨hlt, .inr hv0⟩]; exact ⟨rfl, rfl⟩⟩
        · rw [if_neg hv0]
          exact ⟨_, _, _, rfl, by rw [if_neg (by rintro ⟨_, h | h⟩ <;> contradiction)]; exact ⟨rfl, by decide +kernel⟩⟩
      · rw [if_neg hlt]
        obtain ⟨s, e, h1, h2⟩ := read_none v hv m hm (set_rng (by intro x hx; have := (List.mem_replicate.1 hx).2; omega) _ _ hv)
        exact ⟨_, _, _, h1, by rw [if_neg (fun h => hlt h.1)]; exact ⟨rfl, h2⟩⟩
    · rw [if_neg hiq]
      by_cases hlt : i < l.length
      · rw [if_pos hlt]
        have hok := nm_ok ⟨i, hi⟩
        have h0 : (entryBytes (rd l (i : Int)) (nm i)).set (9 + 0) 0 = entryBytes (rd l (i : Int)) (nm i) := by
          obtain ⟨c0, c1, c2, _, hE⟩ := row_shape (rd l (i : Int)) (nm i) hok.1
          rw [hE, set_tail _ rfl, set_zero]
        have := read_row (rd l (i : Int)) (nm i) (hn i hlt) hok.2 hok.1 0 (by omega) 0 (by omega) (by rw [h0]; exact entryBytes_rng _ _)
        rw [h0, if_pos rfl] at this
        exact ⟨_, _, _, this, by rw [if_pos ⟨hlt, .inl hiq⟩]; exact ⟨rfl, rfl⟩⟩
      · rw [if_neg hlt]
        obtain ⟨s, e, h1, h2⟩ := read_none 0 (by omega) 0 (by omega) (by rw [set_zero]; intro x hx; have := (List.mem_replicate.1 hx).2; omega)
        rw [set_zero] at h1
        exact ⟨_, _, _, h1, by rw [if_neg (fun h => hlt h.1)]; exact ⟨rfl, h2⟩⟩
  obtain ⟨n, s, e, h1, h2⟩ := key
  have h3 : entryAt ((blockOf l).set (32 * q + (9 + m)) v) i = some ⟨n, s⟩ := by unfold entryAt; rw [h1]; rfl
  refine ⟨⟨n, s⟩, h3, by unfold entryAt!; rw [h3]; rfl, ?_⟩
  split
  · rename_i h
    rw [if_pos h] at h2
    unfold eAt
    rw [h2.1, h2.2]
  · rename_i h
    rw [if_neg h] at h2
    exact h2

theorem sizes_ok : ∀ i : Fin 32, 1 + ((⟨#[48, 49, 50, 51, 52, 53, 54, 55, 56, 57]⟩ : ByteArray).extract (i / 10) (i / 10 + 1)).size ≤ 9223372036854775807 ∧ ((⟨#[110]⟩ : ByteArray) ++ ((⟨#[48, 49, 50, 51, 52, 53, 54, 55, 56, 57]⟩ : ByteArray).extract (i / 10) (i / 10 + 1))).size + ((⟨#[48, 49, 50, 51, 52, 53, 54, 55, 56, 57]⟩ : ByteArray).extract (i % 10) (i % 10 + 1)).size ≤ 9223372036854775807 := by decide +kernel

theorem build_step (l : List Int) (a1 a2 : Int) (i k : Nat) (hi : i < 32) (hl : i < l.length) (h1 : ¬ rd l (i : Int) < 1) (h2 : ¬ rd l (i : Int) > 4294967295) (xs : List S28) (hx : xs.length ≤ 32) :
    lockgatelaw6_EntrySpoilt.l0 (k + 1) l a1 a2 xs (i : Int) = lockgatelaw6_EntrySpoilt.l0 k l a1 a2 (xs ++ [eAt l i]) ((i + 1 : Nat) : Int) := by
  have w1 : wrap64 (Int.tdiv (i : Int) 10) = ((i / 10 : Nat) : Int) := by
    rw [Int.tdiv_eq_ediv_of_nonneg (by omega)]; unfold wrap64; omega
  have w2 : wrap64 (((i / 10 : Nat) : Int) + 1) = ((i / 10 + 1 : Nat) : Int) := by unfold wrap64; omega
  have w3 : Int.tmod (i : Int) 10 = ((i % 10 : Nat) : Int) := by rw [Int.tmod_eq_emod_of_nonneg (by omega)]; omega
  have w4 : wrap64 (((i % 10 : Nat) : Int) + 1) = ((i % 10 + 1 : Nat) : Int) := by unfold wrap64; omega
  have w5 : wrap64 ((i : Int) + 1) = ((i + 1 : Nat) : Int) := by unfold wrap64; omega
  obtain ⟨s1, s2⟩ := sizes_ok ⟨i, hi⟩
  simp only [lockgatelaw6_EntrySpoilt.l0]
  rw [w1, w2, w3, w4, w5]
  simp only [Int.toNat_natCast]
  rw [if_pos (by omega), if_pos (by omega), if_neg h1, if_neg h2, if_pos (by omega), if_pos (by omega), if_pos (by omega), if_pos s1, if_pos (by omega), if_pos (by omega), if_pos (by omega), if_pos s2, if_pos (by omega)]
  rfl

theorem build (l : List Int) (hl : l.length ≤ 32) (a1 a2 : Int) : ∀ (d i k : Nat), i + d = l.length → d < k → lockgatelaw6_EntrySpoilt.l0 k l a1 a2 ((List.range i).map (eAt l)) (i : Int) = some true ∨
    ((∀ j, i ≤ j → j < l.length → 0 < rd l (j : Int) ∧ rd l (j : Int) < 4294967296) ∧ ∃ m, k = m + d ∧ lockgatelaw6_EntrySpoilt.l0 k l a1 a2 ((List.range i).map (eAt l)) (i : Int) = lockgatelaw6_EntrySpoilt.l0 m l a1 a2 ((List.range l.length).map (eAt l)) (l.length : Int))
  | 0, i, k, h, hk => by
    obtain rfl : i = l.length := by omega
    exact .inr ⟨fun j h1 h2 => by omega, k, rfl, rfl⟩
  | d + 1, i, k, h, hk => by
    obtain ⟨k, rfl⟩ : ∃ m, k = m + 1 := ⟨k - 1, by omega⟩
    by_cases h1 : rd l (i : Int) < 1
    · left
      simp only [lockgatelaw6_EntrySpoilt.l0]
      rw [if_pos (by omega), if_pos (by omega), if_pos h1]
    · by_cases h2 : rd l (i : Int) > 4294967295
      · left
        simp only [lockgatelaw6_EntrySpoilt.l0]
        rw [if_pos (by omega), if_pos (by omega), if_neg h1, if_pos h2]
      · rw [build_step l a1 a2 i k (by omega) (by omega) h1 h2 _ (by simp; omega)]
        have hr : (List.range i).map (eAt l) ++ [eAt l i] = (List.range (i + 1)).map (eAt l) := by rw [List.range_succ, List.map_append]; rfl
        rw [hr]
        rcases build l hl a1 a2 d (i + 1) k (by omega) (by omega) with h3 | ⟨h3, m, hm, h4⟩
        · exact .inl h3
        · refine .inr ⟨fun j hj hjl => ?_, m, by omega, h4⟩
          rcases Nat.lt_or_ge i j with hlt | hge
          · exact h3 j hlt hjl
          · obtain rfl : j = i := by omega
            omega

theorem pack_all (l : List Int) (hl : l.length ≤ 32) (hn : ∀ j < l.length, 0 < rd l (j : Int) ∧ rd l (j : Int) < 4294967296) : ∀ (d i k : Nat), i + d = l.length → d < k →
    entry_PackBlock.l0 k ((List.range i).flatMap (rowAt l)) ((List.range l.length).map (eAt l)) (l.length : Int) (i : Int) = some (blockOf l, 0)
  | 0, i, k, h, hk => by
    obtain ⟨k, rfl⟩ : ∃ m, k = m + 1 := ⟨k - 1, by omega⟩
    obtain rfl : i = l.length := by omega
    have hlen := (flat_get (rowAt l) l.length (fun j hj => rowAt_len hl hj)).1
    have w : wrap64 (1024 - (((List.range l.length).flatMap (rowAt l)).length : Int)) = ((1024 - 32 * l.length : Nat) : Int) := by rw [hlen]; unfold wrap64; omega
    simp only [entry_PackBlock.l0]
    rw [if_neg (by omega), w, if_pos (by omega), if_pos (by omega), Int.toNat_natCast]
    rfl
  | d + 1, i, k, h, hk => by
    obtain ⟨k, rfl⟩ : ∃ m, k = m + 1 := ⟨k - 1, by omega⟩
    have hi : i < l.length := by omega
    have hlen := (flat_get (rowAt l) i (fun j hj => rowAt_len hl (by omega))).1
    have w3 : wrap64 ((i : Int) + 1) = ((i + 1 : Nat) : Int) := by unfold wrap64; omega
    have hrd : rd_T28 ((List.range l.length).map (eAt l)) (i : Int) = eAt l i := by
      unfold rd_T28
      rw [Int.toNat_natCast, List.getD_eq_getElem?_getD, List.getElem?_map, List.getElem?_range hi]
      rfl
    have hok := nm_ok ⟨i, by omega⟩
    have hp := pack_ok (hn i hi) hok.2
    have hrl := rowAt_len hl hi
    have hr : (List.range i).flatMap (rowAt l) ++ rowAt l i = (List.range (i + 1)).flatMap (rowAt l) := by rw [List.range_succ, List.flatMap_append]; simp
    simp only [entry_PackBlock.l0]
    rw [if_pos (by omega), if_pos (by omega), if_pos (by simp; omega), hrd]
    have hp' : entry_Pack.f (eAt l i).f0 (eAt l i).f1 = some (rowAt l i, 0) := hp
    rw [hp', Option.bind_some, if_pos rfl, if_pos (by rw [hlen, hrl]; omega), w3]
    show entry_PackBlock.l0 k ((List.range i).flatMap (rowAt l) ++ rowAt l i) _ _ _ = _
    rw [hr]
    exact pack_all l hl hn d (i + 1) k (by omega) (by omega)

theorem tell_loop (l t : List Int) (hl : l.length ≤ 32) (a1 a2 : Int) (q : Nat) (hq : q < 32) (w32 : wrap64 (Int.tdiv a1 32) = (q : Int)) (xs : List S28) (hx : xs.length = 32)
    (hs : ∀ i : Nat, i < 32 → if i < l.length ∧ (i ≠ q ∨ a2 = 0) then rd_T28 xs (i : Int) = eAt l i else (rd_T28 xs (i : Int)).f0 = 0 ∧ (rd_T28 xs (i : Int)).f1.toList = []) :
    ∀ (d i k : Nat), i + d = 32 → 2 * d < k → lockgatelaw6_EntrySpoilt.l1 k a1 a2 ((List.range l.length).map (eAt l)) xs (i : Int) = some true
  | 0, i, k, h, hk => by
    obtain ⟨k, rfl⟩ : ∃ m, k = m + 1 := ⟨k - 1, by omega⟩
    simp only [lockgatelaw6_EntrySpoilt.l1]
    rw [if_neg (by omega)]
  | d + 1, i, k, h, hk => by
    obtain ⟨k, rfl⟩ : ∃ m, k = m + 2 := ⟨k - 2, by omega⟩
    have w3 : wrap64 ((i : Int) + 1) = ((i + 1 : Nat) : Int) := by unfold wrap64; omega
    have ih := tell_loop l t hl a1 a2 q hq w32 xs hx hs d (i + 1) k (by omega) (by omega)
    have hsi := hs i (by omega)
    have hlen : ((List.range l.length).map (eAt l)).length = l.length := by simp
    have hz : (⟨#[]⟩ : ByteArray).toList = [] := by decide +kernel
    have yes : i < l.length ∧ (i ≠ q ∨ a2 = 0) → lockgatelaw6_EntrySpoilt.j3 (k + 1) a1 a2 ((List.range l.length).map (eAt l)) xs (i : Int) true 0 (⟨#[]⟩ : ByteArray) = some true := by
      intro hc
      rw [if_pos hc] at hsi
      have hrd : rd_T28 ((List.range l.length).map (eAt l)) (i : Int) = eAt l i := by
        unfold rd_T28
        rw [Int.toNat_natCast, List.getD_eq_getElem?_getD, List.getElem?_map, List.getElem?_range hc.1]
        rfl
      simp only [lockgatelaw6_EntrySpoilt.j3, if_true]
      rw [if_pos (by omega), if_pos (by rw [hlen]; omega), if_pos (by omega), hrd, hsi, w3, ih]
      simp
    have no : ¬ (i < l.length ∧ (i ≠ q ∨ a2 = 0)) → lockgatelaw6_EntrySpoilt.j3 (k + 1) a1 a2 ((List.range l.length).map (eAt l)) xs (i : Int) false 0 (⟨#[]⟩ : ByteArray) = some true := by
      intro hc
      rw [if_neg hc] at hsi
      simp only [lockgatelaw6_EntrySpoilt.j3, Bool.false_eq_true, if_false]
      rw [if_pos (by omega), if_pos (by omega), hsi.1, hsi.2, hz, w3, ih]
      simp
    simp only [lockgatelaw6_EntrySpoilt.l1]
    rw [if_pos (by omega), hlen, w32]
    by_cases h1 : i < l.length
    · rw [if_pos (by omega)]
      by_cases h2 : i = q
      · rw [if_pos (by omega)]
        by_cases h3 : a2 = 0
        · rw [beq_iff_eq.2 h3]; exact yes ⟨h1, .inr h3⟩
        · rw [beq_eq_false_iff_ne.2 h3]; exact no (by rintro ⟨_, h | h⟩ <;> contradiction)
      · rw [if_neg (by omega)]
        exact yes ⟨h1, .inl h2⟩
    · rw [if_neg (by omega)]
      exact no (fun h => h1 h.1)

theorem idx1 (n : Nat) (h : n ≤ 1023) : wrap64 (Int.tdiv (n : Int) 32) = ((n / 32 : Nat) : Int) := by
  rw [Int.tdiv_eq_ediv_of_nonneg (by omega)]; unfold wrap64; omega
theorem idx2 (n : Nat) (h : n ≤ 1023) : wrap64 (((n / 32 : Nat) : Int) * 32) = ((32 * (n / 32) : Nat) : Int) := by unfold wrap64; omega
theorem idx3 (n : Nat) (h : n ≤ 1023) : wrap64 (((32 * (n / 32) : Nat) : Int) + 9) = ((32 * (n / 32) + 9 : Nat) : Int) := by unfold wrap64; omega
theorem idx4 (n : Nat) : Int.tmod (n : Int) 23 = ((n % 23 : Nat) : Int) := by rw [Int.tmod_eq_emod_of_nonneg (by omega)]; omega
theorem idx5 (n : Nat) (h : n ≤ 1023) : wrap64 (((32 * (n / 32) + 9 : Nat) : Int) + ((n % 23 : Nat) : Int)) = ((32 * (n / 32) + (9 + n % 23) : Nat) : Int) := by unfold wrap64; omega

theorem EntrySpoilt : lockgatelaw6_EntrySpoilt.Pure := by
  intro l a1 a2 _ _ hu h1 h2
  have hb2 : 0 ≤ a2 ∧ a2 < 256 := by have := bounds_u8 h2; omega
  obtain ⟨K, hK⟩ : ∃ K : Nat, 900 ≤ K := ⟨900, Nat.le_refl _⟩
  refine ⟨K + 1, ?_⟩
  unfold lockgatelaw6_EntrySpoilt.f
  rw [alive, Option.bind_some, if_pos rfl]
  by_cases c1 : (l.length : Int) > 32
  · rw [if_pos c1]; simp only [lockgatelaw6_EntrySpoilt.j0, if_true]
  rw [if_neg c1]
  by_cases c2 : a1 < 0
  · rw [if_pos c2]; simp only [lockgatelaw6_EntrySpoilt.j0, if_true]
  rw [if_neg c2]
  by_cases c3 : a1 > 1023
  · rw [decide_eq_true c3]; simp only [lockgatelaw6_EntrySpoilt.j0, if_true]
  rw [decide_eq_false c3]
  simp only [lockgatelaw6_EntrySpoilt.j0, Bool.false_eq_true, if_false]
  have hl : l.length ≤ 32 := by omega
  have hB0 := build l hl a1 a2 l.length 0 K (by omega) (by omega)
  rw [show (List.range 0).map (eAt l) = [] from rfl, Int.natCast_zero] at hB0
  rcases hB0 with h | ⟨hn, m, hm, h⟩
  · exact h
  · rw [h]
    obtain ⟨m, rfl⟩ : ∃ j, m = j + 1 := ⟨m - 1, by omega⟩
    have hn' : ∀ j < l.length, 0 < rd l (j : Int) ∧ rd l (j : Int) < 4294967296 := fun j hj => hn j (by omega) hj
    have hp : entry_PackBlock.f m ((List.range l.length).map (eAt l)) = some (blockOf l, 0) := by
      unfold entry_PackBlock.f
      have hlen : ((List.range l.length).map (eAt l)).length = l.length := by simp
      rw [hlen, if_neg (by omega)]
      exact pack_all l hl hn' l.length 0 m (by omega) (by omega)
    obtain ⟨n, rfl⟩ : ∃ n : Nat, a1 = n := ⟨a1.toNat, by omega⟩
    have hbl := block_len hl
    have hq : n / 32 < 32 := by omega
    have hm23 : n % 23 < 23 := by omega
    have hrd : rd (blockOf l) ((32 * (n / 32) + (9 + n % 23) : Nat) : Int) = 0 := by
      have := cut_get (blockOf l) (n / 32) (9 + n % 23) (by omega)
      rw [block_cut hl (n / 32) hq] at this
      unfold rd
      rw [Int.toNat_natCast, List.getD_eq_getElem?_getD, ← this]
      split
      · rename_i hlt
        obtain ⟨c0, c1, c2, _, hE⟩ := row_shape (rd l ((n / 32 : Nat) : Int)) (nm (n / 32)) (nm_ok ⟨n / 32, hq⟩).1
        unfold rowAt
        rw [hE, List.getElem?_append_right (by simp; omega), List.getElem?_replicate]
        split <;> rfl
      · rw [List.getElem?_replicate]
        split <;> rfl
    have hxor : Go.bits .xor .u8 0 a2 = a2 := by
      rw [u8_xor 0 a2 (by omega) (by omega) hb2.1 hb2.2]
      simp
      omega
    have hn1023 : n ≤ 1023 := by omega
    have k1 : ¬ ((l.length : Int) < (l.length : Int)) := by omega
    have k2 : (0 : Int) ≤ ((32 * (n / 32) + (9 + n % 23) : Nat) : Int) := by omega
    have k3 : ((32 * (n / 32) + (9 + n % 23) : Nat) : Int) < ((blockOf l).length : Int) := by omega
    have k4 : 2 * 32 < m := by omega
    have hnum : ∀ x, PEntryReads.lockgatelaw6_num.f x = some x := fun x => rfl
    clear h hm hn h1 h2 c2 c3 hu
    simp only [lockgatelaw6_EntrySpoilt.l0]
    rw [if_neg k1, hp, Option.bind_some, hnum, Option.bind_some, if_pos rfl, idx1 n hn1023, idx2 n hn1023, idx3 n hn1023, idx4 n, idx5 n hn1023, hrd, hxor, if_pos k2, if_pos k3, Int.toNat_natCast]
    have hat := spoilt_at l hl hn' (n / 32) (n % 23) hq hm23 a2 hb2
    have hB : entry_Block.f ((blockOf l).set (32 * (n / 32) + (9 + n % 23)) a2) = some ((List.range' 0 32).map (entryAt! ((blockOf l).set (32 * (n / 32) + (9 + n % 23)) a2))) := by
      unfold entry_Block.f
      rw [if_pos (by rw [List.length_set, hbl]; rfl), if_pos]
      rw [List.all_eq_true]
      intro x hx
      obtain ⟨s, hs, _⟩ := hat x (by simpa using hx)
      rw [hs]; rfl
    rw [hB, Option.bind_some, if_pos (by simp)]
    refine tell_loop l [] hl n a2 (n / 32) hq (idx1 n hn1023) _ (by simp) ?_ 32 0 m rfl k4
    intro i hi
    obtain ⟨s, _, hs, hc⟩ := hat i hi
    have hrd : rd_T28 ((List.range' 0 32).map (entryAt! ((blockOf l).set (32 * (n / 32) + (9 + n % 23)) a2))) (i : Int) = s := by
      unfold rd_T28
      rw [Int.toNat_natCast, List.getD_eq_getElem?_getD, List.getElem?_map, List.getElem?_range' hi]
      simp only [Option.map_some, Option.getD_some, Nat.zero_add, Nat.one_mul]
      exact hs
    rw [hrd]
    exact hc
end Go.Proofs.Ythhhklihggpldaa.Pure
