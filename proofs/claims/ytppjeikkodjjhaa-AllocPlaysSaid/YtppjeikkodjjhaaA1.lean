/- The plain law of alloc: rows of free and taken places; the first free one from a group on, round. Numbers and lists alone. -/
import Derived.Test.YtppjeikkodjjhaaPlain
import Derived.Test.YtppjeikkodjjhaaG1
namespace Go.Proofs.Ytppjeikkodjjhaa.Given
open Go.RowKit Go.Proofs.Ytppjeikkodjjhaa.PGeo Go.Proofs.Ytppjeikkodjjhaa.PGet Go.Proofs.Ytppjeikkodjjhaa.PWith Go.Proofs.YtppjeikkodjjhaaW.PrintWords Go.Proofs.YtppjeikkodjjhaaW.PrintMore
set_option linter.unusedSimpArgs false
set_option linter.unusedVariables false

/-- where a search begins -/
def fromOf (n : Nat) (from0 : Int) : Nat := if 0 ≤ from0 ∧ from0 < (n : Int) then from0.toNat else 0
theorem fromOf_lt (n : Nat) (from0 : Int) (h : 0 < n) : fromOf n from0 < n := by
  unfold fromOf
  split <;> omega
/-- the first free one of n groups of p, from a group on, round -/
def nextA (l : List Bool) (p n : Nat) (from0 : Int) : Option Nat :=
  ((List.range (n * p)).find? (fun i => !l.getD ((fromOf n from0 * p + i) % (n * p)) false)).map (fun i => (fromOf n from0 * p + i) % (n * p))
theorem nextA_some {l : List Bool} {p n : Nat} {from0 : Int} {i : Nat} (hi : i < n * p) (h : l.getD ((fromOf n from0 * p + i) % (n * p)) false = false) (hb : ∀ j, j < i → l.getD ((fromOf n from0 * p + j) % (n * p)) false = true) :
    nextA l p n from0 = some ((fromOf n from0 * p + i) % (n * p)) := by
  unfold nextA
  have : (List.range (n * p)).find? (fun i => !l.getD ((fromOf n from0 * p + i) % (n * p)) false) = some i := by
    rw [List.find?_range_eq_some]
    exact ⟨by rw [h]; rfl, List.mem_range.2 hi, fun j hj => by rw [hb j hj]; rfl⟩
  rw [this]
  rfl
theorem nextA_none {l : List Bool} {p n : Nat} {from0 : Int} (hb : ∀ j, j < n * p → l.getD ((fromOf n from0 * p + j) % (n * p)) false = true) : nextA l p n from0 = none := by
  unfold nextA
  have : (List.range (n * p)).find? (fun i => !l.getD ((fromOf n from0 * p + i) % (n * p)) false) = none := by
    rw [List.find?_eq_none]
    intro j hj
    rw [hb j (List.mem_range.1 hj)]
    simp
  rw [this]
  rfl
theorem nextA_spec (l : List Bool) (p n : Nat) (from0 : Int) :
    (nextA l p n from0 = none ∧ ∀ j, j < n * p → l.getD ((fromOf n from0 * p + j) % (n * p)) false = true) ∨
    (∃ i, i < n * p ∧ nextA l p n from0 = some ((fromOf n from0 * p + i) % (n * p)) ∧ l.getD ((fromOf n from0 * p + i) % (n * p)) false = false ∧ ∀ j, j < i → l.getD ((fromOf n from0 * p + j) % (n * p)) false = true) := by
  cases hf : (List.range (n * p)).find? (fun i => !l.getD ((fromOf n from0 * p + i) % (n * p)) false) with
  | none =>
    rw [List.find?_eq_none] at hf
    have hb : ∀ j, j < n * p → l.getD ((fromOf n from0 * p + j) % (n * p)) false = true := fun j hj => by
      have := hf j (List.mem_range.2 hj)
      simpa using this
    exact .inl ⟨nextA_none hb, hb⟩
  | some i =>
    rw [List.find?_range_eq_some] at hf
    obtain ⟨h1, h2, h3⟩ := hf
    have h1' : l.getD ((fromOf n from0 * p + i) % (n * p)) false = false := by simpa using h1
    have h3' : ∀ j, j < i → l.getD ((fromOf n from0 * p + j) % (n * p)) false = true := fun j hj => by simpa using h3 j hj
    exact .inr ⟨i, List.mem_range.1 h2, nextA_some (List.mem_range.1 h2) h1' h3', h1', h3'⟩
/-- every place is reached from any start -/
theorem reached (N f k : Nat) (hf : f < N) (hk : k < N) : ∃ i, i < N ∧ (f + i) % N = k := by
  by_cases h : f ≤ k
  · exact ⟨k - f, by omega, by rw [show f + (k - f) = k by omega]; exact Nat.mod_eq_of_lt hk⟩
  · exact ⟨k + N - f, by omega, by rw [show f + (k + N - f) = k + N by omega, Nat.add_mod_right]; exact Nat.mod_eq_of_lt hk⟩
theorem mul_lt' {a b p : Nat} (h : a < b) (hp : 0 < p) : a * p < b * p := Nat.mul_lt_mul_of_pos_right h hp
/-- none is free just where all are taken -/
theorem nextA_none_iff {l : List Bool} {p n : Nat} {from0 : Int} (hl : l.length = n * p) : nextA l p n from0 = none ↔ ∀ k, k < n * p → l.getD k false = true := by
  constructor
  · intro h k hk
    have hp : 0 < p := by
      rcases Nat.eq_zero_or_pos p with h0 | h0
      · rw [h0] at hk; simp at hk
      · exact h0
    have hn : 0 < n := by
      rcases Nat.eq_zero_or_pos n with h0 | h0
      · rw [h0] at hk; simp at hk
      · exact h0
    rcases nextA_spec l p n from0 with ⟨_, hb⟩ | ⟨i, _, h2, _⟩
    · obtain ⟨i, hi, he⟩ := reached (n * p) (fromOf n from0 * p) k (mul_lt' (fromOf_lt n from0 hn) hp) hk
      have := hb i hi
      rwa [he] at this
    · rw [h2] at h
      cases h
  · intro h
    refine nextA_none fun j hj => h _ (Nat.mod_lt _ (by omega))
theorem nextA_free {l : List Bool} {p n : Nat} {from0 : Int} {k : Nat} (h : nextA l p n from0 = some k) : k < n * p ∧ l.getD k false = false := by
  rcases nextA_spec l p n from0 with ⟨h1, _⟩ | ⟨i, hi, h2, h3, _⟩
  · rw [h1] at h; cases h
  · rw [h2] at h
    injection h with h
    subst h
    exact ⟨Nat.mod_lt _ (by omega), h3⟩

/-! ### a group's bits -/
/-- a row of nb bytes whose bits are f -/
def RowB (nb : Nat) (b : List Int) (f : Nat → Bool) : Prop := b.length = nb ∧ Bytes b ∧ ∀ j, j < nb * 8 → getB b j = f j
def sumBits (g : Nat → Bool) : Int := (if g 0 then 1 else 0) + (if g 1 then 2 else 0) + (if g 2 then 4 else 0) + (if g 3 then 8 else 0) + (if g 4 then 16 else 0) + (if g 5 then 32 else 0) + (if g 6 then 64 else 0) + (if g 7 then 128 else 0)
theorem byte_sum : ∀ a : Fin 256, (a.val : Int) = sumBits (bit (a.val : Int)) := by decide +kernel
theorem sumBits_congr {f g : Nat → Bool} (h : ∀ s, s < 8 → f s = g s) : sumBits f = sumBits g := by
  unfold sumBits
  rw [h 0 (by omega), h 1 (by omega), h 2 (by omega), h 3 (by omega), h 4 (by omega), h 5 (by omega), h 6 (by omega), h 7 (by omega)]
theorem byte_eq {a b : Int} (ha : 0 ≤ a ∧ a < 256) (hb : 0 ≤ b ∧ b < 256) (h : ∀ s, s < 8 → bit a s = bit b s) : a = b := by
  have h1 := byte_sum ⟨a.toNat, by omega⟩
  have h2 := byte_sum ⟨b.toNat, by omega⟩
  simp only [Int.toNat_of_nonneg ha.1] at h1
  simp only [Int.toNat_of_nonneg hb.1] at h2
  rw [h1, h2]
  exact sumBits_congr h
theorem RowB.unique {nb : Nat} {b b' : List Int} {f : Nat → Bool} (h : RowB nb b f) (h' : RowB nb b' f) (hnb : nb < 1000000) : b = b' := by
  obtain ⟨l1, y1, g1⟩ := h
  obtain ⟨l2, y2, g2⟩ := h'
  have hg : ∀ i, i < nb → b.getD i 0 = b'.getD i 0 := fun i hi => by
    refine byte_eq (bytes_getD y1 i) (bytes_getD y2 i) fun s hs => ?_
    have e1 := g1 (8 * i + s) (by omega)
    have e2 := g2 (8 * i + s) (by omega)
    rw [get_nat y1 _ (by omega)] at e1
    rw [get_nat y2 _ (by omega)] at e2
    rw [show (8 * i + s) / 8 = i by omega, show (8 * i + s) % 8 = s by omega] at e1 e2
    rw [decide_eq_true (by omega), Bool.true_and] at e1 e2
    rw [e1, e2]
  refine List.ext_getElem (by omega) fun i h1 h2 => ?_
  have := hg i (by omega)
  rw [List.getD_eq_getElem?_getD, List.getD_eq_getElem?_getD, List.getElem?_eq_getElem h1, List.getElem?_eq_getElem h2] at this
  simpa using this
theorem RowB.with {nb : Nat} {b : List Int} {f : Nat → Bool} (h : RowB nb b f) (hnb : nb < 1000000) (i : Nat) (on : Bool) (hi : i < nb * 8) : RowB nb (withB b i on) (fun j => if i = j then on else f j) := by
  obtain ⟨l1, y1, g1⟩ := h
  refine ⟨by rw [withB_length]; exact l1, withB_bytes y1 i on, fun j hj => ?_⟩
  show getB (withB b i on) j = if i = j then on else f j
  rw [get_withB y1 i j on (by omega)]
  by_cases he : i = j
  · rw [if_pos he, if_pos he, decide_eq_true (by omega), Bool.true_and]
  · rw [if_neg he, if_neg he]
    exact g1 j hj
theorem RowB.congr {nb : Nat} {b : List Int} {f g : Nat → Bool} (h : RowB nb b f) (he : ∀ j, j < nb * 8 → f j = g j) : RowB nb b g := ⟨h.1, h.2.1, fun j hj => (h.2.2 j hj).trans (he j hj)⟩
theorem RowB.zero (nb : Nat) (hnb : nb < 1000000) : RowB nb (List.replicate nb 0) (fun _ => false) := by
  have hy : Bytes (List.replicate nb 0) := fun x hx => by rw [List.eq_of_mem_replicate hx]; omega
  refine ⟨List.length_replicate, hy, fun j hj => ?_⟩
  rw [get_nat hy _ (by omega), List.getD_eq_getElem?_getD, List.getElem?_replicate]
  have : ∀ s : Fin 8, bit 0 s.val = false := by decide
  split
  · rw [Option.getD_some, this ⟨j % 8, by omega⟩, Bool.and_false]
  · rw [Option.getD_none, this ⟨j % 8, by omega⟩, Bool.and_false]
/-- what the places of a row are to a group's bits -/
def placeF (l : List Bool) (p k j : Nat) : Bool := if j < p then l.getD (k * p + j) false else false

/-- the groups' rows are what is taken: n groups of p inodes and d blocks -/
structure GOK (n p d : Nat) (gs : List S54) (li ld : List Bool) : Prop where
  len : gs.length = n
  leni : li.length = n * p
  lend : ld.length = n * d
  rows : ∀ k x, gs[k]? = some x → RowB 8 x.f0 (placeF li p k) ∧ RowB ((d + 7) / 8) x.f1 (placeF ld d k)

theorem mod_group {n p f m j : Nat} (hj : j < p) (hn : 0 < n) : (f * p + (m * p + j)) % (n * p) = (f + m) % n * p + j := by
  rw [show f * p + (m * p + j) = (f + m) * p + j by rw [Nat.add_mul]; omega]
  conv => lhs; rw [← Nat.div_add_mod (f + m) n]
  rw [Nat.add_mul, Nat.mul_right_comm, Nat.add_assoc, Nat.mul_add_mod]
  refine Nat.mod_eq_of_lt ?_
  have h1 : (f + m) % n < n := Nat.mod_lt _ hn
  have h2 : ((f + m) % n + 1) * p ≤ n * p := Nat.mul_le_mul_right p h1
  rw [Nat.add_mul] at h2
  omega
/-- the first free bit of the first group that has one, from a group on, is the first free place -/
theorem next_of_groups {l : List Bool} {p n : Nat} {from0 : Int} {m j : Nat} (hm : m < n) (hj : j < p)
    (hfree : placeF l p ((fromOf n from0 + m) % n) j = false) (hb : ∀ i, i < j → placeF l p ((fromOf n from0 + m) % n) i = true)
    (hg : ∀ q, q < m → ∀ i, i < p → placeF l p ((fromOf n from0 + q) % n) i = true) : nextA l p n from0 = some ((fromOf n from0 + m) % n * p + j) := by
  have hn : 0 < n := by omega
  have e := mod_group (f := fromOf n from0) (m := m) hj hn
  rw [← e]
  refine nextA_some ?_ ?_ ?_
  · have h2 : (m + 1) * p ≤ n * p := Nat.mul_le_mul_right p hm
    rw [Nat.add_mul] at h2
    omega
  · rw [e]
    unfold placeF at hfree
    rwa [if_pos hj] at hfree
  · intro i hi
    have hp : 0 < p := by omega
    have e1 : i = i / p * p + i % p := by rw [Nat.mul_comm]; exact (Nat.div_add_mod i p).symm
    have hr : i % p < p := Nat.mod_lt _ hp
    rw [e1, mod_group hr hn]
    have hq : i / p ≤ m := by
      rw [Nat.div_le_iff_le_mul_add_pred hp, Nat.mul_comm]
      omega
    by_cases hq2 : i / p = m
    · have := hb (i % p) (by rw [hq2] at e1; omega)
      rw [← hq2] at this
      unfold placeF at this
      rwa [if_pos hr] at this
    · have := hg (i / p) (by omega) (i % p) hr
      unfold placeF at this
      rwa [if_pos hr] at this
theorem next_no_groups {l : List Bool} {p n : Nat} {from0 : Int} (hg : ∀ q, q < n → ∀ i, i < p → placeF l p ((fromOf n from0 + q) % n) i = true) : nextA l p n from0 = none := by
  refine nextA_none fun i hi => ?_
  have hp : 0 < p := by
    rcases Nat.eq_zero_or_pos p with h0 | h0
    · rw [h0] at hi; simp at hi
    · exact h0
  have hn : 0 < n := by
    rcases Nat.eq_zero_or_pos n with h0 | h0
    · rw [h0] at hi; simp at hi
    · exact h0
  have e1 : i = i / p * p + i % p := by rw [Nat.mul_comm]; exact (Nat.div_add_mod i p).symm
  have hr : i % p < p := Nat.mod_lt _ hp
  rw [e1, mod_group hr hn]
  have := hg (i / p) ((Nat.div_lt_iff_lt_mul hp).2 hi) (i % p) hr
  unfold placeF at this
  rwa [if_pos hr] at this

/-- a place turned, in its group's row and in the whole -/
theorem placeF_set {l : List Bool} {p n k k' j : Nat} (hl : l.length = n * p) (hk : k < n) (hk' : k' < n) (hj : j < p) (on : Bool) (i : Nat) :
    placeF (l.set (k * p + j) on) p k' i = if k = k' ∧ j = i then on else placeF l p k' i := by
  unfold placeF
  by_cases hi : i < p
  · rw [if_pos hi, if_pos hi]
    have hlt : k * p + j < l.length := by
      rw [hl]
      have h2 : (k + 1) * p ≤ n * p := Nat.mul_le_mul_right p hk
      rw [Nat.add_mul] at h2
      omega
    simp only [List.getD_eq_getElem?_getD]
    by_cases he : k * p + j = k' * p + i
    · have h1 : (k * p + j) / p = k := by rw [Nat.mul_comm, Nat.mul_add_div (by omega), Nat.div_eq_of_lt hj, Nat.add_zero]
      have h2 : (k' * p + i) / p = k' := by rw [Nat.mul_comm, Nat.mul_add_div (by omega), Nat.div_eq_of_lt hi, Nat.add_zero]
      have hkk : k = k' := by rw [← h1, ← h2, he]
      subst hkk
      have hji : j = i := by omega
      subst hji
      rw [if_pos ⟨rfl, rfl⟩, List.getElem?_set_self hlt]
      rfl
    · rw [List.getElem?_set_ne he, if_neg (by rintro ⟨rfl, rfl⟩; exact he rfl)]
  · rw [if_neg hi, if_neg hi, if_neg (by rintro ⟨_, rfl⟩; exact hi hj)]

theorem GOK.setI {n p d : Nat} {gs : List S54} {li ld : List Bool} (h : GOK n p d gs li ld) (hp : p ≤ 64) {k j : Nat} {x : S54} (hx : gs[k]? = some x) (hj : j < p) (on : Bool) :
    GOK n p d (gs.set k ⟨withB x.f0 j on, x.f1⟩) (li.set (k * p + j) on) ld := by
  obtain ⟨h1, h2, h3, h4⟩ := h
  have hk : k < n := by rw [← h1]; exact (List.getElem?_eq_some_iff.1 hx).1
  refine ⟨by rw [List.length_set]; exact h1, by rw [List.length_set]; exact h2, h3, fun k' y hy => ?_⟩
  have hk' : k' < n := by rw [← h1]; have := (List.getElem?_eq_some_iff.1 hy).1; rwa [List.length_set] at this
  by_cases he : k = k'
  · subst he
    rw [List.getElem?_set_self (by omega)] at hy
    injection hy with hy
    subst hy
    obtain ⟨r1, r2⟩ := h4 k x hx
    refine ⟨(r1.with (by omega) j on (by omega)).congr (fun i hi => ?_), r2⟩
    rw [placeF_set h2 hk hk hj on i]
    by_cases hji : j = i
    · rw [if_pos hji, if_pos ⟨rfl, hji⟩]
    · rw [if_neg hji, if_neg (fun e => hji e.2)]
  · rw [List.getElem?_set_ne he] at hy
    obtain ⟨r1, r2⟩ := h4 k' y hy
    refine ⟨r1.congr (fun i hi => ?_), r2⟩
    rw [placeF_set h2 hk hk' hj on i, if_neg (fun e => he e.1)]
theorem GOK.setD {n p d : Nat} {gs : List S54} {li ld : List Bool} (h : GOK n p d gs li ld) (hd : d ≤ 1000) {k j : Nat} {x : S54} (hx : gs[k]? = some x) (hj : j < d) (on : Bool) :
    GOK n p d (gs.set k ⟨x.f0, withB x.f1 j on⟩) li (ld.set (k * d + j) on) := by
  obtain ⟨h1, h2, h3, h4⟩ := h
  have hk : k < n := by rw [← h1]; exact (List.getElem?_eq_some_iff.1 hx).1
  refine ⟨by rw [List.length_set]; exact h1, h2, by rw [List.length_set]; exact h3, fun k' y hy => ?_⟩
  have hk' : k' < n := by rw [← h1]; have := (List.getElem?_eq_some_iff.1 hy).1; rwa [List.length_set] at this
  by_cases he : k = k'
  · subst he
    rw [List.getElem?_set_self (by omega)] at hy
    injection hy with hy
    subst hy
    obtain ⟨r1, r2⟩ := h4 k x hx
    refine ⟨r1, (r2.with (by omega) j on (by omega)).congr (fun i hi => ?_)⟩
    rw [placeF_set h3 hk hk hj on i]
    by_cases hji : j = i
    · rw [if_pos hji, if_pos ⟨rfl, hji⟩]
    · rw [if_neg hji, if_neg (fun e => hji e.2)]
  · rw [List.getElem?_set_ne he] at hy
    obtain ⟨r1, r2⟩ := h4 k' y hy
    refine ⟨r1, r2.congr (fun i hi => ?_)⟩
    rw [placeF_set h3 hk hk' hj on i, if_neg (fun e => he e.1)]
theorem replicate_getD (m i : Nat) : (List.replicate m false).getD i false = false := by
  rw [List.getD_eq_getElem?_getD, List.getElem?_replicate]
  split <;> rfl
theorem GOK.new (n p d : Nat) (hd : d ≤ 1000) : GOK n p d (List.replicate n ⟨List.replicate 8 0, List.replicate ((d + 7) / 8) 0⟩) (List.replicate (n * p) false) (List.replicate (n * d) false) := by
  refine ⟨List.length_replicate, List.length_replicate, List.length_replicate, fun k x hx => ?_⟩
  rw [List.getElem?_replicate] at hx
  split at hx
  · injection hx with hx
    subst hx
    refine ⟨(RowB.zero 8 (by omega)).congr fun j _ => ?_, (RowB.zero _ (by omega)).congr fun j _ => ?_⟩
    · unfold placeF
      rw [replicate_getD]
      split <;> rfl
    · unfold placeF
      rw [replicate_getD]
      split <;> rfl
  · cases hx

/-! ### what first and count tell of a row -/
theorem first_row {nb : Nat} {b : List Int} {f : Nat → Bool} (h : RowB nb b f) (hnb : nb < 100000) {m : Nat} (hm : m ≤ nb * 8) :
    ∃ x ok, bits_First.f b (m : Int) 0 = some (x, ok) ∧ ((ok = true ∧ ∃ j : Nat, x = (j : Int) ∧ j < m ∧ f j = false ∧ ∀ i, i < j → f i = true) ∨ (ok = false ∧ x = 0 ∧ ∀ i, i < m → f i = true)) := by
  obtain ⟨l1, y1, g1⟩ := h
  have e1 : eachLo 0 = 0 := rfl
  have e2 : eachN b (m : Int) 0 = m := by unfold eachN; split <;> simp <;> omega
  unfold bits_First.f
  rw [if_pos (by omega), e1, e2]
  unfold firstBit
  cases hf : (List.range' 0 m).find? (fun i => !getB b i) with
  | none =>
    refine ⟨0, false, rfl, .inr ⟨rfl, rfl, fun i hi => ?_⟩⟩
    rw [List.find?_eq_none] at hf
    have := hf i (by simp; omega)
    rw [← g1 i (by omega)]
    simpa using this
  | some j =>
    refine ⟨j, true, rfl, .inl ⟨rfl, j, rfl, ?_⟩⟩
    rw [← List.range_eq_range', List.find?_range_eq_some] at hf
    obtain ⟨h1, h2, h3⟩ := hf
    have hjm := List.mem_range.1 h2
    refine ⟨hjm, ?_, fun i hi => ?_⟩
    · rw [← g1 j (by omega)]; simpa using h1
    · rw [← g1 i (by omega)]; simpa using h3 i hi
theorem count_row {nb : Nat} {b : List Int} {f : Nat → Bool} (h : RowB nb b f) (hnb : nb < 100000) {m : Nat} (hm : m ≤ nb * 8) : bits_Count.f b (m : Int) = some (((List.range m).countP f : Nat) : Int) := by
  obtain ⟨l1, y1, g1⟩ := h
  rw [count_ok (by omega) m (by omega)]
  unfold cnt
  rw [← List.range_eq_range']
  rw [List.countP_congr (q := f) fun j hj => by
    have := List.mem_range.1 hj
    rw [g1 j (by omega)]]
theorem get_row {nb : Nat} {b : List Int} {f : Nat → Bool} (h : RowB nb b f) (hnb : nb < 1000000) {j : Nat} (hj : j < nb * 8) : bits_Get.f b (j : Int) = some (f j) := by
  rw [get_some b j (by omega), h.2.2 j hj]
end Go.Proofs.Ytppjeikkodjjhaa.Given
