/- EntryReads: what any bytes are as an entry, or that they are none; for every row of bytes; no condition. -/
import Derived.Test.YthhhklihggpldaaPEntryReadsx
import Derived.Test.YthhhklihggpldaaPlain
import Derived.Laws.Bits128
import Derived.Lib.LazyBuf
import Derived.OpenShut
namespace Go.Proofs.Ythhhklihggpldaa.Pure
open Go.RowKit Go.Proofs.Ythhhklihggpldaa.PEntryReads Go.Proofs.Ythhhklihggpldaa.Given Go.Proofs.YthhhklihggpldaaW.PrintWords Go.Proofs.YthhhklihggpldaaW.PrintLast
set_option linter.unusedVariables false
set_option linter.unusedSimpArgs false

theorem and255 (n : Int) : Go.bits .and .i64 n 255 = n % 256 := by
  have h255 : (BitVec.ofInt 64 255).toNat = 2 ^ 8 - 1 := by decide
  have key : (BitVec.ofInt 64 n &&& BitVec.ofInt 64 255).toNat = (n % ((2 ^ 64 : Nat) : Int)).toNat % 2 ^ 8 := by
    rw [BitVec.toNat_and, BitVec.toNat_ofInt, h255, Nat.and_two_pow_sub_one_eq_mod]
  show IntKind.i64.wrap ((BitVec.ofInt 64 n &&& BitVec.ofInt 64 255).toNat : Nat) = n % 256
  rw [key, IntKind.wrap_i64]
  omega

theorem fits4 (n : Int) : lockgateref1_fits.f n 4 = some (decide (0 ≤ n ∧ n < 4294967296)) := by
  unfold lockgateref1_fits.f
  have h1 : (IntKind.u64.wrap (wrap64 (8 * 4))) = 32 := by decide +kernel
  have h2 : shl .i64 1 32 = 4294967296 := by decide +kernel
  rw [h1]
  by_cases h : n ≥ 0
  · rw [if_pos h, if_pos (by decide), h2]
    exact congrArg some (decide_eq_decide.2 (by omega))
  · rw [if_neg h, decide_eq_false (by omega)]

theorem put_step (k : Nat) (x0 : List Int) (n x2 : Int) (i j s : Nat) (hj : j = i + 1) (hs : s = 8 * i) (hi : i < 8) (h : (i : Int) < x2) (hl : x0.length < 100000) : lockgateref1_put.l0 (k + 1) x0 n x2 i = lockgateref1_put.l0 k (x0 ++ [n / 2 ^ s % 256]) n x2 j := by
  subst hj hs
  have h1 : IntKind.u64.wrap (wrap64 (8 * (i : Int))) = ((8 * i : Nat) : Int) := by
    have : ∀ i : Fin 8, IntKind.u64.wrap (wrap64 (8 * (i.val : Int))) = ((8 * i.val : Nat) : Int) := by decide +kernel
    exact this ⟨i, hi⟩
  have h2 : wrap64 ((i : Int) + 1) = ((i + 1 : Nat) : Int) := by unfold wrap64; omega
  have h3 : shr .i64 n ((8 * i : Nat) : Int) = n / 2 ^ (8 * i) := by
    unfold shr
    have : min (((8 * i : Nat) : Int)).toNat IntKind.i64.bits = 8 * i := by
      have : IntKind.i64.bits = 64 := rfl
      rw [this, Int.toNat_natCast]
      omega
    rw [this]
  simp only [lockgateref1_put.l0]
  rw [if_pos h, h1, h2, if_pos (by omega), if_pos (by omega), h3, and255]
  simp
theorem put_end (k : Nat) (x0 : List Int) (n x2 : Int) (i : Nat) (h : ¬ (i : Int) < x2) : lockgateref1_put.l0 (k + 1) x0 n x2 i = some x0 := by
  simp only [lockgateref1_put.l0]
  rw [if_neg h]
theorem put4 (k : Nat) (n : Int) : lockgateref1_put.f (k + 5) [] n 4 = some [n % 256, n / 256 % 256, n / 65536 % 256, n / 16777216 % 256] := by
  unfold lockgateref1_put.f
  have := put_step (k + 4) [] n 4 0 1 0 rfl rfl (by omega) (by omega) (by simp)
  rw [Int.natCast_zero] at this
  rw [this, put_step (k + 3) _ n 4 1 2 8 rfl rfl (by omega) (by omega) (by simp), put_step (k + 2) _ n 4 2 3 16 rfl rfl (by omega) (by omega) (by simp), put_step (k + 1) _ n 4 3 4 24 rfl rfl (by omega) (by omega) (by simp), put_end k _ n 4 4 (by omega)]
  simp
theorem put1 (k : Nat) (xs : List Int) (n : Int) (h : xs.length < 100000) : lockgateref1_put.f (k + 2) xs n 1 = some (xs ++ [n % 256]) := by
  unfold lockgateref1_put.f
  have := put_step (k + 1) xs n 1 0 1 0 rfl rfl (by omega) (by omega) h
  rw [Int.natCast_zero] at this
  rw [this, put_end k _ n 1 1 (by omega)]
  simp
theorem fill_at (xs : List Int) (n : Nat) (h : xs.length ≤ n) (hn : n < 100000) : lockgateref1_fill.f xs n = some (xs ++ List.replicate (n - xs.length) 0) := by
  unfold lockgateref1_fill.f
  have : wrap64 ((n : Int) - (xs.length : Int)) = ((n - xs.length : Nat) : Int) := by unfold wrap64; omega
  rw [this, if_pos (by omega), Int.toNat_natCast, if_pos (by omega)]

theorem nameOk_iff (s : ByteArray) : nameOk s = true ↔ s.toList ≠ [] ∧ s.size ≤ 27 ∧ (0 : UInt8) ∉ s.data.toList ∧ (47 : UInt8) ∉ s.data.toList := by
  have i0 := ix_neg 0 s.data.toList
  have i1 := ix_neg 47 s.data.toList
  simp only [nameOk, Bool.and_eq_true, decide_eq_true_eq, i0, i1]
  have : ((!s.toList.isEmpty) = true) ↔ s.toList ≠ [] := by cases s.toList <;> simp
  rw [this]
  constructor
  · rintro ⟨⟨⟨a, b⟩, c⟩, d⟩
    exact ⟨a, by omega, c, d⟩
  · rintro ⟨a, b, c, d⟩
    exact ⟨⟨⟨a, by omega⟩, c⟩, d⟩
theorem mem_of_bt (s : ByteArray) (i : Nat) (hi : i < s.size) (c : UInt8) (h : bt s (i : Int) = (c.toNat : Int)) : c ∈ s.data.toList := by
  unfold bt at h
  rw [Int.toNat_natCast, dif_pos hi] at h
  have : s[i] = c := UInt8.toNat_inj.1 (by omega)
  rw [← this]
  exact Array.getElem_mem_toList (xs := s.data) hi
theorem name_loop (s : ByteArray) (d : Nat) : ∀ (k i : Nat), i + d = s.size → s.size < 1000000 → d < k → (∀ j (hj : j < i) (hs : j < s.size), s[j] ≠ 0 ∧ s[j] ≠ 47) → lockgateref1_Name.l0 k s i = some (nameOk s) := by
  induction d with
  | zero =>
    intro k i h hsz hk hno
    obtain ⟨k, rfl⟩ : ∃ m, k = m + 1 := ⟨k - 1, by omega⟩
    have hmem : ∀ c, c ∈ s.data.toList → c ≠ 0 ∧ c ≠ 47 := by
      intro c hc
      obtain ⟨j, hj, e⟩ := List.getElem_of_mem hc
      have hj' : j < s.size := by simpa using hj
      have := hno j (by omega) hj'
      have e2 : s[j] = c := by rw [← e]; rfl
      rwa [e2] at this
    simp only [lockgateref1_Name.l0]
    rw [if_neg (by omega)]
    by_cases h1 : s.toList = ([] : List UInt8)
    · rw [if_pos h1]
      have : ¬ nameOk s = true := fun hh => ((nameOk_iff s).1 hh).1 h1
      simpa using this
    · rw [if_neg h1]
      refine congrArg some ?_
      rw [Bool.eq_iff_iff, nameOk_iff, decide_eq_true_eq]
      exact ⟨fun hh => ⟨h1, by omega, fun hc => (hmem _ hc).1 rfl, fun hc => (hmem _ hc).2 rfl⟩, fun hh => by omega⟩
  | succ d ih =>
    intro k i h hsz hk hno
    obtain ⟨k, rfl⟩ : ∃ m, k = m + 1 := ⟨k - 1, by omega⟩
    simp only [lockgateref1_Name.l0]
    rw [if_pos (by omega), if_pos (by omega)]
    by_cases h0 : bt s (i : Int) = 0
    · rw [if_pos h0]
      have hm := mem_of_bt s i (by omega) 0 h0
      have : ¬ nameOk s = true := fun hh => ((nameOk_iff s).1 hh).2.2.1 hm
      simpa using this
    · rw [if_neg h0]
      by_cases h4 : bt s (i : Int) = 47
      · rw [if_pos h4]
        have hm := mem_of_bt s i (by omega) 47 h4
        have : ¬ nameOk s = true := fun hh => ((nameOk_iff s).1 hh).2.2.2 hm
        simpa using this
      · rw [if_neg h4]
        have h2 : wrap64 ((i : Int) + 1) = ((i + 1 : Nat) : Int) := by unfold wrap64; omega
        rw [h2]
        refine ih k (i + 1) (by omega) hsz (by omega) ?_
        intro j hj hs
        rcases Nat.lt_or_ge j i with hlt | hge
        · exact hno j hlt hs
        · obtain rfl : j = i := by omega
          unfold bt at h0 h4
          rw [Int.toNat_natCast, dif_pos hs] at h0 h4
          exact ⟨fun e => h0 (by rw [e]; rfl), fun e => h4 (by rw [e]; rfl)⟩
theorem ref_name (s : ByteArray) (h : s.size ≤ 100000) (k : Nat) (hk : 100001 ≤ k) : lockgateref1_Name.f k s = some (nameOk s) :=
  name_loop s s.size k 0 (by omega) (by omega) (by omega) (by intro j hj; omega)


theorem alive : lockgatelaw6_alive.f = some true := by decide +kernel

theorem or_join (i : Nat) (x y : Int) (hy₀ : 0 ≤ y) (hy : y % 2 ^ i = 0) (hy₁ : y < 2 ^ 62) (hx₀ : 0 ≤ x) (hx : x < 2 ^ i) (hx₁ : x < 2 ^ 62) : Go.bits .or .i64 x y = x + y := by
  have hc : Go.bits .or .i64 x y = Go.bits .or .i64 y x := by simp only [Go.bits, BitVec.or_comm]
  rw [hc, bits_join .i64 62 (by decide) (fun n h1 h2 => by rw [IntKind.wrap_i64]; omega) i y x hy₀ hy hy₁ hx₀ hx hx₁]
  omega
/-- a number of its four bytes -/
theorem join4 (b0 b1 b2 b3 : Int) (h0 : 0 ≤ b0 ∧ b0 < 256) (h1 : 0 ≤ b1 ∧ b1 < 256) (h2 : 0 ≤ b2 ∧ b2 < 256) (h3 : 0 ≤ b3 ∧ b3 < 256) :
    Go.bits .or .i64 (Go.bits .or .i64 (Go.bits .or .i64 (wrap64 b0) (wrap64 ((wrap64 b1) * 256))) (wrap64 ((wrap64 b2) * 65536))) (wrap64 ((wrap64 b3) * 16777216)) = b0 + b1 * 256 + b2 * 65536 + b3 * 16777216 := by
  have w0 : wrap64 b0 = b0 := by unfold wrap64; omega
  have w1 : wrap64 (wrap64 b1 * 256) = b1 * 256 := by unfold wrap64; omega
  have w2 : wrap64 (wrap64 b2 * 65536) = b2 * 65536 := by unfold wrap64; omega
  have w3 : wrap64 (wrap64 b3 * 16777216) = b3 * 16777216 := by unfold wrap64; omega
  have e1 := or_join 8 b0 (b1 * 256) (by omega) (by omega) (by omega) (by omega) (by omega) (by omega)
  have e2 := or_join 16 (b0 + b1 * 256) (b2 * 65536) (by omega) (by omega) (by omega) (by omega) (by omega) (by omega)
  have e3 := or_join 24 (b0 + b1 * 256 + b2 * 65536) (b3 * 16777216) (by omega) (by omega) (by omega) (by omega) (by omega) (by omega)
  rw [w0, w1, w2, w3, e1, e2, e3]

theorem w5_ (m : Nat) (h : m ≤ 27) : wrap64 (5 + (m : Int)) = ((5 + m : Nat) : Int) := by unfold wrap64; omega
theorem w4_ (m : Nat) (h : m ≤ 27) : wrap64 ((m : Int) % 256) = m := by unfold wrap64; omega
theorem back_ (n : Int) (h : 0 < n ∧ n < 4294967296) : n % 256 + n / 256 % 256 * 256 + n / 65536 % 256 * 65536 + n / 16777216 % 256 * 16777216 = n := by omega
theorem mod_ (m : Int) : 0 ≤ m % 256 ∧ m % 256 < 256 := by omega

theorem str_bytes (s : ByteArray) : strOfNums (bytesOf s) = s := by
  rw [bytesOf, Lib.Lz.strOfNums_map]

def entryBytes (n : Int) (s : ByteArray) : List Int := [n % 256, n / 256 % 256, n / 65536 % 256, n / 16777216 % 256, (s.size : Int) % 256] ++ bytesOf s ++ List.replicate (27 - s.size) 0
theorem pack_ok {n : Int} {s : ByteArray} (h : 0 < n ∧ n < 4294967296) (hs : nameOk s = true) : entry_Pack.f n s = some (entryBytes n s, 0) := by
  rw [entry_Pack.f, if_neg (by omega), if_pos ⟨h.1, h.2, hs⟩]
  rfl
theorem pack_no {n : Int} {s : ByteArray} (h0 : ¬ (n = 0 ∧ s.toList = [])) (h : ¬ (0 < n ∧ n < 4294967296 ∧ nameOk s = true)) : entry_Pack.f n s = some ([], 1) := by
  rw [entry_Pack.f, if_neg h0, if_neg h]
theorem pack_free {n : Int} {s : ByteArray} (h0 : n = 0 ∧ s.toList = []) : entry_Pack.f n s = some (List.replicate 32 0, 0) := by
  rw [entry_Pack.f, if_pos h0]

theorem ref_free (k : Nat) {n : Int} {s : ByteArray} (h0 : n = 0 ∧ s.toList = []) : lockgateref1_PackEntry.f (k + 1) n s = some (List.replicate 32 0, true) := by
  unfold lockgateref1_PackEntry.f
  rw [if_pos h0.1, h0.2]
  simp [lockgateref1_PackEntry.j0]
theorem ref_ok (k : Nat) {n : Int} {s : ByteArray} (h : 0 < n ∧ n < 4294967296) (hs : nameOk s = true) : lockgateref1_PackEntry.f (k + 100010) n s = some (entryBytes n s, true) := by
  have hz := pack_len hs
  unfold lockgateref1_PackEntry.f
  rw [if_neg (by omega)]
  simp only [lockgateref1_PackEntry.j0, Bool.false_eq_true, if_false]
  rw [ref_name s (by omega) (k + 100009) (by omega), hs, Option.bind_some, if_neg (by omega), fits4, decide_eq_true (by omega), Option.bind_some, if_pos rfl]
  simp only [lockgateref1_PackEntry.j1, Bool.not_true, Bool.false_eq_true, if_false]
  rw [put4 (k + 100003) n, Option.bind_some, put1 (k + 100006) _ _ (by simp), Option.bind_some, if_pos (by simp; omega), show (32 : Int) = ((32 : Nat) : Int) from rfl, fill_at _ 32 (by simp [bytesOf_length]; omega) (by omega), Option.bind_some]
  refine congrArg some (Prod.ext ?_ rfl)
  simp only [entryBytes, List.length_append, List.length_cons, List.length_nil, bytesOf_length, List.cons_append, List.nil_append]
  have : 32 - (0 + 1 + 1 + 1 + 1 + 1 + s.size) = 27 - s.size := by omega
  simp [this]
theorem ref_no (k : Nat) {n : Int} {s : ByteArray} (hsz : s.size ≤ 100000) (h0 : ¬ (n = 0 ∧ s.toList = [])) (h : ¬ (0 < n ∧ n < 4294967296 ∧ nameOk s = true)) : lockgateref1_PackEntry.f (k + 100010) n s = some ([], false) := by
  have hj1 : lockgateref1_PackEntry.j1 (k + 100008) true n s = some ([], false) := by simp only [lockgateref1_PackEntry.j1, if_true]
  have hj0 : lockgateref1_PackEntry.j0 (k + 100010) false n s = some ([], false) := by
    simp only [lockgateref1_PackEntry.j0, Bool.false_eq_true, if_false]
    rw [ref_name s hsz (k + 100009) (by omega), Option.bind_some]
    by_cases hn : n = 0
    · rw [if_pos hn]; simp only [lockgateref1_PackEntry.j1, if_true]
    · rw [if_neg hn, fits4, Option.bind_some]
      by_cases hf : 0 ≤ n ∧ n < 4294967296
      · rw [decide_eq_true hf, if_pos rfl]
        have : nameOk s = false := by
          cases hb : nameOk s with
          | false => rfl
          | true => exact absurd ⟨by omega, by omega, hb⟩ h
        rw [this]
        simp only [lockgateref1_PackEntry.j1, Bool.not_false, if_true]
      · rw [decide_eq_false hf, if_neg (by simp)]
        simp only [lockgateref1_PackEntry.j1, if_true]
  unfold lockgateref1_PackEntry.f
  by_cases hn : n = 0
  · have : (s.toList == ([] : List UInt8)) = false := by
      rw [beq_eq_false_iff_ne]
      exact fun e => h0 ⟨hn, e⟩
    rw [if_pos hn, this]
    exact hj0
  · rw [if_neg hn]
    exact hj0


theorem both (k : Nat) (n : Int) (s : ByteArray) (hs : s.size ≤ 100000) : ∃ L e, entry_Pack.f n s = some (L, e) ∧ lockgateref1_PackEntry.f (k + 100010) n s = some (L, e == 0) ∧ (e = 0 ∨ e = 1) := by
  by_cases h0 : n = 0 ∧ s.toList = []
  · exact ⟨_, _, pack_free h0, ref_free (k + 100009) h0, .inl rfl⟩
  · by_cases h1 : 0 < n ∧ n < 4294967296 ∧ nameOk s = true
    · exact ⟨_, _, pack_ok ⟨h1.1, h1.2.1⟩ h1.2.2, ref_ok k ⟨h1.1, h1.2.1⟩ h1.2.2, .inl rfl⟩
    · exact ⟨_, _, pack_no h0 h1, ref_no k hs h0 h1, .inr rfl⟩

theorem or_high (i : Nat) (x y : Int) (hx₀ : 0 ≤ x) (hx : x % 2 ^ i = 0) (hx₁ : x < 2 ^ 62) (hy₀ : 0 ≤ y) (hy : y < 2 ^ i) (hy₁ : y < 2 ^ 62) : Go.bits .or .i64 x y = x + y :=
  bits_join .i64 62 (by decide) (fun n h1 h2 => by rw [IntKind.wrap_i64]; omega) i x y hx₀ hx hx₁ hy₀ hy hy₁

theorem num_step (k : Nat) (l : List Int) (x7 : Int) (j i : Nat) (hj : i = j + 1) (v : Int) (hv : 0 ≤ v ∧ v < 256) (hrd : rd l (j : Int) = v) (hl : l.length = 32) (hi : j < 4) (h7 : 0 ≤ x7 ∧ x7 < 16777216) :
    lockgateref1_num.l0 (k + 1) l 0 x7 (j : Int) = lockgateref1_num.l0 k l 0 (x7 * 256 + v) ((j : Int) - 1) := by
  have w1 : wrap64 (0 + (j : Int)) = j := by unfold wrap64; omega
  have w2 : wrap64 (x7 * 256) = x7 * 256 := by unfold wrap64; omega
  have w3 : wrap64 v = v := by unfold wrap64; omega
  have w4 : wrap64 ((j : Int) - 1) = (j : Int) - 1 := by unfold wrap64; omega
  have ho := or_high 8 (x7 * 256) v (by omega) (by omega) (by omega) (by omega) (by omega) (by omega)
  simp only [lockgateref1_num.l0]
  rw [w1, w2, w4, hrd, w3, ho, if_pos (by omega), if_pos (by omega), if_pos (by omega)]
theorem num_end (k : Nat) (l : List Int) (x7 x8 : Int) (h : x8 = -1) : lockgateref1_num.l0 (k + 1) l 0 x7 x8 = some x7 := by
  subst h
  simp only [lockgateref1_num.l0]
  rw [if_neg (by omega)]
theorem num4 (k : Nat) (l : List Int) (b0 b1 b2 b3 : Int) (hl : l.length = 32) (r0 : rd l 0 = b0) (r1 : rd l 1 = b1) (r2 : rd l 2 = b2) (r3 : rd l 3 = b3)
    (h0 : 0 ≤ b0 ∧ b0 < 256) (h1 : 0 ≤ b1 ∧ b1 < 256) (h2 : 0 ≤ b2 ∧ b2 < 256) (h3 : 0 ≤ b3 ∧ b3 < 256) : lockgateref1_num.f (k + 5) l 0 4 = some (b0 + b1 * 256 + b2 * 65536 + b3 * 16777216) := by
  unfold lockgateref1_num.f
  have e3 := num_step (k + 4) l 0 3 4 rfl b3 h3 r3 hl (by omega) (by omega)
  have e2 := num_step (k + 3) l (0 * 256 + b3) 2 3 rfl b2 h2 r2 hl (by omega) (by omega)
  have e1 := num_step (k + 2) l ((0 * 256 + b3) * 256 + b2) 1 2 rfl b1 h1 r1 hl (by omega) (by omega)
  have e0 := num_step (k + 1) l (((0 * 256 + b3) * 256 + b2) * 256 + b1) 0 1 rfl b0 h0 r0 hl (by omega) (by omega)
  rw [show wrap64 (4 - 1) = ((3 : Nat) : Int) from by decide +kernel, e3, show ((3 : Nat) : Int) - 1 = ((2 : Nat) : Int) from rfl, e2, show ((2 : Nat) : Int) - 1 = ((1 : Nat) : Int) from rfl, e1, show ((1 : Nat) : Int) - 1 = ((0 : Nat) : Int) from rfl, e0, num_end k l _ _ (by omega)]
  refine congrArg some ?_
  omega

theorem rd_rng {l : List Int} (h : ∀ x ∈ l, 0 ≤ x ∧ x < 256) (j : Nat) : 0 ≤ rd l (j : Int) ∧ rd l (j : Int) < 256 := by
  unfold rd
  rw [Int.toNat_natCast, List.getD_eq_getElem?_getD]
  by_cases hj : j < l.length
  · simp only [hj, List.getElem?_eq_getElem, Option.getD_some]; exact h _ (List.getElem_mem hj)
  · simp [List.getElem?_eq_none (Nat.le_of_not_lt hj)]
theorem w5i (m : Int) (h : 0 ≤ m ∧ m ≤ 27) : wrap64 (5 + m) = 5 + m := by unfold wrap64; omega
theorem w1_ (m : Int) (h : 0 ≤ m ∧ m < 256) : wrap64 m = m := by unfold wrap64; omega

/-- the name that a row of 32 bytes has -/
def nameOf (l : List Int) : ByteArray := strOfNums ((l.take (5 + rd l 4).toNat).drop 5)
def numOf (l : List Int) : Int := rd l 0 + rd l 1 * 256 + rd l 2 * 65536 + rd l 3 * 16777216

theorem read_bad (k : Nat) (l : List Int) (h : l.length ≠ 32 ∨ l.length = 32 ∧ 27 < rd l 4) (hb : ∀ x ∈ l, 0 ≤ x ∧ x < 256) : entry_Read.f (k + 1) l = some (0, ⟨#[]⟩, 5) := by
  unfold entry_Read.f
  rcases h with h | ⟨h, h4⟩
  · rw [if_neg (by omega)]
    simp only [entry_Read.j0, if_true]
  · have h4' : wrap64 (rd l 4) > 27 := by rw [show wrap64 (rd l 4) = rd l 4 from w1_ _ (rd_rng hb 4)]; exact h4
    rw [if_pos (by omega), if_pos (by omega), decide_eq_true h4']
    simp only [entry_Read.j0, if_true]
theorem ref_bad (k : Nat) (l : List Int) (h : l.length ≠ 32 ∨ l.length = 32 ∧ 27 < rd l 4) (hb : ∀ x ∈ l, 0 ≤ x ∧ x < 256) : lockgateref1_ReadEntry.f k l = some (0, ⟨#[]⟩, false) := by
  unfold lockgateref1_ReadEntry.f
  rcases h with h | ⟨h, h4⟩
  · rw [if_neg (by omega)]
  · have h4' : wrap64 (rd l 4) > 27 := by rw [show wrap64 (rd l 4) = rd l 4 from w1_ _ (rd_rng hb 4)]; exact h4
    rw [if_pos (by omega), if_pos (by omega), if_pos h4']
theorem read_good (k : Nat) (l : List Int) (h : l.length = 32) (h4 : rd l 4 ≤ 27) (hb : ∀ x ∈ l, 0 ≤ x ∧ x < 256) (L : List Int) (e : Int) (hp : entry_Pack.f (numOf l) (nameOf l) = some (L, e)) :
    entry_Read.f (k + 1) l = if e = 0 then (if ((strOfNums L).toList == (strOfNums l).toList) = true then some (numOf l, nameOf l, 0) else some (0, ⟨#[]⟩, 5)) else some (0, ⟨#[]⟩, 5) := by
  have r4 : 0 ≤ rd l 4 ∧ rd l 4 < 256 := rd_rng hb 4
  have hj := join4 (rd l 0) (rd l 1) (rd l 2) (rd l 3) (rd_rng hb 0) (rd_rng hb 1) (rd_rng hb 2) (rd_rng hb 3)
  have w4 : wrap64 (rd l 4) = rd l 4 := w1_ _ r4
  have w5 : wrap64 (5 + rd l 4) = 5 + rd l 4 := w5i _ ⟨r4.1, h4⟩
  have c1 : (5 : Int) ≤ 5 + rd l 4 := by have := r4.1; generalize rd l 4 = z at *; omega
  have c2 : 5 + rd l 4 ≤ ((32 : Nat) : Int) := by generalize rd l 4 = z at *; omega
  have hd : decide (rd l 4 > 27) = false := decide_eq_false (Int.not_lt.2 h4)
  unfold entry_Read.f
  rw [h, if_pos (show ((32 : Nat) : Int) = 32 from rfl), if_pos (by decide), w4, hd]
  simp only [entry_Read.j0, Bool.false_eq_true, if_false]
  rw [h, w4, w5, hj, if_pos (by decide), if_pos (by decide), if_pos (by decide), if_pos (by decide), if_pos (by decide), if_pos c1, if_pos c2]
  rw [show entry_Pack.f (rd l 0 + rd l 1 * 256 + rd l 2 * 65536 + rd l 3 * 16777216) (strOfNums ((l.take (5 + rd l 4).toNat).drop 5)) = some (L, e) from hp]
  simp only [Option.bind_some, bytes_Equal.f]
  rfl
theorem ref_good (k : Nat) (l : List Int) (h : l.length = 32) (h4 : rd l 4 ≤ 27) (hb : ∀ x ∈ l, 0 ≤ x ∧ x < 256) (L : List Int) (e : Int) (hp : lockgateref1_PackEntry.f (k + 5) (numOf l) (nameOf l) = some (L, e == 0)) :
    lockgateref1_ReadEntry.f (k + 5) l = if (e == 0) = true then (if (strOfNums L).toList = (strOfNums l).toList then some (numOf l, nameOf l, true) else some (0, ⟨#[]⟩, false)) else some (0, ⟨#[]⟩, false) := by
  have r4 : 0 ≤ rd l 4 ∧ rd l 4 < 256 := rd_rng hb 4
  have w4 : wrap64 (rd l 4) = rd l 4 := w1_ _ r4
  have w5 : wrap64 (5 + rd l 4) = 5 + rd l 4 := w5i _ ⟨r4.1, h4⟩
  have c1 : (5 : Int) ≤ 5 + rd l 4 := by have := r4.1; generalize rd l 4 = z at *; omega
  have c2 : 5 + rd l 4 ≤ ((32 : Nat) : Int) := by generalize rd l 4 = z at *; omega
  have hn := num4 k l (rd l 0) (rd l 1) (rd l 2) (rd l 3) h rfl rfl rfl rfl (rd_rng hb 0) (rd_rng hb 1) (rd_rng hb 2) (rd_rng hb 3)
  unfold lockgateref1_ReadEntry.f
  rw [h, if_pos (show ((32 : Nat) : Int) = 32 from rfl), if_pos (by decide), w4, if_neg (Int.not_lt.2 h4), hn, Option.bind_some, w5, if_pos c1, if_pos c2]
  rw [show lockgateref1_PackEntry.f (k + 5) (rd l 0 + rd l 1 * 256 + rd l 2 * 65536 + rd l 3 * 16777216) (strOfNums ((l.take (5 + rd l 4).toNat).drop 5)) = some (L, e == 0) from hp]
  rw [Option.bind_some]
  rfl

theorem EntryReads : lockgatelaw6_EntryReads.Pure := by
  intro l _ _ hu
  have hb : ∀ x ∈ l, 0 ≤ x ∧ x < 256 := fun x hx => by have := bounds_u8 (hu x hx); omega
  refine ⟨100021, ?_⟩
  unfold lockgatelaw6_EntryReads.f
  rw [alive, Option.bind_some, if_pos rfl]
  by_cases hs : (l.length : Int) > 500
  · rw [decide_eq_true hs]; simp only [lockgatelaw6_EntryReads.j0, if_true]
  rw [decide_eq_false hs]
  simp only [lockgatelaw6_EntryReads.j0, Bool.false_eq_true, if_false, List.nil_append]
  rw [if_pos (by simp; omega)]
  have hnone : ∀ e1 e2, entry_Read.f 100020 l = some (0, ⟨#[]⟩, 5) → lockgateref1_ReadEntry.f 100020 l = some (0, ⟨#[]⟩, false) → e1 = entry_Read.f 100020 l → e2 = lockgateref1_ReadEntry.f 100020 l →
      (e1.bind fun bt162 => (e2.bind fun bt166 => ((lockgatelaw6_num.f bt162.2.2).bind fun t170 => (if ((t170 == 0) != bt166.2.2) = true then (lockgatelaw6_EntryReads.j1 100020 l bt166.2.2 true bt162.1 bt162.2.1) else (if bt166.2.2 = true then (lockgatelaw6_EntryReads.j1 100020 l bt166.2.2 (!(bt162.1 == bt166.1) || (!(bt162.2.1.toList == bt166.2.1.toList))) bt162.1 bt162.2.1) else ((lockgatelaw6_num.f bt162.2.2).bind fun t171 => (if t171 = 5 then (lockgatelaw6_EntryReads.j1 100020 l bt166.2.2 (!(bt162.1 == bt166.1) || (!(bt162.2.1.toList == bt166.2.1.toList))) bt162.1 bt162.2.1) else (lockgatelaw6_EntryReads.j1 100020 l bt166.2.2 true bt162.1 bt162.2.1)))))))) = some true := by
    rintro _ _ h1 h2 rfl rfl
    rw [h1, h2]
    simp [lockgatelaw6_num.f, lockgatelaw6_EntryReads.j1]
  by_cases hbad : l.length ≠ 32 ∨ l.length = 32 ∧ 27 < rd l 4
  · exact hnone _ _ (read_bad 100019 l hbad hb) (ref_bad 100020 l hbad hb) rfl rfl
  have h32 : l.length = 32 := Classical.byContradiction fun hh => hbad (.inl hh)
  have h4 : rd l 4 ≤ 27 := Classical.byContradiction fun hh => hbad (.inr ⟨h32, Int.not_le.1 hh⟩)
  have hsz : (nameOf l).size ≤ 100000 := by
    unfold nameOf
    rw [strOfNums_size, List.length_drop, List.length_take]
    omega
  obtain ⟨L, e, hp, hr, he⟩ := both 10 (numOf l) (nameOf l) hsz
  have e1 := read_good 100019 l h32 h4 hb L e hp
  have e2 := ref_good 100015 l h32 h4 hb L e hr
  by_cases h0 : e = 0
  · subst h0
    by_cases hst : (strOfNums L).toList = (strOfNums l).toList
    · rw [if_pos rfl, if_pos (beq_iff_eq.2 hst)] at e1
      rw [if_pos (by decide), if_pos hst] at e2
      rw [e1, e2]
      simp [lockgatelaw6_num.f, lockgatelaw6_EntryReads.j1, hp, hst]
    · rw [if_pos rfl, if_neg (by rw [beq_iff_eq]; exact hst)] at e1
      rw [if_pos (by decide), if_neg hst] at e2
      exact hnone _ _ e1 e2 rfl rfl
  · rw [if_neg h0] at e1
    rw [if_neg (by rw [beq_iff_eq]; exact h0)] at e2
    exact hnone _ _ e1 e2 rfl rfl

end Go.Proofs.Ythhhklihggpldaa.Pure
