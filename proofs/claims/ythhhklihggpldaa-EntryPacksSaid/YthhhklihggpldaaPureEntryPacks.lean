/- EntryPacks: the bytes of every entry, or that it has none, and that they are read as it; for every number and name; no condition. -/
import Derived.Test.YthhhklihggpldaaPEntryPacksx
import Derived.Test.YthhhklihggpldaaPlain
import Derived.Laws.Bits128
import Derived.Lib.LazyBuf
import Derived.OpenShut
namespace Go.Proofs.Ythhhklihggpldaa.Pure
open Go.RowKit Go.Proofs.Ythhhklihggpldaa.PEntryPacks Go.Proofs.Ythhhklihggpldaa.Given Go.Proofs.YthhhklihggpldaaW.PrintWords Go.Proofs.YthhhklihggpldaaW.PrintLast
set_option linter.unusedVariables false
set_option linter.unusedSimpArgs false

theorem and255 (n : Int) : Go.bits .and .i64 n 255 = n % 256 := by
  have h255 : (BitVec.ofInt 64 255).toNat = 2 ^ 8 - 1 := by decide
  have key : (BitVec.ofInt 64 n &&& BitVec.ofInt 64 255).toNat = (n % ((2 ^ 64 : Nat) : Int)).toNat % 2 ^ 8 := by
    rw [BitVec.toNat_and, BitVec.toNat_ofInt, h255, Nat.and_two_pow_sub_one_eq_mod]
  show IntKind.i64.wrap ((BitVec.ofInt 64 n &&& BitVec.ofInt 64 255).toNat : Nat) = n % 256
  rw [key, IntKind.wrap_i64]
  omega

theorem fits4 (n : Int) : lockgateref1_fits.f n 4 = some (decide (0 ≤ n ∧ n < 4294967296)) := by
  unfold lockgateref1_fits.f
  have h1 : (IntKind.u64.wrap (wrap64 (8 * 4))) = 32 := by decide +kernel
  have h2 : shl .i64 1 32 = 4294967296 := by decide +kernel
  rw [h1]
  by_cases h : n ≥ 0
  · rw [if_pos h, if_pos (by decide), h2]
    exact congrArg some (decide_eq_decide.2 (by omega))
  · rw [if_neg h, decide_eq_false (by omega)]

theorem put_step (k : Nat) (x0 : List Int) (n x2 : Int) (i j s : Nat) (hj : j = i + 1) (hs : s = 8 * i) (hi : i < 8) (h : (i : Int) < x2) (hl : x0.length < 100000) : lockgateref1_put.l0 (k + 1) x0 n x2 i = lockgateref1_put.l0 k (x0 ++ [n / 2 ^ s % 256]) n x2 j := by
  subst hj hs
  have h1 : IntKind.u64.wrap (wrap64 (8 * (i : Int))) = ((8 * i : Nat) : Int) := by
    have : ∀ i : Fin 8, IntKind.u64.wrap (wrap64 (8 * (i.val : Int))) = ((8 * i.val : Nat) : Int) := by decide +kernel
    exact this ⟨i, hi⟩
  have h2 : wrap64 ((i : Int) + 1) = ((i + 1 : Nat) : Int) := by unfold wrap64; omega
  have h3 : shr .i64 n ((8 * i : Nat) : Int) = n / 2 ^ (8 * i) := by
    unfold shr
    have : min (((8 * i : Nat) : Int)).toNat IntKind.i64.bits = 8 * i := by
      have : IntKind.i64.bits = 64 := rfl
      rw [this, Int.toNat_natCast]
      omega
    rw [this]
  simp only [lockgateref1_put.l0]
  rw [if_pos h, h1, h2, if_pos (by omega), if_pos (by omega), h3, and255]
  simp
theorem put_end (k : Nat) (x0 : List Int) (n x2 : Int) (i : Nat) (h : ¬ (i : Int) < x2) : lockgateref1_put.l0 (k + 1) x0 n x2 i = some x0 := by
  simp only [lockgateref1_put.l0]
  rw [if_neg h]
theorem put4 (k : Nat) (n : Int) : lockgateref1_put.f (k + 5) [] n 4 = some [n % 256, n / 256 % 256, n / 65536 % 256, n / 16777216 % 256] := by
  unfold lockgateref1_put.f
  have := put_step (k + 4) [] n 4 0 1 0 rfl rfl (by omega) (by omega) (by simp)
  rw [Int.natCast_zero] at this
  rw [this, put_step (k + 3) _ n 4 1 2 8 rfl rfl (by omega) (by omega) (by simp), put_step (k + 2) _ n 4 2 3 16 rfl rfl (by omega) (by omega) (by simp), put_step (k + 1) _ n 4 3 4 24 rfl rfl (by omega) (by omega) (by simp), put_end k _ n 4 4 (by omega)]
  simp
theorem put1 (k : Nat) (xs : List Int) (n : Int) (h : xs.length < 100000) : lockgateref1_put.f (k + 2) xs n 1 = some (xs ++ [n % 256]) := by
  unfold lockgateref1_put.f
  have := put_step (k + 1) xs n 1 0 1 0 rfl rfl (by omega) (by omega) h
  rw [Int.natCast_zero] at this
  rw [this, put_end k _ n 1 1 (by omega)]
  simp
theorem fill_at (xs : List Int) (n : Nat) (h : xs.length ≤ n) (hn : n < 100000) : lockgateref1_fill.f xs n = some (xs ++ List.replicate (n - xs.length) 0) := by
  unfold lockgateref1_fill.f
  have : wrap64 ((n : Int) - (xs.length : Int)) = ((n - xs.length : Nat) : Int) := by unfold wrap64; omega
  rw [this, if_pos (by omega), Int.toNat_natCast, if_pos (by omega)]

theorem nameOk_iff (s : ByteArray) : nameOk s = true ↔ s.toList ≠ [] ∧ s.size ≤ 27 ∧ (0 : UInt8) ∉ s.data.toList ∧ (47 : UInt8) ∉ s.data.toList := by
  have i0 := ix_neg 0 s.data.toList
  have i1 := ix_neg 47 s.data.toList
  simp only [nameOk, Bool.and_eq_true, decide_eq_true_eq, i0, i1]
  have : ((!s.toList.isEmpty) = true) ↔ s.toList ≠ [] := by cases s.toList <;> simp
  rw [this]
  constructor
  · rintro ⟨⟨⟨a, b⟩, c⟩, d⟩
    exact ⟨a, by omega, c, d⟩
  · rintro ⟨a, b, c, d⟩
    exact ⟨⟨⟨a, by omega⟩, c⟩, d⟩
theorem mem_of_bt (s : ByteArray) (i : Nat) (hi : i < s.size) (c : UInt8) (h : bt s (i : Int) = (c.toNat : Int)) : c ∈ s.data.toList := by
  unfold bt at h
  rw [Int.toNat_natCast, dif_pos hi] at h
  have : s[i] = c := UInt8.toNat_inj.1 (by omega)
  rw [← this]
  exact Array.getElem_mem_toList (xs := s.data) hi
theorem name_loop (s : ByteArray) (d : Nat) : ∀ (k i : Nat), i + d = s.size → s.size < 1000000 → d < k → (∀ j (hj : j < i) (hs : j < s.size), s[j] ≠ 0 ∧ s[j] ≠ 47) → lockgateref1_Name.l0 k s i = some (nameOk s) := by
  induction d with
  | zero =>
    intro k i h hsz hk hno
    obtain ⟨k, rfl⟩ : ∃ m, k = m + 1 := ⟨k - 1, by omega⟩
    have hmem : ∀ c, c ∈ s.data.toList → c ≠ 0 ∧ c ≠ 47 := by
      intro c hc
      obtain ⟨j, hj, e⟩ := List.getElem_of_mem hc
      have hj' : j < s.size := by simpa using hj
      have := hno j (by omega) hj'
      have e2 : s[j] = c := by rw [← e]; rfl
      rwa [e2] at this
    simp only [lockgateref1_Name.l0]
    rw [if_neg (by omega)]
    by_cases h1 : s.toList = ([] : List UInt8)
    · rw [if_pos h1]
      have : ¬ nameOk s = true := fun hh => ((nameOk_iff s).1 hh).1 h1
      simpa using this
    · rw [if_neg h1]
      refine congrArg some ?_
      rw [Bool.eq_iff_iff, nameOk_iff, decide_eq_true_eq]
      exact ⟨fun hh => ⟨h1, by omega, fun hc => (hmem _ hc).1 rfl, fun hc => (hmem _ hc).2 rfl⟩, fun hh => by omega⟩
  | succ d ih =>
    intro k i h hsz hk hno
    obtain ⟨k, rfl⟩ : ∃ m, k = m + 1 := ⟨k - 1, by omega⟩
    simp only [lockgateref1_Name.l0]
    rw [if_pos (by omega), if_pos (by omega)]
    by_cases h0 : bt s (i : Int) = 0
    · rw [if_pos h0]
      have hm := mem_of_bt s i (by omega) 0 h0
      have : ¬ nameOk s = true := fun hh => ((nameOk_iff s).1 hh).2.2.1 hm
      simpa using this
    · rw [if_neg h0]
      by_cases h4 : bt s (i : Int) = 47
      · rw [if_pos h4]
        have hm := mem_of_bt s i (by omega) 47 h4
        have : ¬ nameOk s = true := fun hh => ((nameOk_iff s).1 hh).2.2.2 hm
        simpa using this
      · rw [if_neg h4]
        have h2 : wrap64 ((i : Int) + 1) = ((i + 1 : Nat) : Int) := by unfold wrap64; omega
        rw [h2]
        refine ih k (i + 1) (by omega) hsz (by omega) ?_
        intro j hj hs
        rcases Nat.lt_or_ge j i with hlt | hge
        · exact hno j hlt hs
        · obtain rfl : j = i := by omega
          unfold bt at h0 h4
          rw [Int.toNat_natCast, dif_pos hs] at h0 h4
          exact ⟨fun e => h0 (by rw [e]; rfl), fun e => h4 (by rw [e]; rfl)⟩
theorem ref_name (s : ByteArray) (h : s.size ≤ 100000) (k : Nat) (hk : 100001 ≤ k) : lockgateref1_Name.f k s = some (nameOk s) :=
  name_loop s s.size k 0 (by omega) (by omega) (by omega) (by intro j hj; omega)


theorem alive : lockgatelaw6_alive.f = some true := by decide +kernel

theorem or_join (i : Nat) (x y : Int) (hy₀ : 0 ≤ y) (hy : y % 2 ^ i = 0) (hy₁ : y < 2 ^ 62) (hx₀ : 0 ≤ x) (hx : x < 2 ^ i) (hx₁ : x < 2 ^ 62) : Go.bits .or .i64 x y = x + y := by
  have hc : Go.bits .or .i64 x y = Go.bits .or .i64 y x := by simp only [Go.bits, BitVec.or_comm]
  rw [hc, bits_join .i64 62 (by decide) (fun n h1 h2 => by rw [IntKind.wrap_i64]; omega) i y x hy₀ hy hy₁ hx₀ hx hx₁]
  omega
/-- a number of its four bytes -/
theorem join4 (b0 b1 b2 b3 : Int) (h0 : 0 ≤ b0 ∧ b0 < 256) (h1 : 0 ≤ b1 ∧ b1 < 256) (h2 : 0 ≤ b2 ∧ b2 < 256) (h3 : 0 ≤ b3 ∧ b3 < 256) :
    Go.bits .or .i64 (Go.bits .or .i64 (Go.bits .or .i64 (wrap64 b0) (wrap64 ((wrap64 b1) * 256))) (wrap64 ((wrap64 b2) * 65536))) (wrap64 ((wrap64 b3) * 16777216)) = b0 + b1 * 256 + b2 * 65536 + b3 * 16777216 := by
  have w0 : wrap64 b0 = b0 := by unfold wrap64; omega
  have w1 : wrap64 (wrap64 b1 * 256) = b1 * 256 := by unfold wrap64; omega
  have w2 : wrap64 (wrap64 b2 * 65536) = b2 * 65536 := by unfold wrap64; omega
  have w3 : wrap64 (wrap64 b3 * 16777216) = b3 * 16777216 := by unfold wrap64; omega
  have e1 := or_join 8 b0 (b1 * 256) (by omega) (by omega) (by omega) (by omega) (by omega) (by omega)
  have e2 := or_join 16 (b0 + b1 * 256) (b2 * 65536) (by omega) (by omega) (by omega) (by omega) (by omega) (by omega)
  have e3 := or_join 24 (b0 + b1 * 256 + b2 * 65536) (b3 * 16777216) (by omega) (by omega) (by omega) (by omega) (by omega) (by omega)
  rw [w0, w1, w2, w3, e1, e2, e3]

theorem w5_ (m : Nat) (h : m ≤ 27) : wrap64 (5 + (m : Int)) = ((5 + m : Nat) : Int) := by unfold wrap64; omega
theorem w4_ (m : Nat) (h : m ≤ 27) : wrap64 ((m : Int) % 256) = m := by unfold wrap64; omega
theorem back_ (n : Int) (h : 0 < n ∧ n < 4294967296) : n % 256 + n / 256 % 256 * 256 + n / 65536 % 256 * 65536 + n / 16777216 % 256 * 16777216 = n := by omega
theorem mod_ (m : Int) : 0 ≤ m % 256 ∧ m % 256 < 256 := by omega

theorem str_bytes (s : ByteArray) : strOfNums (bytesOf s) = s := by
  rw [bytesOf, Lib.Lz.strOfNums_map]

def entryBytes (n : Int) (s : ByteArray) : List Int := [n % 256, n / 256 % 256, n / 65536 % 256, n / 16777216 % 256, (s.size : Int) % 256] ++ bytesOf s ++ List.replicate (27 - s.size) 0
theorem pack_ok {n : Int} {s : ByteArray} (h : 0 < n ∧ n < 4294967296) (hs : nameOk s = true) : entry_Pack.f n s = some (entryBytes n s, 0) := by
  rw [entry_Pack.f, if_neg (by omega), if_pos ⟨h.1, h.2, hs⟩]
  rfl
theorem pack_no {n : Int} {s : ByteArray} (h0 : ¬ (n = 0 ∧ s.toList = [])) (h : ¬ (0 < n ∧ n < 4294967296 ∧ nameOk s = true)) : entry_Pack.f n s = some ([], 1) := by
  rw [entry_Pack.f, if_neg h0, if_neg h]
theorem pack_free {n : Int} {s : ByteArray} (h0 : n = 0 ∧ s.toList = []) : entry_Pack.f n s = some (List.replicate 32 0, 0) := by
  rw [entry_Pack.f, if_pos h0]

theorem ref_free (k : Nat) {n : Int} {s : ByteArray} (h0 : n = 0 ∧ s.toList = []) : lockgateref1_PackEntry.f (k + 1) n s = some (List.replicate 32 0, true) := by
  unfold lockgateref1_PackEntry.f
  rw [if_pos h0.1, h0.2]
  simp [lockgateref1_PackEntry.j0]
theorem ref_ok (k : Nat) {n : Int} {s : ByteArray} (h : 0 < n ∧ n < 4294967296) (hs : nameOk s = true) : lockgateref1_PackEntry.f (k + 100010) n s = some (entryBytes n s, true) := by
  have hz := pack_len hs
  unfold lockgateref1_PackEntry.f
  rw [if_neg (by omega)]
  simp only [lockgateref1_PackEntry.j0, Bool.false_eq_true, if_false]
  rw [ref_name s (by omega) (k + 100009) (by omega), hs, Option.bind_some, if_neg (by omega), fits4, decide_eq_true (by omega), Option.bind_some, if_pos rfl]
  simp only [lockgateref1_PackEntry.j1, Bool.not_true, Bool.false_eq_true, if_false]
  rw [put4 (k + 100003) n, Option.bind_some, put1 (k + 100006) _ _ (by simp), Option.bind_some, if_pos (by simp; omega), show (32 : Int) = ((32 : Nat) : Int) from rfl, fill_at _ 32 (by simp [bytesOf_length]; omega) (by omega), Option.bind_some]
  refine congrArg some (Prod.ext ?_ rfl)
  simp only [entryBytes, List.length_append, List.length_cons, List.length_nil, bytesOf_length, List.cons_append, List.nil_append]
  have : 32 - (0 + 1 + 1 + 1 + 1 + 1 + s.size) = 27 - s.size := by omega
  simp [this]
theorem ref_no (k : Nat) {n : Int} {s : ByteArray} (hsz : s.size ≤ 100000) (h0 : ¬ (n = 0 ∧ s.toList = [])) (h : ¬ (0 < n ∧ n < 4294967296 ∧ nameOk s = true)) : lockgateref1_PackEntry.f (k + 100010) n s = some ([], false) := by
  have hj1 : lockgateref1_PackEntry.j1 (k + 100008) true n s = some ([], false) := by simp only [lockgateref1_PackEntry.j1, if_true]
  have hj0 : lockgateref1_PackEntry.j0 (k + 100010) false n s = some ([], false) := by
    simp only [lockgateref1_PackEntry.j0, Bool.false_eq_true, if_false]
    rw [ref_name s hsz (k + 100009) (by omega), Option.bind_some]
    by_cases hn : n = 0
    · rw [if_pos hn]; simp only [lockgateref1_PackEntry.j1, if_true]
    · rw [if_neg hn, fits4, Option.bind_some]
      by_cases hf : 0 ≤ n ∧ n < 4294967296
      · rw [decide_eq_true hf, if_pos rfl]
        have : nameOk s = false := by
          cases hb : nameOk s with
          | false => rfl
          | true => exact absurd ⟨by omega, by omega, hb⟩ h
        rw [this]
        simp only [lockgateref1_PackEntry.j1, Bool.not_false, if_true]
      · rw [decide_eq_false hf, if_neg (by simp)]
        simp only [lockgateref1_PackEntry.j1, if_true]
  unfold lockgateref1_PackEntry.f
  by_cases hn : n = 0
  · have : (s.toList == ([] : List UInt8)) = false := by
      rw [beq_eq_false_iff_ne]
      exact fun e => h0 ⟨hn, e⟩
    rw [if_pos hn, this]
    exact hj0
  · rw [if_neg hn]
    exact hj0

/-- what is packed is read -/
theorem read_ok (k : Nat) {n : Int} {s : ByteArray} (h : 0 < n ∧ n < 4294967296) (hs : nameOk s = true) : entry_Read.f (k + 1) (entryBytes n s) = some (n, s, 0) := by
  have hz := pack_len hs
  have hlen : (entryBytes n s).length = 32 := by
    simp only [entryBytes, List.length_append, List.length_cons, List.length_nil, bytesOf_length, List.length_replicate]
    omega
  have r0 : rd (entryBytes n s) 0 = n % 256 := rfl
  have r1 : rd (entryBytes n s) 1 = n / 256 % 256 := rfl
  have r2 : rd (entryBytes n s) 2 = n / 65536 % 256 := rfl
  have r3 : rd (entryBytes n s) 3 = n / 16777216 % 256 := rfl
  have r4 : rd (entryBytes n s) 4 = (s.size : Int) % 256 := rfl
  have w4 := w4_ s.size hz
  have w5 := w5_ s.size hz
  have hcut : ((entryBytes n s).take (5 + s.size)).drop 5 = bytesOf s := by
    have e : entryBytes n s = [n % 256, n / 256 % 256, n / 65536 % 256, n / 16777216 % 256, (s.size : Int) % 256] ++ (bytesOf s ++ List.replicate (27 - s.size) 0) := by simp [entryBytes]
    rw [e, List.drop_take, List.drop_append_of_le_length (by simp)]
    simp only [List.drop_of_length_le (show ([n % 256, n / 256 % 256, n / 65536 % 256, n / 16777216 % 256, (s.size : Int) % 256] : List Int).length ≤ 5 by simp), List.nil_append]
    rw [show 5 + s.size - 5 = (bytesOf s).length from (Nat.add_sub_cancel_left 5 s.size).trans (bytesOf_length s).symm, List.take_left]
  have hj := join4 (n % 256) (n / 256 % 256) (n / 65536 % 256) (n / 16777216 % 256) (mod_ _) (mod_ _) (mod_ _) (mod_ _)
  have hn := back_ n h
  rw [hn] at hj
  unfold entry_Read.f
  have hd : decide ((s.size : Int) > 27) = false := decide_eq_false (fun hh => absurd hz (Nat.not_le.2 (Int.ofNat_lt.1 hh)))
  rw [hlen, if_pos (show ((32 : Nat) : Int) = 32 from rfl), if_pos (by decide), r4, w4, hd]
  simp only [entry_Read.j0, Bool.false_eq_true, if_false]
  rw [hlen, r0, r1, r2, r3, r4, w4, w5, if_pos (by decide), if_pos (by decide), if_pos (by decide), if_pos (by decide), if_pos (by decide), if_pos (show (5 : Int) ≤ ((5 + s.size : Nat) : Int) from Int.ofNat_le.2 (Nat.le_add_right 5 s.size)), if_pos (show ((5 + s.size : Nat) : Int) ≤ ((32 : Nat) : Int) from Int.ofNat_le.2 (Nat.add_le_add_left hz 5)), Int.toNat_natCast, hcut, str_bytes, hj, pack_ok h hs, Option.bind_some, if_pos rfl]
  simp [bytes_Equal.f]
theorem read_free (k : Nat) : entry_Read.f (k + 1) (List.replicate 32 0) = some (0, ⟨#[]⟩, 0) := by
  have hd : entry_Read.j0 (k + 1) (List.replicate 32 0) false = entry_Read.j0 1 (List.replicate 32 0) false := rfl
  have : entry_Read.f (k + 1) (List.replicate 32 0) = entry_Read.f 1 (List.replicate 32 0) := by
    unfold entry_Read.f
    have e : (decide ((wrap64 (rd (List.replicate 32 (0 : Int)) 4)) > 27)) = false := by decide +kernel
    rw [e, hd]
    rfl
  rw [this]
  decide +kernel

theorem EntryPacks : ∀ (a0_0 : Int) (a0_1 : ByteArray), (Lit.int .i64 a0_0).wf = true → a0_1.size ≤ maxLen → ∃ k, lockgatelaw6_EntryPacks.f k a0_0 a0_1 = some true := by
  intro n s _ _
  refine ⟨100020, ?_⟩
  unfold lockgatelaw6_EntryPacks.f
  rw [alive, Option.bind_some, if_pos rfl]
  by_cases hs : (s.size : Int) > 1000
  · rw [decide_eq_true hs]; simp only [lockgatelaw6_EntryPacks.j0, if_true]
  rw [decide_eq_false hs]
  have hnm := ref_name s (by omega) 100019 (by omega)
  simp only [lockgatelaw6_EntryPacks.j0, Bool.false_eq_true, if_false]
  by_cases h0 : n = 0 ∧ s.toList = []
  · rw [pack_free h0, ref_free 100018 h0, hnm]
    simp only [Option.bind_some, lockgatelaw6_num.f, entry_Name.f]
    have hr := read_free 100017
    obtain ⟨rfl, h1⟩ := h0
    rw [if_neg (by decide), if_pos trivial, if_pos trivial]
    simp only [lockgatelaw6_EntryPacks.j1, bne_self_eq_false, Bool.false_eq_true, if_false]
    rw [if_pos trivial, hr, Option.bind_some, h1]
    decide +kernel
  by_cases h1 : 0 < n ∧ n < 4294967296 ∧ nameOk s = true
  · rw [pack_ok ⟨h1.1, h1.2.1⟩ h1.2.2, ref_ok 9 ⟨h1.1, h1.2.1⟩ h1.2.2, hnm]
    simp only [Option.bind_some, lockgatelaw6_num.f, entry_Name.f]
    have hr := read_ok 100017 ⟨h1.1, h1.2.1⟩ h1.2.2
    simp [lockgatelaw6_EntryPacks.j1, hr, lockgatelaw6_num.f]
  · rw [pack_no h0 h1, ref_no 9 (by omega) h0 h1, hnm]
    simp only [Option.bind_some, lockgatelaw6_num.f, entry_Name.f]
    simp [lockgatelaw6_EntryPacks.j1, lockgatelaw6_num.f]

end Go.Proofs.Ythhhklihggpldaa.Pure
