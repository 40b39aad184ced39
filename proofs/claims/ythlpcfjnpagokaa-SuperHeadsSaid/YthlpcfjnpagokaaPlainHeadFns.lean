/- Plain facts of super's functions, as the printed texts of HeadFns have them: numbers and lists alone. -/
import Derived.Test.YthlpcfjnpagokaaPHeadFnsx6
import Derived.Laws.BitsAllLaws
import Derived.Laws.Bits128
import Derived.Lib.LazyBuf
import Derived.OpenShut
namespace Go.Proofs.Ythlpcfjnpagokaa.PlainHeadFns
open Go.RowKit Go.Proofs.Ythlpcfjnpagokaa.PHeadFns Go.Proofs.Ythlpcfjnpagokaa.Given Go.Proofs.YthlpcfjnpagokaaW.PrintWords Go.Proofs.YthlpcfjnpagokaaW.PrintLast
set_option linter.unusedVariables false
set_option linter.unusedSimpArgs false

theorem and255 (n : Int) : Go.bits .and .i64 n 255 = n % 256 := by
  have h255 : (BitVec.ofInt 64 255).toNat = 2 ^ 8 - 1 := by decide
  have key : (BitVec.ofInt 64 n &&& BitVec.ofInt 64 255).toNat = (n % ((2 ^ 64 : Nat) : Int)).toNat % 2 ^ 8 := by
    rw [BitVec.toNat_and, BitVec.toNat_ofInt, h255, Nat.and_two_pow_sub_one_eq_mod]
  show IntKind.i64.wrap ((BitVec.ofInt 64 n &&& BitVec.ofInt 64 255).toNat : Nat) = n % 256
  rw [key, IntKind.wrap_i64]
  omega
theorem put_step (k : Nat) (x0 : List Int) (n x2 : Int) (i j s : Nat) (hj : j = i + 1) (hs : s = 8 * i) (hi : i < 8) (h : (i : Int) < x2) (hl : x0.length < 100000) : lockgateref1_put.l0 (k + 1) x0 n x2 i = lockgateref1_put.l0 k (x0 ++ [n / 2 ^ s % 256]) n x2 j := by
  subst hj hs
  have h1 : IntKind.u64.wrap (wrap64 (8 * (i : Int))) = ((8 * i : Nat) : Int) := by
    have : ∀ i : Fin 8, IntKind.u64.wrap (wrap64 (8 * (i.val : Int))) = ((8 * i.val : Nat) : Int) := by decide +kernel
    exact this ⟨i, hi⟩
  have h2 : wrap64 ((i : Int) + 1) = ((i + 1 : Nat) : Int) := by unfold wrap64; omega
  have h3 : shr .i64 n ((8 * i : Nat) : Int) = n / 2 ^ (8 * i) := by
    unfold shr
    have : min (((8 * i : Nat) : Int)).toNat IntKind.i64.bits = 8 * i := by
      have : IntKind.i64.bits = 64 := rfl
      rw [this, Int.toNat_natCast]
      omega
    rw [this]
  simp only [lockgateref1_put.l0]
  rw [if_pos h, h1, h2, if_pos (by omega), if_pos (by omega), h3, and255]
  simp
theorem put4 (k : Nat) (xs : List Int) (n : Int) (h : xs.length < 90000) : lockgateref1_put.f (k + 5) xs n 4 = some (xs ++ num4 n) := by
  unfold lockgateref1_put.f
  have := put_step (k + 4) xs n 4 0 1 0 rfl rfl (by omega) (by omega) (by omega)
  rw [Int.natCast_zero] at this
  rw [this, put_step (k + 3) _ n 4 1 2 8 rfl rfl (by omega) (by omega) (by simp; omega), put_step (k + 2) _ n 4 2 3 16 rfl rfl (by omega) (by omega) (by simp; omega), put_step (k + 1) _ n 4 3 4 24 rfl rfl (by omega) (by omega) (by simp; omega)]
  simp only [lockgateref1_put.l0]
  rw [if_neg (by omega)]
  simp [num4]
theorem fill_at (xs : List Int) (n : Nat) (h : xs.length ≤ n) (hn : n < 100000) : lockgateref1_fill.f xs n = some (xs ++ List.replicate (n - xs.length) 0) := by
  unfold lockgateref1_fill.f
  have : wrap64 ((n : Int) - (xs.length : Int)) = ((n - xs.length : Nat) : Int) := by unfold wrap64; omega
  rw [this, if_pos (by omega), Int.toNat_natCast, if_pos (by omega)]
theorem good_is (g i d : Int) : lockgateref1_Good.f g i d = some (decide (Fine g i d)) := by
  unfold lockgateref1_Good.f
  by_cases hf : Fine g i d
  · rw [decide_eq_true hf]
    obtain ⟨h1, h2, h3, h4, h5, h6⟩ := hf
    rw [if_pos h1, if_pos h2, if_pos h3, if_pos h4, if_pos h5, decide_eq_true h6]
  · rw [decide_eq_false hf]
    unfold Fine at hf
    (repeat' split) <;> first | rfl | (refine congrArg some (decide_eq_false ?_); omega)
theorem wrap_id (z : Int) (h : 0 ≤ z ∧ z < 1000000000) : wrap64 z = z := by unfold wrap64; omega
theorem body_len (g i d : Int) : (superBody g i d).length = 20 := rfl
theorem bytes_len (g i d : Int) : (superBytes g i d).length = 1024 := by
  unfold superBytes
  rw [List.length_append, List.length_append, body_len, List.length_replicate]
  rfl
theorem sum_small (g i d : Int) : 0 ≤ (superBody g i d).sum ∧ (superBody g i d).sum < 10000 := by
  have := sum_rng (superBody g i d) (body_rng g i d) 20 (by rw [body_len]; omega)
  rw [show (superBody g i d).take 20 = superBody g i d from List.take_of_length_le (by rw [body_len]; omega)] at this
  omega
theorem bytes_rng (g i d : Int) : ∀ x ∈ superBytes g i d, 0 ≤ x ∧ x < 256 := by
  intro x hx
  simp only [superBytes, List.mem_append, List.mem_replicate] at hx
  rcases hx with (hx | hx) | hx
  · exact body_rng _ _ _ x hx
  · exact num4_rng _ x hx
  · omega

/-! a number of its four bytes -/
theorem or_high (i : Nat) (x y : Int) (hx₀ : 0 ≤ x) (hx : x % 2 ^ i = 0) (hx₁ : x < 2 ^ 62) (hy₀ : 0 ≤ y) (hy : y < 2 ^ i) (hy₁ : y < 2 ^ 62) : Go.bits .or .i64 x y = x + y :=
  bits_join .i64 62 (by decide) (fun n h1 h2 => by rw [IntKind.wrap_i64]; omega) i x y hx₀ hx hx₁ hy₀ hy hy₁
theorem or_join (i : Nat) (x y : Int) (hy₀ : 0 ≤ y) (hy : y % 2 ^ i = 0) (hy₁ : y < 2 ^ 62) (hx₀ : 0 ≤ x) (hx : x < 2 ^ i) (hx₁ : x < 2 ^ 62) : Go.bits .or .i64 x y = x + y := by
  have hc : Go.bits .or .i64 x y = Go.bits .or .i64 y x := by simp only [Go.bits, BitVec.or_comm]
  rw [hc, or_high i y x hy₀ hy hy₁ hx₀ hx hx₁]
  omega
def val4 (b0 b1 b2 b3 : Int) : Int := b0 + b1 * 256 + b2 * 65536 + b3 * 16777216
theorem shl_at (x : Int) (hx : 0 ≤ x ∧ x < 256) : ∀ j : Fin 4, shl .i64 x ((8 * j.val : Nat) : Int) = x * 2 ^ (8 * j.val) := by
  intro j
  unfold shl
  rw [Int.toNat_natCast, IntKind.wrap_i64, show IntKind.i64.bits = 64 from rfl]
  have : j.val = 0 ∨ j.val = 1 ∨ j.val = 2 ∨ j.val = 3 := by omega
  rcases this with h | h | h | h <;> rw [h] <;> simp <;> omega
theorem value_step (k : Nat) (x3 : Int) (l : List Int) (hl : l.length = 4) (j : Nat) (hj : j < 4) (b : Int) (hb : rd l (j : Int) = b) (hr : 0 ≤ b ∧ b < 256) (hx : 0 ≤ x3 ∧ x3 < 2 ^ (8 * j)) :
    super_value_int.l0 (k + 1) x3 l 4 (j : Int) = super_value_int.l0 k (x3 + b * 2 ^ (8 * j)) l 4 ((j + 1 : Nat) : Int) := by
  have w1 : wrap64 (8 * (j : Int)) = ((8 * j : Nat) : Int) := by unfold wrap64; omega
  have w2 : wrap64 ((j : Int) + 1) = ((j + 1 : Nat) : Int) := by unfold wrap64; omega
  have w3 : wrap64 b = b := by unfold wrap64; omega
  have hs := shl_at b hr ⟨j, hj⟩
  have hp : (2 : Int) ^ (8 * j) ≤ 2 ^ 24 := by
    have : j = 0 ∨ j = 1 ∨ j = 2 ∨ j = 3 := by omega
    rcases this with h | h | h | h <;> rw [h] <;> decide
  have hp0 : (0 : Int) < 2 ^ (8 * j) := Int.pow_pos (by decide)
  have hm : b * 2 ^ (8 * j) ≤ 255 * 2 ^ 24 := by
    calc b * 2 ^ (8 * j) ≤ 255 * 2 ^ (8 * j) := Int.mul_le_mul_of_nonneg_right (by omega) (by omega)
      _ ≤ 255 * 2 ^ 24 := Int.mul_le_mul_of_nonneg_left hp (by decide)
  have ho := or_join (8 * j) x3 (b * 2 ^ (8 * j)) (Int.mul_nonneg hr.1 (by omega)) (Int.mul_emod_left _ _) (by omega) hx.1 hx.2 (by omega)
  simp only [super_value_int.l0]
  rw [w1, w2, hb, w3, hs, ho, if_pos (by omega), if_pos (by omega), if_pos (by omega), if_pos (by omega)]
theorem value_is (k : Nat) (b0 b1 b2 b3 : Int) (h0 : 0 ≤ b0 ∧ b0 < 256) (h1 : 0 ≤ b1 ∧ b1 < 256) (h2 : 0 ≤ b2 ∧ b2 < 256) (h3 : 0 ≤ b3 ∧ b3 < 256) : super_value_int.f (k + 5) [b0, b1, b2, b3] = some (val4 b0 b1 b2 b3) := by
  unfold super_value_int.f
  have e0 := value_step (k + 4) 0 [b0, b1, b2, b3] rfl 0 (by omega) b0 rfl h0 (by decide)
  have e1 := value_step (k + 3) (0 + b0 * 2 ^ (8 * 0)) [b0, b1, b2, b3] rfl 1 (by omega) b1 rfl h1 (by omega)
  have e2 := value_step (k + 2) (0 + b0 * 2 ^ (8 * 0) + b1 * 2 ^ (8 * 1)) [b0, b1, b2, b3] rfl 2 (by omega) b2 rfl h2 (by omega)
  have e3 := value_step (k + 1) (0 + b0 * 2 ^ (8 * 0) + b1 * 2 ^ (8 * 1) + b2 * 2 ^ (8 * 2)) [b0, b1, b2, b3] rfl 3 (by omega) b3 rfl h3 (by omega)
  have hlen : (([b0, b1, b2, b3] : List Int).length : Int) = 4 := rfl
  rw [hlen]
  have e0' : super_value_int.l0 (k + 5) 0 [b0, b1, b2, b3] 4 0 = _ := e0
  rw [e0', show (((0 + 1 : Nat)) : Int) = ((1 : Nat) : Int) from rfl, e1, show (((1 + 1 : Nat)) : Int) = ((2 : Nat) : Int) from rfl, e2, show (((2 + 1 : Nat)) : Int) = ((3 : Nat) : Int) from rfl, e3]
  simp only [super_value_int.l0]
  rw [if_neg (by omega)]
  refine congrArg some ?_
  unfold val4
  omega
theorem val4_num4 (n : Int) (h : 0 ≤ n ∧ n < 4294967296) : val4 (n % 256) (n / 256 % 256) (n / 65536 % 256) (n / 16777216 % 256) = n := by unfold val4; omega

/-! rows of bytes as strings -/
theorem str_inj {xs ys : List Int} (hx : ∀ x ∈ xs, 0 ≤ x ∧ x < 256) (hy : ∀ x ∈ ys, 0 ≤ x ∧ x < 256) (h : (strOfNums xs).toList = (strOfNums ys).toList) : xs = ys := by
  rw [ByteArray.toList_eq, ByteArray.toList_eq, strOfNums_data, strOfNums_data] at h
  have hl : xs.length = ys.length := by have := congrArg List.length h; simpa using this
  apply List.ext_getElem hl
  intro j h1 h2
  have := congrArg (fun l => l[j]?) h
  simp only [List.getElem?_map, List.getElem?_eq_getElem h1, List.getElem?_eq_getElem h2, Option.map_some] at this
  have := congrArg UInt8.toNat (Option.some.inj this)
  have a := hx _ (List.getElem_mem h1)
  have b := hy _ (List.getElem_mem h2)
  simp at this
  omega

/-- the number that stands at a place -/
def numAt (l : List Int) (j : Nat) : Int := val4 (rd l (j : Int)) (rd l ((j + 1 : Nat) : Int)) (rd l ((j + 2 : Nat) : Int)) (rd l ((j + 3 : Nat) : Int))
theorem cut4 (l : List Int) (j : Nat) (h : j + 4 ≤ l.length) : (l.take (j + 4)).drop j = [rd l (j : Int), rd l ((j + 1 : Nat) : Int), rd l ((j + 2 : Nat) : Int), rd l ((j + 3 : Nat) : Int)] := by
  have g : ∀ m, m < l.length → rd l (m : Int) = l.getD m 0 := fun m _ => by unfold rd; rw [Int.toNat_natCast]
  rw [g j (by omega), g (j + 1) (by omega), g (j + 2) (by omega), g (j + 3) (by omega)]
  apply List.ext_getElem?
  intro m
  rw [List.getElem?_drop, List.getElem?_take]
  have e : ∀ q, q < l.length → l[q]? = some (l.getD q 0) := fun q hq => by rw [List.getD_eq_getElem?_getD, List.getElem?_eq_getElem hq]; rfl
  match m with
  | 0 => rw [if_pos (by omega), Nat.add_zero, e j (by omega)]; rfl
  | 1 => rw [if_pos (by omega), e (j + 1) (by omega)]; rfl
  | 2 => rw [if_pos (by omega), e (j + 2) (by omega)]; rfl
  | 3 => rw [if_pos (by omega), e (j + 3) (by omega)]; rfl
  | m + 4 => rw [if_neg (by omega)]; rfl
theorem valueAt (k : Nat) (l : List Int) (hb : ∀ x ∈ l, 0 ≤ x ∧ x < 256) (j : Nat) (h : j + 4 ≤ l.length) : super_value_int.f (k + 5) ((l.take (j + 4)).drop j) = some (numAt l j) := by
  rw [cut4 l j h, value_is k _ _ _ _ (rd_rng hb _) (rd_rng hb _) (rd_rng hb _) (rd_rng hb _)]
  rfl
/-- is a row of bytes a superblock? -/
def IsSuper (l : List Int) : Prop := l.length = 1024 ∧ Fine (numAt l 8) (numAt l 12) (numAt l 16) ∧ superBytes (numAt l 8) (numAt l 12) (numAt l 16) = l
theorem read_yes (k : Nat) (l : List Int) (hb : ∀ x ∈ l, 0 ≤ x ∧ x < 256) (h : IsSuper l) : super_Read.f (k + 5) l = some (numAt l 8, numAt l 12, numAt l 16, 0) := by
  obtain ⟨h1, h2, h3⟩ := h
  unfold super_Read.f
  have e1 := valueAt k l hb 8 (by omega)
  have e2 := valueAt k l hb 12 (by omega)
  have e3 := valueAt k l hb 16 (by omega)
  have t1 : ((12 : Int)).toNat = 8 + 4 := rfl
  have t2 : ((16 : Int)).toNat = 12 + 4 := rfl
  have t3 : (20 : Nat) = 16 + 4 := rfl
  have t4 : ((12 : Int)).toNat = 12 := rfl
  have t5 : ((16 : Int)).toNat = 16 := rfl
  have p : super_Pack.f (numAt l 8) (numAt l 12) (numAt l 16) = some (l, 0) := by rw [super_Pack.f, if_pos h2, h3]
  have hl : (l.length : Int) = 1024 := by omega
  rw [if_pos hl, if_pos (by decide), if_pos (by rw [hl]; decide), show ((12 : Int) : Int).toNat = 8 + 4 from rfl, e1, Option.bind_some, if_pos (by decide), if_pos (by decide), if_pos (by rw [hl]; decide)]
  have e2' : super_value_int.f (k + 5) (List.drop (8 + 4) (List.take ((16 : Int)).toNat l)) = some (numAt l 12) := e2
  rw [e2', Option.bind_some, if_pos (by decide), if_pos (by decide), if_pos (by rw [hl]; decide)]
  have e3' : super_value_int.f (k + 5) (List.drop ((16 : Int)).toNat (List.take 20 l)) = some (numAt l 16) := e3
  rw [e3', Option.bind_some, p, Option.bind_some]
  simp [bytes_Equal.f]
theorem read_no (k : Nat) (l : List Int) (hb : ∀ x ∈ l, 0 ≤ x ∧ x < 256) (h : ¬ IsSuper l) : super_Read.f (k + 5) l = some (0, 0, 0, 4) := by
  unfold super_Read.f
  by_cases h1 : l.length = 1024
  · have e1 := valueAt k l hb 8 (by omega)
    have e2 := valueAt k l hb 12 (by omega)
    have e3 := valueAt k l hb 16 (by omega)
    have hl : (l.length : Int) = 1024 := by omega
    rw [if_pos hl, if_pos (by decide), if_pos (by rw [hl]; decide), show ((12 : Int) : Int).toNat = 8 + 4 from rfl, e1, Option.bind_some, if_pos (by decide), if_pos (by decide), if_pos (by rw [hl]; decide)]
    have e2' : super_value_int.f (k + 5) (List.drop (8 + 4) (List.take ((16 : Int)).toNat l)) = some (numAt l 12) := e2
    rw [e2', Option.bind_some, if_pos (by decide), if_pos (by decide), if_pos (by rw [hl]; decide)]
    have e3' : super_value_int.f (k + 5) (List.drop ((16 : Int)).toNat (List.take 20 l)) = some (numAt l 16) := e3
    rw [e3', Option.bind_some]
    by_cases h2 : Fine (numAt l 8) (numAt l 12) (numAt l 16)
    · rw [super_Pack.f, if_pos h2, Option.bind_some, if_pos rfl]
      have : ¬ (strOfNums (superBytes (numAt l 8) (numAt l 12) (numAt l 16))).toList = (strOfNums l).toList := fun e => h ⟨h1, h2, str_inj (bytes_rng _ _ _) hb e⟩
      rw [show bytes_Equal.f (superBytes (numAt l 8) (numAt l 12) (numAt l 16)) l = some ((strOfNums (superBytes (numAt l 8) (numAt l 12) (numAt l 16))).toList == (strOfNums l).toList) from rfl, beq_eq_false_iff_ne.2 this]
      rfl
    · rw [super_Pack.f, if_neg h2]
      rfl
  · rw [if_neg (by omega)]
theorem numAt_bytes (g i d : Int) (h : Fine g i d) : numAt (superBytes g i d) 8 = g ∧ numAt (superBytes g i d) 12 = i ∧ numAt (superBytes g i d) 16 = d := by
  obtain ⟨h1, h2, h3, h4, h5, h6⟩ := h
  exact ⟨val4_num4 g (by omega), val4_num4 i (by omega), val4_num4 d (by omega)⟩
theorem is_bytes (g i d : Int) (h : Fine g i d) : IsSuper (superBytes g i d) := by
  obtain ⟨h1, h2, h3⟩ := numAt_bytes g i d h
  refine ⟨bytes_len _ _ _, ?_, ?_⟩
  · rw [h1, h2, h3]; exact h
  · rw [h1, h2, h3]
theorem alive_is (k : Nat) : lockgatelaw4_alive.f (k + 5) = some true := by
  have hf : Fine 2 1 8 := by decide
  obtain ⟨h1, h2, h3⟩ := numAt_bytes 2 1 8 hf
  unfold lockgatelaw4_alive.f
  rw [super_Pack.f, if_pos hf, Option.bind_some, read_yes k _ (bytes_rng _ _ _) (is_bytes 2 1 8 hf), Option.bind_some, h1, h2, h3]
  have : ((superBytes 2 1 8).length : Int) = 1024 := by rw [bytes_len]; rfl
  have w0 : wrap64 (0 + 0) = 0 := by decide +kernel
  simp only [lockgatelaw4_num.f, Option.bind_some]
  rw [w0, if_pos rfl, this]
  rfl
end Go.Proofs.Ythlpcfjnpagokaa.PlainHeadFns
