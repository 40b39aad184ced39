/- Plain facts of dinode's small functions and the reference's: numbers and lists alone. -/
import Derived.Test.YtdjncafofcpoiaaK1
import Derived.Laws.BitsAllLaws
import Derived.Laws.Bits128
import Derived.Lib.LazyBuf
import Derived.OpenShut
namespace Go.Proofs.Ytdjncafofcpoiaa.Given
open Go.RowKit Go.Proofs.YtdjncafofcpoiaaW.PrintWords Go.Proofs.YtdjncafofcpoiaaW.PrintLast Go.Proofs.YtdjncafofcpoiaaW.PrintMore Go.Proofs.Ytdjncafofcpoiaa.PDFns
set_option linter.unusedVariables false
set_option linter.unusedSimpArgs false

def num2 (n : Int) : List Int := [n % 256, n / 256 % 256]
def num4 (n : Int) : List Int := [n % 256, n / 256 % 256, n / 65536 % 256, n / 16777216 % 256]
theorem w64 (x : Int) (h : -9223372036854775808 ≤ x ∧ x ≤ 9223372036854775807) : wrap64 x = x := by unfold wrap64; omega
theorem shr_at (n : Int) (i : Nat) (hi : i < 8) : shr .i64 n ((8 * i : Nat) : Int) = n / 2 ^ (8 * i) := by
  unfold shr
  have : min (((8 * i : Nat) : Int)).toNat IntKind.i64.bits = 8 * i := by
    have : IntKind.i64.bits = 64 := rfl
    rw [this, Int.toNat_natCast]
    omega
  rw [this]
/-! Put -/
theorem Put_step (k : Nat) (x5 : List Int) (n x7 : Int) (i j s : Nat) (hj : j = i + 1) (hs : s = 8 * i) (hi : i < 8) (h : (i : Int) < x7) (hl : x5.length < 100000) : dinode_Put_int.l0 (k + 1) n x5 x7 i = dinode_Put_int.l0 k n (x5 ++ [n / 2 ^ s % 256]) x7 j := by
  subst hj hs
  have h1 : wrap64 (8 * (i : Int)) = ((8 * i : Nat) : Int) := by unfold wrap64; omega
  have h2 : wrap64 ((i : Int) + 1) = ((i + 1 : Nat) : Int) := by unfold wrap64; omega
  simp only [dinode_Put_int.l0]
  rw [if_pos h, h1, h2, if_pos (by omega), if_pos (by omega), shr_at n i hi]
theorem Put4 (k : Nat) (n : Int) : dinode_Put_int.f (k + 5) n 4 = some (num4 n) := by
  unfold dinode_Put_int.f
  have := Put_step (k + 4) [] n 4 0 1 0 rfl rfl (by omega) (by omega) (by simp)
  rw [Int.natCast_zero] at this
  rw [this, Put_step (k + 3) _ n 4 1 2 8 rfl rfl (by omega) (by omega) (by simp), Put_step (k + 2) _ n 4 2 3 16 rfl rfl (by omega) (by omega) (by simp), Put_step (k + 1) _ n 4 3 4 24 rfl rfl (by omega) (by omega) (by simp)]
  simp only [dinode_Put_int.l0]
  rw [if_neg (by omega)]
  simp [num4]
theorem Put2 (k : Nat) (n : Int) : dinode_Put_int.f (k + 5) n 2 = some (num2 n) := by
  unfold dinode_Put_int.f
  have := Put_step (k + 4) [] n 2 0 1 0 rfl rfl (by omega) (by omega) (by simp)
  rw [Int.natCast_zero] at this
  rw [this, Put_step (k + 3) _ n 2 1 2 8 rfl rfl (by omega) (by omega) (by simp)]
  simp only [dinode_Put_int.l0]
  rw [if_neg (by omega)]
  simp [num2]
/-! put -/
theorem and255 (n : Int) : Go.bits .and .i64 n 255 = n % 256 := by
  have h255 : (BitVec.ofInt 64 255).toNat = 2 ^ 8 - 1 := by decide
  have key : (BitVec.ofInt 64 n &&& BitVec.ofInt 64 255).toNat = (n % ((2 ^ 64 : Nat) : Int)).toNat % 2 ^ 8 := by
    rw [BitVec.toNat_and, BitVec.toNat_ofInt, h255, Nat.and_two_pow_sub_one_eq_mod]
  show IntKind.i64.wrap ((BitVec.ofInt 64 n &&& BitVec.ofInt 64 255).toNat : Nat) = n % 256
  rw [key, IntKind.wrap_i64]
  omega
theorem u64_8 (i : Nat) (hi : i < 8) : IntKind.u64.wrap (wrap64 (8 * (i : Int))) = ((8 * i : Nat) : Int) := by
  have : ∀ i : Fin 8, IntKind.u64.wrap (wrap64 (8 * (i.val : Int))) = ((8 * i.val : Nat) : Int) := by decide +kernel
  exact this ⟨i, hi⟩
theorem put_step (k : Nat) (x0 : List Int) (n x2 : Int) (i j s : Nat) (hj : j = i + 1) (hs : s = 8 * i) (hi : i < 8) (h : (i : Int) < x2) (hl : x0.length < 100000) : lockgateref1_put.l0 (k + 1) x0 n x2 i = lockgateref1_put.l0 k (x0 ++ [n / 2 ^ s % 256]) n x2 j := by
  subst hj hs
  have h2 : wrap64 ((i : Int) + 1) = ((i + 1 : Nat) : Int) := by unfold wrap64; omega
  simp only [lockgateref1_put.l0]
  rw [if_pos h, u64_8 i hi, h2, if_pos (by omega), if_pos (by omega), shr_at n i hi, and255]
  simp
theorem put4 (k : Nat) (xs : List Int) (n : Int) (h : xs.length < 90000) : lockgateref1_put.f (k + 5) xs n 4 = some (xs ++ num4 n) := by
  unfold lockgateref1_put.f
  have := put_step (k + 4) xs n 4 0 1 0 rfl rfl (by omega) (by omega) (by omega)
  rw [Int.natCast_zero] at this
  rw [this, put_step (k + 3) _ n 4 1 2 8 rfl rfl (by omega) (by omega) (by simp; omega), put_step (k + 2) _ n 4 2 3 16 rfl rfl (by omega) (by omega) (by simp; omega), put_step (k + 1) _ n 4 3 4 24 rfl rfl (by omega) (by omega) (by simp; omega)]
  simp only [lockgateref1_put.l0]
  rw [if_neg (by omega)]
  simp [num4]
theorem put2 (k : Nat) (xs : List Int) (n : Int) (h : xs.length < 90000) : lockgateref1_put.f (k + 5) xs n 2 = some (xs ++ num2 n) := by
  unfold lockgateref1_put.f
  have := put_step (k + 4) xs n 2 0 1 0 rfl rfl (by omega) (by omega) (by omega)
  rw [Int.natCast_zero] at this
  rw [this, put_step (k + 3) _ n 2 1 2 8 rfl rfl (by omega) (by omega) (by simp; omega)]
  simp only [lockgateref1_put.l0]
  rw [if_neg (by omega)]
  simp [num2]
theorem fill_at (xs : List Int) (n : Nat) (h : xs.length ≤ n) (hn : n < 100000) : lockgateref1_fill.f xs n = some (xs ++ List.replicate (n - xs.length) 0) := by
  unfold lockgateref1_fill.f
  have h1 : wrap64 ((n : Int) - (xs.length : Int)) = ((n - xs.length : Nat) : Int) := by unfold wrap64; omega
  rw [h1, if_pos (by omega), Int.toNat_natCast, if_pos (by omega)]
/-! fits -/
def fit4 (x : Int) : Bool := decide (0 ≤ x ∧ x < 4294967296)
def fit2 (x : Int) : Bool := decide (0 ≤ x ∧ x < 65536)
theorem rd_nat (l : List Int) (j : Nat) (h : j < l.length) : rd l (j : Int) = l[j] := by
  unfold rd
  rw [Int.toNat_natCast, List.getD_eq_getElem?_getD, List.getElem?_eq_getElem h]
  rfl
theorem fits_loop (wd : Nat) (hw : wd = 2 ∨ wd = 4) (l : List Int) (hl : l.length < 100000) : ∀ (d j k : Nat), j + d = l.length → d < k → dinode_fits.l0 k (wd : Int) l (l.length : Int) (j : Int) = some ((l.drop j).all (fun x => decide (0 ≤ x ∧ x < 2 ^ (8 * wd))))
  | 0, j, k, h, hk => by
    obtain ⟨k, rfl⟩ : ∃ m, k = m + 1 := ⟨k - 1, by omega⟩
    simp only [dinode_fits.l0]
    rw [if_neg (by omega), List.drop_of_length_le (by omega)]
    rfl
  | d + 1, j, k, h, hk => by
    obtain ⟨k, rfl⟩ : ∃ m, k = m + 1 := ⟨k - 1, by omega⟩
    have hj : j < l.length := by omega
    have h8 : wrap64 (8 * (wd : Int)) = ((8 * wd : Nat) : Int) := by unfold wrap64; omega
    have h1 : wrap64 ((j : Int) + 1) = ((j + 1 : Nat) : Int) := by unfold wrap64; omega
    have ih := fits_loop wd hw l hl d (j + 1) k (by omega) (by omega)
    have hp : (2 : Int) ^ (8 * wd) = 65536 ∨ (2 : Int) ^ (8 * wd) = 4294967296 := by rcases hw with h | h <;> subst h <;> simp
    have hp0 : (0 : Int) < 2 ^ (8 * wd) := by omega
    simp only [dinode_fits.l0]
    rw [if_pos (by omega), if_pos (by omega), if_pos (by omega), h8, h1, ih, rd_nat l j hj, List.drop_eq_getElem_cons hj, List.all_cons]
    by_cases c : l[j] < 0
    · rw [if_pos c, decide_eq_false (by omega)]; rfl
    · rw [if_neg c, if_pos (by omega), shr_at _ wd (by omega)]
      by_cases c2 : l[j] < 2 ^ (8 * wd)
      · rw [Int.ediv_eq_zero_of_lt (by omega) c2, if_pos rfl, decide_eq_true (by omega)]; rfl
      · have h3 : ¬ l[j] / 2 ^ (8 * wd) = 0 := by
          intro e
          have := Int.ediv_mul_add_emod l[j] (2 ^ (8 * wd))
          have := Int.emod_lt_of_pos l[j] hp0
          rw [e] at *
          omega
        rw [if_neg h3, decide_eq_false (by omega)]; rfl
theorem fits4 (k : Nat) (l : List Int) (hl : l.length < 100000) (hk : l.length < k) : dinode_fits.f k 4 l = some (l.all fit4) := by
  have := fits_loop 4 (.inr rfl) l hl l.length 0 k (by omega) hk
  exact this
theorem fits2 (k : Nat) (l : List Int) (hl : l.length < 100000) (hk : l.length < k) : dinode_fits.f k 2 l = some (l.all fit2) := by
  have := fits_loop 2 (.inl rfl) l hl l.length 0 k (by omega) hk
  exact this
theorem rfits4 (n : Int) : lockgateref1_fits.f n 4 = some (fit4 n) := by
  have h1 : IntKind.u64.wrap (wrap64 (8 * 4)) = 32 := by decide +kernel
  have h2 : shl .i64 1 32 = 4294967296 := by decide +kernel
  unfold lockgateref1_fits.f fit4
  rw [h1, h2]
  by_cases c : n ≥ 0
  · rw [if_pos c, if_pos (by omega)]
    exact congrArg some (by by_cases d : n < 4294967296 <;> simp [d] <;> omega)
  · rw [if_neg c, decide_eq_false (by omega)]
theorem rfits2 (n : Int) : lockgateref1_fits.f n 2 = some (fit2 n) := by
  have h1 : IntKind.u64.wrap (wrap64 (8 * 2)) = 16 := by decide +kernel
  have h2 : shl .i64 1 16 = 65536 := by decide +kernel
  unfold lockgateref1_fits.f fit2
  rw [h1, h2]
  by_cases c : n ≥ 0
  · rw [if_pos c, if_pos (by omega)]
    exact congrArg some (by by_cases d : n < 65536 <;> simp [d] <;> omega)
  · rw [if_neg c, decide_eq_false (by omega)]
/-! numbers of bytes -/
theorem rd_rng {l : List Int} (h : ∀ x ∈ l, 0 ≤ x ∧ x < 256) (j : Nat) : 0 ≤ rd l (j : Int) ∧ rd l (j : Int) < 256 := by
  unfold rd
  rw [Int.toNat_natCast, List.getD_eq_getElem?_getD]
  by_cases hj : j < l.length
  · simp only [hj, List.getElem?_eq_getElem, Option.getD_some]; exact h _ (List.getElem_mem hj)
  · simp [List.getElem?_eq_none (Nat.le_of_not_lt hj)]
theorem or_high (i : Nat) (x y : Int) (hx₀ : 0 ≤ x) (hx : x % 2 ^ i = 0) (hx₁ : x < 2 ^ 62) (hy₀ : 0 ≤ y) (hy : y < 2 ^ i) (hy₁ : y < 2 ^ 62) : Go.bits .or .i64 x y = x + y :=
  bits_join .i64 62 (by decide) (fun n h1 h2 => by rw [IntKind.wrap_i64]; omega) i x y hx₀ hx hx₁ hy₀ hy hy₁
theorem or_join (i : Nat) (x y : Int) (hy₀ : 0 ≤ y) (hy : y % 2 ^ i = 0) (hy₁ : y < 2 ^ 62) (hx₀ : 0 ≤ x) (hx : x < 2 ^ i) (hx₁ : x < 2 ^ 62) : Go.bits .or .i64 x y = x + y := by
  have hc : Go.bits .or .i64 x y = Go.bits .or .i64 y x := by simp only [Go.bits, BitVec.or_comm]
  rw [hc, or_high i y x hy₀ hy hy₁ hx₀ hx hx₁]
  omega
def val2 (b0 b1 : Int) : Int := b0 + b1 * 256
def val4 (b0 b1 b2 b3 : Int) : Int := b0 + b1 * 256 + b2 * 65536 + b3 * 16777216
theorem shl_at (x : Int) (hx : 0 ≤ x ∧ x < 256) : ∀ j : Fin 4, shl .i64 x ((8 * j.val : Nat) : Int) = x * 2 ^ (8 * j.val) := by
  intro j
  unfold shl
  rw [Int.toNat_natCast, IntKind.wrap_i64, show IntKind.i64.bits = 64 from rfl]
  have : j.val = 0 ∨ j.val = 1 ∨ j.val = 2 ∨ j.val = 3 := by omega
  rcases this with h | h | h | h <;> rw [h] <;> simp <;> omega
theorem value_step (k : Nat) (x3 : Int) (l : List Int) (n : Nat) (hn : l.length = n) (hl : n ≤ 4) (j : Nat) (hj : j < n) (b : Int) (hb : rd l (j : Int) = b) (hr : 0 ≤ b ∧ b < 256) (hx : 0 ≤ x3 ∧ x3 < 2 ^ (8 * j)) :
    dinode_Get_int.l0 (k + 1) x3 l (n : Int) (j : Int) = dinode_Get_int.l0 k (x3 + b * 2 ^ (8 * j)) l (n : Int) ((j + 1 : Nat) : Int) := by
  have w1 : wrap64 (8 * (j : Int)) = ((8 * j : Nat) : Int) := by unfold wrap64; omega
  have w2 : wrap64 ((j : Int) + 1) = ((j + 1 : Nat) : Int) := by unfold wrap64; omega
  have w3 : wrap64 b = b := by unfold wrap64; omega
  have hs := shl_at b hr ⟨j, by omega⟩
  have hp : (2 : Int) ^ (8 * j) ≤ 2 ^ 24 := by
    have : j = 0 ∨ j = 1 ∨ j = 2 ∨ j = 3 := by omega
    rcases this with h | h | h | h <;> rw [h] <;> decide
  have hp0 : (0 : Int) < 2 ^ (8 * j) := Int.pow_pos (by decide)
  have hm : b * 2 ^ (8 * j) ≤ 255 * 2 ^ 24 := by
    calc b * 2 ^ (8 * j) ≤ 255 * 2 ^ (8 * j) := Int.mul_le_mul_of_nonneg_right (by omega) (by omega)
      _ ≤ 255 * 2 ^ 24 := Int.mul_le_mul_of_nonneg_left hp (by decide)
  have ho := or_join (8 * j) x3 (b * 2 ^ (8 * j)) (Int.mul_nonneg hr.1 (by omega)) (Int.mul_emod_left _ _) (by omega) hx.1 hx.2 (by omega)
  simp only [dinode_Get_int.l0]
  rw [w1, w2, hb, w3, hs, ho, if_pos (by omega), if_pos (by omega), if_pos (by omega), if_pos (by omega)]
theorem value4 (k : Nat) (b0 b1 b2 b3 : Int) (h0 : 0 ≤ b0 ∧ b0 < 256) (h1 : 0 ≤ b1 ∧ b1 < 256) (h2 : 0 ≤ b2 ∧ b2 < 256) (h3 : 0 ≤ b3 ∧ b3 < 256) : dinode_Get_int.f (k + 5) [b0, b1, b2, b3] = some (val4 b0 b1 b2 b3) := by
  unfold dinode_Get_int.f
  have e0 := value_step (k + 4) 0 [b0, b1, b2, b3] 4 rfl (by omega) 0 (by omega) b0 rfl h0 (by decide)
  have e1 := value_step (k + 3) (0 + b0 * 2 ^ (8 * 0)) [b0, b1, b2, b3] 4 rfl (by omega) 1 (by omega) b1 rfl h1 (by omega)
  have e2 := value_step (k + 2) (0 + b0 * 2 ^ (8 * 0) + b1 * 2 ^ (8 * 1)) [b0, b1, b2, b3] 4 rfl (by omega) 2 (by omega) b2 rfl h2 (by omega)
  have e3 := value_step (k + 1) (0 + b0 * 2 ^ (8 * 0) + b1 * 2 ^ (8 * 1) + b2 * 2 ^ (8 * 2)) [b0, b1, b2, b3] 4 rfl (by omega) 3 (by omega) b3 rfl h3 (by omega)
  have hlen : (([b0, b1, b2, b3] : List Int).length : Int) = ((4 : Nat) : Int) := rfl
  rw [hlen]
  have e0' : dinode_Get_int.l0 (k + 5) 0 [b0, b1, b2, b3] ((4 : Nat) : Int) 0 = _ := e0
  rw [e0', show (((0 + 1 : Nat)) : Int) = ((1 : Nat) : Int) from rfl, e1, show (((1 + 1 : Nat)) : Int) = ((2 : Nat) : Int) from rfl, e2, show (((2 + 1 : Nat)) : Int) = ((3 : Nat) : Int) from rfl, e3]
  simp only [dinode_Get_int.l0]
  rw [if_neg (by omega)]
  refine congrArg some ?_
  unfold val4
  omega
theorem value2 (k : Nat) (b0 b1 : Int) (h0 : 0 ≤ b0 ∧ b0 < 256) (h1 : 0 ≤ b1 ∧ b1 < 256) : dinode_Get_int.f (k + 5) [b0, b1] = some (val2 b0 b1) := by
  unfold dinode_Get_int.f
  have e0 := value_step (k + 4) 0 [b0, b1] 2 rfl (by omega) 0 (by omega) b0 rfl h0 (by decide)
  have e1 := value_step (k + 3) (0 + b0 * 2 ^ (8 * 0)) [b0, b1] 2 rfl (by omega) 1 (by omega) b1 rfl h1 (by omega)
  have hlen : (([b0, b1] : List Int).length : Int) = ((2 : Nat) : Int) := rfl
  rw [hlen]
  have e0' : dinode_Get_int.l0 (k + 5) 0 [b0, b1] ((2 : Nat) : Int) 0 = _ := e0
  rw [e0', show (((0 + 1 : Nat)) : Int) = ((1 : Nat) : Int) from rfl, e1]
  simp only [dinode_Get_int.l0]
  rw [if_neg (by omega)]
  refine congrArg some ?_
  unfold val2
  omega
theorem val4_num4 (n : Int) (h : 0 ≤ n ∧ n < 4294967296) : val4 (n % 256) (n / 256 % 256) (n / 65536 % 256) (n / 16777216 % 256) = n := by unfold val4; omega
theorem val2_num2 (n : Int) (h : 0 ≤ n ∧ n < 65536) : val2 (n % 256) (n / 256 % 256) = n := by unfold val2; omega
def at4 (l : List Int) (j : Nat) : Int := val4 (rd l (j : Int)) (rd l ((j + 1 : Nat) : Int)) (rd l ((j + 2 : Nat) : Int)) (rd l ((j + 3 : Nat) : Int))
def at2 (l : List Int) (j : Nat) : Int := val2 (rd l (j : Int)) (rd l ((j + 1 : Nat) : Int))
theorem cut4 (l : List Int) (j : Nat) (h : j + 4 ≤ l.length) : (l.take (j + 4)).drop j = [rd l (j : Int), rd l ((j + 1 : Nat) : Int), rd l ((j + 2 : Nat) : Int), rd l ((j + 3 : Nat) : Int)] := by
  rw [rd_nat l j (by omega), rd_nat l (j + 1) (by omega), rd_nat l (j + 2) (by omega), rd_nat l (j + 3) (by omega)]
  apply List.ext_getElem?
  intro m
  rw [List.getElem?_drop, List.getElem?_take]
  match m with
  | 0 => rw [if_pos (by omega), Nat.add_zero, List.getElem?_eq_getElem (by omega)]; rfl
  | 1 => rw [if_pos (by omega), List.getElem?_eq_getElem (by omega)]; rfl
  | 2 => rw [if_pos (by omega), List.getElem?_eq_getElem (by omega)]; rfl
  | 3 => rw [if_pos (by omega), List.getElem?_eq_getElem (by omega)]; rfl
  | m + 4 => rw [if_neg (by omega)]; rfl
theorem cut2 (l : List Int) (j : Nat) (h : j + 2 ≤ l.length) : (l.take (j + 2)).drop j = [rd l (j : Int), rd l ((j + 1 : Nat) : Int)] := by
  rw [rd_nat l j (by omega), rd_nat l (j + 1) (by omega)]
  apply List.ext_getElem?
  intro m
  rw [List.getElem?_drop, List.getElem?_take]
  match m with
  | 0 => rw [if_pos (by omega), Nat.add_zero, List.getElem?_eq_getElem (by omega)]; rfl
  | 1 => rw [if_pos (by omega), List.getElem?_eq_getElem (by omega)]; rfl
  | m + 2 => rw [if_neg (by omega)]; rfl
theorem get4 (k : Nat) (l : List Int) (hb : ∀ x ∈ l, 0 ≤ x ∧ x < 256) (j : Nat) (h : j + 4 ≤ l.length) : dinode_Get_int.f (k + 5) ((l.take (j + 4)).drop j) = some (at4 l j) := by
  rw [cut4 l j h, value4 k _ _ _ _ (rd_rng hb _) (rd_rng hb _) (rd_rng hb _) (rd_rng hb _)]
  rfl
theorem get2 (k : Nat) (l : List Int) (hb : ∀ x ∈ l, 0 ≤ x ∧ x < 256) (j : Nat) (h : j + 2 ≤ l.length) : dinode_Get_int.f (k + 5) ((l.take (j + 2)).drop j) = some (at2 l j) := by
  rw [cut2 l j h, value2 k _ _ (rd_rng hb _) (rd_rng hb _)]
  rfl
/-! num -/
theorem num_step (k : Nat) (l : List Int) (a : Nat) (ha : a ≤ 100000) (x7 : Int) (j n : Nat) (v : Int) (hv : 0 ≤ v ∧ v < 256) (hrd : rd l ((a + j : Nat) : Int) = v) (hl : a + n ≤ l.length) (hi : j < n) (h7 : 0 ≤ x7 ∧ x7 < 16777216) (hn : n ≤ 4) :
    lockgateref1_num.l0 (k + 1) l (a : Int) x7 (j : Int) = lockgateref1_num.l0 k l (a : Int) (x7 * 256 + v) ((j : Int) - 1) := by
  have w1 : wrap64 ((a : Int) + (j : Int)) = ((a + j : Nat) : Int) := by unfold wrap64; omega
  have w2 : wrap64 (x7 * 256) = x7 * 256 := by unfold wrap64; omega
  have w3 : wrap64 v = v := by unfold wrap64; omega
  have w4 : wrap64 ((j : Int) - 1) = (j : Int) - 1 := by unfold wrap64; omega
  have ho := or_high 8 (x7 * 256) v (by omega) (by omega) (by omega) (by omega) (by omega) (by omega)
  simp only [lockgateref1_num.l0]
  rw [w1, w2, w4, hrd, w3, ho, if_pos (by omega), if_pos (by omega), if_pos (by omega)]
theorem num_end (k : Nat) (l : List Int) (a x7 x8 : Int) (h : x8 = -1) : lockgateref1_num.l0 (k + 1) l a x7 x8 = some x7 := by
  subst h
  simp only [lockgateref1_num.l0]
  rw [if_neg (by omega)]
theorem rnum4 (k : Nat) (l : List Int) (hb : ∀ x ∈ l, 0 ≤ x ∧ x < 256) (a : Nat) (ha : a ≤ 100000) (hl : a + 4 ≤ l.length) : lockgateref1_num.f (k + 5) l (a : Int) 4 = some (at4 l a) := by
  unfold lockgateref1_num.f
  obtain ⟨b0, r0⟩ : ∃ b, rd l ((a + 0 : Nat) : Int) = b := ⟨_, rfl⟩
  obtain ⟨b1, r1⟩ : ∃ b, rd l ((a + 1 : Nat) : Int) = b := ⟨_, rfl⟩
  obtain ⟨b2, r2⟩ : ∃ b, rd l ((a + 2 : Nat) : Int) = b := ⟨_, rfl⟩
  obtain ⟨b3, r3⟩ : ∃ b, rd l ((a + 3 : Nat) : Int) = b := ⟨_, rfl⟩
  have h0 := rd_rng hb (a + 0)
  have h1 := rd_rng hb (a + 1)
  have h2 := rd_rng hb (a + 2)
  have h3 := rd_rng hb (a + 3)
  rw [r0] at h0
  rw [r1] at h1
  rw [r2] at h2
  rw [r3] at h3
  have e3 := num_step (k + 4) l a ha 0 3 4 b3 h3 r3 hl (by omega) (by omega) (by omega)
  have e2 := num_step (k + 3) l a ha (0 * 256 + b3) 2 4 b2 h2 r2 hl (by omega) (by omega) (by omega)
  have e1 := num_step (k + 2) l a ha ((0 * 256 + b3) * 256 + b2) 1 4 b1 h1 r1 hl (by omega) (by omega) (by omega)
  have e0 := num_step (k + 1) l a ha (((0 * 256 + b3) * 256 + b2) * 256 + b1) 0 4 b0 h0 r0 hl (by omega) (by omega) (by omega)
  rw [show wrap64 (4 - 1) = ((3 : Nat) : Int) from by decide +kernel, e3, show ((3 : Nat) : Int) - 1 = ((2 : Nat) : Int) from rfl, e2, show ((2 : Nat) : Int) - 1 = ((1 : Nat) : Int) from rfl, e1, show ((1 : Nat) : Int) - 1 = ((0 : Nat) : Int) from rfl, e0, num_end k _ _ _ _ (by rfl)]
  refine congrArg some ?_
  unfold at4 val4
  have r0' : rd l (a : Int) = b0 := r0
  rw [r0', r1, r2, r3]
  omega
theorem rnum2 (k : Nat) (l : List Int) (hb : ∀ x ∈ l, 0 ≤ x ∧ x < 256) (a : Nat) (ha : a ≤ 100000) (hl : a + 2 ≤ l.length) : lockgateref1_num.f (k + 5) l (a : Int) 2 = some (at2 l a) := by
  unfold lockgateref1_num.f
  obtain ⟨b0, r0⟩ : ∃ b, rd l ((a + 0 : Nat) : Int) = b := ⟨_, rfl⟩
  obtain ⟨b1, r1⟩ : ∃ b, rd l ((a + 1 : Nat) : Int) = b := ⟨_, rfl⟩
  have h0 := rd_rng hb (a + 0)
  have h1 := rd_rng hb (a + 1)
  rw [r0] at h0
  rw [r1] at h1
  have e1 := num_step (k + 4) l a ha 0 1 2 b1 h1 r1 hl (by omega) (by omega) (by omega)
  have e0 := num_step (k + 3) l a ha (0 * 256 + b1) 0 2 b0 h0 r0 hl (by omega) (by omega) (by omega)
  rw [show wrap64 (2 - 1) = ((1 : Nat) : Int) from by decide +kernel, e1, show ((1 : Nat) : Int) - 1 = ((0 : Nat) : Int) from rfl, e0, num_end _ _ _ _ _ (by rfl)]
  refine congrArg some ?_
  unfold at2 val2
  have r0' : rd l (a : Int) = b0 := r0
  rw [r0', r1]
  omega

/-! ### an inode's bytes -/
def Ino.ds (x : Ino) : List Int := [x.d0, x.d1, x.d2, x.d3, x.d4, x.d5, x.d6, x.d7]
def Ino.zero : Ino := ⟨0, 0, 0, 0, 0, 0, 0, 0, 0, 0, 0, 0, 0⟩
def headI (x : Ino) : List Int := num2 x.k ++ num2 x.l ++ num4 x.s
def bodyI (x : Ino) : List Int := headI x ++ num4 x.d0 ++ num4 x.d1 ++ num4 x.d2 ++ num4 x.d3 ++ num4 x.d4 ++ num4 x.d5 ++ num4 x.d6 ++ num4 x.d7 ++ num4 x.n ++ num4 x.m
def packI (x : Ino) : List Int := bodyI x ++ List.replicate 16 0
/-- may an inode be? -/
def kindOk (x : Ino) : Bool := decide (0 ≤ x.k ∧ x.k ≤ 2)
def freeOk (x : Ino) : Bool := !(x.k == 0) || eqI x Ino.zero
def okI (x : Ino) : Bool := kindOk x && fit2 x.l && (fit4 x.s && fit4 x.n && fit4 x.m) && x.ds.all fit4 && freeOk x
def readI (l : List Int) : Ino := ⟨at2 l 0, at2 l 2, at4 l 4, at4 l 8, at4 l 12, at4 l 16, at4 l 20, at4 l 24, at4 l 28, at4 l 32, at4 l 36, at4 l 40, at4 l 44⟩
theorem body_len (x : Ino) : (bodyI x).length = 48 := by simp [bodyI, headI, num2, num4]
theorem pack_len (x : Ino) : (packI x).length = 64 := by rw [packI, List.length_append, body_len, List.length_replicate]
theorem num2_rng (n : Int) : ∀ x ∈ num2 n, 0 ≤ x ∧ x < 256 := by
  intro x hx
  simp only [num2, List.mem_cons, List.not_mem_nil, or_false] at hx
  omega
theorem num4_rng (n : Int) : ∀ x ∈ num4 n, 0 ≤ x ∧ x < 256 := by
  intro x hx
  simp only [num4, List.mem_cons, List.not_mem_nil, or_false] at hx
  omega
theorem pack_rng (x : Ino) : ∀ y ∈ packI x, 0 ≤ y ∧ y < 256 := by
  have h0 : ∀ y ∈ List.replicate 16 (0 : Int), 0 ≤ y ∧ y < 256 := fun y hy => by have := (List.mem_replicate.1 hy).2; omega
  have ha : ∀ (a b : List Int), (∀ y ∈ a, 0 ≤ y ∧ y < 256) → (∀ y ∈ b, 0 ≤ y ∧ y < 256) → ∀ y ∈ a ++ b, 0 ≤ y ∧ y < 256 := fun a b h1 h2 y hy => (List.mem_append.1 hy).elim (h1 y) (h2 y)
  unfold packI bodyI headI
  refine ha _ _ ?_ h0
  refine ha _ _ ?_ (num4_rng _)
  refine ha _ _ ?_ (num4_rng _)
  refine ha _ _ ?_ (num4_rng _)
  refine ha _ _ ?_ (num4_rng _)
  refine ha _ _ ?_ (num4_rng _)
  refine ha _ _ ?_ (num4_rng _)
  refine ha _ _ ?_ (num4_rng _)
  refine ha _ _ ?_ (num4_rng _)
  refine ha _ _ ?_ (num4_rng _)
  refine ha _ _ ?_ (num4_rng _)
  refine ha _ _ ?_ (num4_rng _)
  refine ha _ _ ?_ (num2_rng _)
  exact num2_rng _
theorem eqI_iff (x y : Ino) : eqI x y = true ↔ x = y := by
  obtain ⟨⟩ := x
  obtain ⟨⟩ := y
  simp only [eqI, Ino.mk.injEq, Bool.and_eq_true, beq_iff_eq, and_assoc]
theorem eqI_refl (x : Ino) : eqI x x = true := (eqI_iff x x).2 rfl
theorem okI_spec {x : Ino} (h : okI x = true) : (0 ≤ x.k ∧ x.k ≤ 2) ∧ (0 ≤ x.l ∧ x.l < 65536) ∧ (0 ≤ x.s ∧ x.s < 4294967296) ∧ (0 ≤ x.n ∧ x.n < 4294967296) ∧ (0 ≤ x.m ∧ x.m < 4294967296) ∧ (∀ y ∈ x.ds, 0 ≤ y ∧ y < 4294967296) := by
  simp only [okI, kindOk, fit2, fit4, Bool.and_eq_true, decide_eq_true_eq, List.all_eq_true] at h
  obtain ⟨⟨⟨⟨h1, h2⟩, ⟨h3, h4⟩, h5⟩, h6⟩, _⟩ := h
  exact ⟨h1, h2, h3, h4, h5, h6⟩
theorem read_pack (x : Ino) (h : okI x = true) : readI (packI x) = x := by
  obtain ⟨h1, h2, h3, h4, h5, h6⟩ := okI_spec h
  have v4 : ∀ y, 0 ≤ y ∧ y < 4294967296 → val4 (y % 256) (y / 256 % 256) (y / 65536 % 256) (y / 16777216 % 256) = y := val4_num4
  have hat4 : ∀ (A B : List Int) (y : Int) (j : Nat), A.length = j → at4 (A ++ num4 y ++ B) j = val4 (y % 256) (y / 256 % 256) (y / 65536 % 256) (y / 16777216 % 256) := by
    intro A B y j hj
    subst hj
    have g : ∀ q (v : Int), (num4 y)[q]? = some v → rd (A ++ num4 y ++ B) ((A.length + q : Nat) : Int) = v := by
      intro q v hq
      unfold rd
      rw [Int.toNat_natCast, List.getD_eq_getElem?_getD, List.append_assoc, List.getElem?_append_right (by omega), Nat.add_sub_cancel_left, List.getElem?_append_left (List.getElem?_eq_some_iff.1 hq).1, hq]
      rfl
    unfold at4
    rw [g 1 _ rfl, g 2 _ rfl, g 3 _ rfl, show ((A.length : Nat) : Int) = ((A.length + 0 : Nat) : Int) from rfl, g 0 _ rfl]
  have hat2 : ∀ (A B : List Int) (y : Int) (j : Nat), A.length = j → at2 (A ++ num2 y ++ B) j = val2 (y % 256) (y / 256 % 256) := by
    intro A B y j hj
    subst hj
    have g : ∀ q (v : Int), (num2 y)[q]? = some v → rd (A ++ num2 y ++ B) ((A.length + q : Nat) : Int) = v := by
      intro q v hq
      unfold rd
      rw [Int.toNat_natCast, List.getD_eq_getElem?_getD, List.append_assoc, List.getElem?_append_right (by omega), Nat.add_sub_cancel_left, List.getElem?_append_left (List.getElem?_eq_some_iff.1 hq).1, hq]
      rfl
    unfold at2
    rw [g 1 _ rfl, show ((A.length : Nat) : Int) = ((A.length + 0 : Nat) : Int) from rfl, g 0 _ rfl]
  have hk : at2 (packI x) 0 = x.k := by
    have := hat2 [] (num2 x.l ++ num4 x.s ++ num4 x.d0 ++ num4 x.d1 ++ num4 x.d2 ++ num4 x.d3 ++ num4 x.d4 ++ num4 x.d5 ++ num4 x.d6 ++ num4 x.d7 ++ num4 x.n ++ num4 x.m ++ List.replicate 16 0) x.k 0 rfl
    rw [val2_num2 _ (by omega)] at this
    rw [← this]
    simp only [packI, bodyI, headI, List.append_assoc, List.nil_append]
  have hl : at2 (packI x) 2 = x.l := by
    have := hat2 (num2 x.k) (num4 x.s ++ num4 x.d0 ++ num4 x.d1 ++ num4 x.d2 ++ num4 x.d3 ++ num4 x.d4 ++ num4 x.d5 ++ num4 x.d6 ++ num4 x.d7 ++ num4 x.n ++ num4 x.m ++ List.replicate 16 0) x.l 2 rfl
    rw [val2_num2 _ h2] at this
    rw [← this]
    simp only [packI, bodyI, headI, List.append_assoc]
  have h_s : at4 (packI x) 4 = x.s := by
    have := hat4 (num2 x.k ++ num2 x.l) (num4 x.d0 ++ num4 x.d1 ++ num4 x.d2 ++ num4 x.d3 ++ num4 x.d4 ++ num4 x.d5 ++ num4 x.d6 ++ num4 x.d7 ++ num4 x.n ++ num4 x.m ++ List.replicate 16 0) x.s 4 rfl
    rw [v4 _ h3] at this
    rw [← this]
    simp only [packI, bodyI, headI, List.append_assoc]
  have h_d0 : at4 (packI x) 8 = x.d0 := by
    have := hat4 (num2 x.k ++ num2 x.l ++ num4 x.s) (num4 x.d1 ++ num4 x.d2 ++ num4 x.d3 ++ num4 x.d4 ++ num4 x.d5 ++ num4 x.d6 ++ num4 x.d7 ++ num4 x.n ++ num4 x.m ++ List.replicate 16 0) x.d0 8 rfl
    rw [v4 _ (h6 x.d0 (by simp [Ino.ds]))] at this
    rw [← this]
    simp only [packI, bodyI, headI, List.append_assoc]
  have h_d1 : at4 (packI x) 12 = x.d1 := by
    have := hat4 (num2 x.k ++ num2 x.l ++ num4 x.s ++ num4 x.d0) (num4 x.d2 ++ num4 x.d3 ++ num4 x.d4 ++ num4 x.d5 ++ num4 x.d6 ++ num4 x.d7 ++ num4 x.n ++ num4 x.m ++ List.replicate 16 0) x.d1 12 rfl
    rw [v4 _ (h6 x.d1 (by simp [Ino.ds]))] at this
    rw [← this]
    simp only [packI, bodyI, headI, List.append_assoc]
  have h_d2 : at4 (packI x) 16 = x.d2 := by
    have := hat4 (num2 x.k ++ num2 x.l ++ num4 x.s ++ num4 x.d0 ++ num4 x.d1) (num4 x.d3 ++ num4 x.d4 ++ num4 x.d5 ++ num4 x.d6 ++ num4 x.d7 ++ num4 x.n ++ num4 x.m ++ List.replicate 16 0) x.d2 16 rfl
    rw [v4 _ (h6 x.d2 (by simp [Ino.ds]))] at this
    rw [← this]
    simp only [packI, bodyI, headI, List.append_assoc]
  have h_d3 : at4 (packI x) 20 = x.d3 := by
    have := hat4 (num2 x.k ++ num2 x.l ++ num4 x.s ++ num4 x.d0 ++ num4 x.d1 ++ num4 x.d2) (num4 x.d4 ++ num4 x.d5 ++ num4 x.d6 ++ num4 x.d7 ++ num4 x.n ++ num4 x.m ++ List.replicate 16 0) x.d3 20 rfl
    rw [v4 _ (h6 x.d3 (by simp [Ino.ds]))] at this
    rw [← this]
    simp only [packI, bodyI, headI, List.append_assoc]
  have h_d4 : at4 (packI x) 24 = x.d4 := by
    have := hat4 (num2 x.k ++ num2 x.l ++ num4 x.s ++ num4 x.d0 ++ num4 x.d1 ++ num4 x.d2 ++ num4 x.d3) (num4 x.d5 ++ num4 x.d6 ++ num4 x.d7 ++ num4 x.n ++ num4 x.m ++ List.replicate 16 0) x.d4 24 rfl
    rw [v4 _ (h6 x.d4 (by simp [Ino.ds]))] at this
    rw [← this]
    simp only [packI, bodyI, headI, List.append_assoc]
  have h_d5 : at4 (packI x) 28 = x.d5 := by
    have := hat4 (num2 x.k ++ num2 x.l ++ num4 x.s ++ num4 x.d0 ++ num4 x.d1 ++ num4 x.d2 ++ num4 x.d3 ++ num4 x.d4) (num4 x.d6 ++ num4 x.d7 ++ num4 x.n ++ num4 x.m ++ List.replicate 16 0) x.d5 28 rfl
    rw [v4 _ (h6 x.d5 (by simp [Ino.ds]))] at this
    rw [← this]
    simp only [packI, bodyI, headI, List.append_assoc]
  have h_d6 : at4 (packI x) 32 = x.d6 := by
    have := hat4 (num2 x.k ++ num2 x.l ++ num4 x.s ++ num4 x.d0 ++ num4 x.d1 ++ num4 x.d2 ++ num4 x.d3 ++ num4 x.d4 ++ num4 x.d5) (num4 x.d7 ++ num4 x.n ++ num4 x.m ++ List.replicate 16 0) x.d6 32 rfl
    rw [v4 _ (h6 x.d6 (by simp [Ino.ds]))] at this
    rw [← this]
    simp only [packI, bodyI, headI, List.append_assoc]
  have h_d7 : at4 (packI x) 36 = x.d7 := by
    have := hat4 (num2 x.k ++ num2 x.l ++ num4 x.s ++ num4 x.d0 ++ num4 x.d1 ++ num4 x.d2 ++ num4 x.d3 ++ num4 x.d4 ++ num4 x.d5 ++ num4 x.d6) (num4 x.n ++ num4 x.m ++ List.replicate 16 0) x.d7 36 rfl
    rw [v4 _ (h6 x.d7 (by simp [Ino.ds]))] at this
    rw [← this]
    simp only [packI, bodyI, headI, List.append_assoc]
  have h_n : at4 (packI x) 40 = x.n := by
    have := hat4 (num2 x.k ++ num2 x.l ++ num4 x.s ++ num4 x.d0 ++ num4 x.d1 ++ num4 x.d2 ++ num4 x.d3 ++ num4 x.d4 ++ num4 x.d5 ++ num4 x.d6 ++ num4 x.d7) (num4 x.m ++ List.replicate 16 0) x.n 40 rfl
    rw [v4 _ h4] at this
    rw [← this]
    simp only [packI, bodyI, headI, List.append_assoc]
  have h_m : at4 (packI x) 44 = x.m := by
    have := hat4 (num2 x.k ++ num2 x.l ++ num4 x.s ++ num4 x.d0 ++ num4 x.d1 ++ num4 x.d2 ++ num4 x.d3 ++ num4 x.d4 ++ num4 x.d5 ++ num4 x.d6 ++ num4 x.d7 ++ num4 x.n) (List.replicate 16 0) x.m 44 rfl
    rw [v4 _ h5] at this
    rw [← this]
    simp only [packI, bodyI, headI, List.append_assoc]
  unfold readI
  rw [hk, hl, h_s, h_d0, h_d1, h_d2, h_d3, h_d4, h_d5, h_d6, h_d7, h_n, h_m]
end Go.Proofs.Ytdjncafofcpoiaa.Given
