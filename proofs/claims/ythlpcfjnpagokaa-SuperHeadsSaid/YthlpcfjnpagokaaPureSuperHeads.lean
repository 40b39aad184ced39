/- SuperHeads: the head of every group, by any bits, and the bits that are read from any head; for every geometry, group and rows of bytes; no condition. -/
import Derived.Test.YthlpcfjnpagokaaPSuperHeadsx
import Derived.Test.YthlpcfjnpagokaaPlainHeadFns
namespace Go.Proofs.Ythlpcfjnpagokaa.Pure
open Go.RowKit Go.Proofs.Ythlpcfjnpagokaa.PSuperHeads Go.Proofs.Ythlpcfjnpagokaa.PHeadFns Go.Proofs.Ythlpcfjnpagokaa.PNum Go.Proofs.Ythlpcfjnpagokaa.PCheck Go.Proofs.Ythlpcfjnpagokaa.Given Go.Proofs.YthlpcfjnpagokaaW.PrintWords Go.Proofs.YthlpcfjnpagokaaW.PrintLast Go.Proofs.Ythlpcfjnpagokaa.PlainHeadFns
set_option linter.unusedVariables false
set_option linter.unusedSimpArgs false

/-! bits -/
def bit (b : Int) (s : Nat) : Bool := decide (b / 2 ^ s % 2 = 1)
def clr (b : Int) (s : Nat) : Int := Go.bits .andNot .u8 b (shl .u8 1 s)
def sett (b : Int) (s : Nat) : Int := Go.bits .or .u8 b (shl .u8 1 s)
theorem bit_get : ∀ b : Fin 256, ∀ s : Fin 8, (Go.bits .and .u8 (shr .u8 (b.val : Int) (s.val : Int)) 1 != 0) = bit (b.val : Int) s.val ∧ (Go.bits .and .u8 (shr .u8 (b.val : Int) (s.val : Int)) 1 == 1) = bit (b.val : Int) s.val := by decide +kernel
theorem sett_rng : ∀ b : Fin 256, ∀ s : Fin 8, 0 ≤ sett (b.val : Int) s.val ∧ sett (b.val : Int) s.val < 256 := by decide +kernel
theorem sett_bit : ∀ b : Fin 256, ∀ s t : Fin 8, bit (sett (b.val : Int) s.val) t.val = if t = s then true else bit (b.val : Int) t.val := by decide +kernel
theorem clr_same : ∀ b : Fin 256, ∀ s : Fin 8, bit (b.val : Int) s.val = false → clr (b.val : Int) s.val = (b.val : Int) := by decide +kernel

def Bytes (l : List Int) : Prop := ∀ x ∈ l, 0 ≤ x ∧ x < 256
theorem bytes_getD {l : List Int} (h : Bytes l) (j : Nat) : 0 ≤ l.getD j 0 ∧ l.getD j 0 < 256 := by
  rw [List.getD_eq_getElem?_getD]
  by_cases hj : j < l.length
  · simp [hj]; exact h _ (List.getElem_mem hj)
  · simp [List.getElem?_eq_none (Nat.le_of_not_lt hj)]
def gb (l : List Int) (i : Nat) : Bool := decide (i / 8 < l.length) && bit (l.getD (i / 8) 0) (i % 8)
theorem div8 (i : Nat) (hi : i < 100000) : wrap64 (Int.tdiv (i : Int) 8) = ((i / 8 : Nat) : Int) := by
  rw [Int.tdiv_eq_ediv_of_nonneg (by omega)]; unfold wrap64; omega
theorem mod8 (i : Nat) : Int.tmod (i : Int) 8 = ((i % 8 : Nat) : Int) := by rw [Int.tmod_eq_emod_of_nonneg (by omega)]; omega
theorem u64_id (n : Nat) (h : n < 8) : IntKind.u64.wrap ((n : Nat) : Int) = (n : Int) := by
  have : ∀ i : Fin 8, IntKind.u64.wrap ((i.val : Nat) : Int) = (i.val : Int) := by decide +kernel
  exact this ⟨n, h⟩
theorem gets (l : List Int) (h : Bytes l) (i : Nat) (hi : i < 100000) : bits_Get.f l (i : Int) = some (gb l i) ∧ lockgateref1_Get.f l (i : Int) = some (gb l i) := by
  have hb := bytes_getD h (i / 8)
  obtain ⟨g1, g2⟩ := bit_get ⟨(l.getD (i / 8) 0).toNat, by omega⟩ ⟨i % 8, by omega⟩
  simp only [Int.toNat_of_nonneg hb.1] at g1 g2
  have hn : (0 : Int) ≤ (i : Int) := by omega
  have hn8 : (0 : Int) ≤ ((i / 8 : Nat) : Int) := by omega
  have hn9 : (0 : Int) ≤ ((i % 8 : Nat) : Int) := by omega
  unfold bits_Get.f lockgateref1_Get.f gb
  rw [if_pos hn, if_pos hn, div8 i hi, mod8, u64_id _ (by omega)]
  by_cases hl : i / 8 < l.length
  · have hl' : ((i / 8 : Nat) : Int) < (l.length : Int) := by omega
    rw [if_pos hl', if_pos hl', if_pos hn8, if_pos hn8, if_pos hn9, if_pos hn9]
    simp only [rd, Int.toNat_natCast, g1, g2, hl, decide_true, Bool.true_and]
    exact ⟨trivial, trivial⟩
  · have hl' : ¬ ((i / 8 : Nat) : Int) < (l.length : Int) := by omega
    rw [if_neg hl', if_neg hl']
    simp [hl]

/-- a bit is set where it is to be -/
def stepB (out : List Int) (i : Nat) (b : Bool) : List Int := if b then out.set (i / 8) (sett (out.getD (i / 8) 0) (i % 8)) else out
def Inv (out : List Int) (i : Nat) : Prop := Bytes out ∧ ∀ t, i ≤ t → bit (out.getD (t / 8) 0) (t % 8) = false
theorem stepB_len (out : List Int) (i : Nat) (b : Bool) : (stepB out i b).length = out.length := by unfold stepB; split <;> simp
theorem getD_set (l : List Int) (j m : Nat) (v : Int) : (l.set j v).getD m 0 = if j = m ∧ j < l.length then v else l.getD m 0 := by
  rw [List.getD_eq_getElem?_getD, List.getD_eq_getElem?_getD, List.getElem?_set]
  by_cases h : j = m
  · subst h
    by_cases h2 : j < l.length <;> simp [h2]
  · simp [h]
theorem inv_step {out : List Int} {i : Nat} (h : Inv out i) (hi : i / 8 < out.length) (b : Bool) : Inv (stepB out i b) (i + 1) := by
  unfold stepB
  split
  · have hb := bytes_getD h.1 (i / 8)
    have hs := sett_rng ⟨(out.getD (i / 8) 0).toNat, by omega⟩ ⟨i % 8, by omega⟩
    simp only [Int.toNat_of_nonneg hb.1] at hs
    refine ⟨fun x hx => ?_, fun t ht => ?_⟩
    · rcases List.mem_or_eq_of_mem_set hx with h1 | h1
      · exact h.1 x h1
      · rw [h1]; exact hs
    · rw [getD_set]
      by_cases he : i / 8 = t / 8
      · rw [if_pos ⟨he, hi⟩]
        have := sett_bit ⟨(out.getD (i / 8) 0).toNat, by omega⟩ ⟨i % 8, by omega⟩ ⟨t % 8, by omega⟩
        simp only [Int.toNat_of_nonneg hb.1] at this
        rw [this, if_neg (by simp only [Fin.mk.injEq]; omega), he]
        exact h.2 t (by omega)
      · rw [if_neg (by omega)]
        exact h.2 t (by omega)
  · exact ⟨h.1, fun t ht => h.2 t (by omega)⟩
theorem inv_zero (n : Nat) : Inv (List.replicate n 0) 0 := by
  refine ⟨fun x hx => by have := (List.mem_replicate.1 hx).2; omega, fun t _ => ?_⟩
  have : (List.replicate n (0 : Int)).getD (t / 8) 0 = 0 := by
    rw [List.getD_eq_getElem?_getD, List.getElem?_replicate]
    split <;> rfl
  rw [this]
  unfold bit
  simp
/-- the reference's way to set a bit -/
theorem with_is {out : List Int} {i : Nat} (h : Inv out i) (hi : i / 8 < out.length) (hi2 : i < 100000) (hl : out.length < 100000) (b : Bool) (k : Nat) (hk : 2 ≤ k) : lockgateref1_With.f k out (i : Int) b = some (stepB out i b) := by
  obtain ⟨k, rfl⟩ : ∃ m, k = m + 1 := ⟨k - 1, by omega⟩
  have hb := bytes_getD h.1 (i / 8)
  have hc := clr_same ⟨(out.getD (i / 8) 0).toNat, by omega⟩ ⟨i % 8, by omega⟩
  simp only [Int.toNat_of_nonneg hb.1] at hc
  have hcl := hc (h.2 i (Nat.le_refl _))
  unfold clr at hcl
  have hself : out.set (i / 8) (out.getD (i / 8) 0) = out := by
    apply List.ext_getElem?
    intro j
    rw [List.getElem?_set]
    by_cases hj : i / 8 = j
    · subst hj
      rw [if_pos rfl, if_pos hi, List.getD_eq_getElem?_getD, List.getElem?_eq_getElem hi]
      rfl
    · rw [if_neg hj]
  unfold lockgateref1_With.f
  have c0 : ([] : List Int).length + out.length < 140737488355328 := by simp; omega
  rw [if_pos c0, List.nil_append, Option.bind_some, if_neg (by omega), div8 i hi2, decide_eq_false (by omega)]
  simp only [lockgateref1_With.j0, Bool.false_eq_true, if_false]
  rw [div8 i hi2, mod8, u64_id _ (by omega), if_pos (by omega), if_pos (by omega), if_pos (by omega), Int.toNat_natCast]
  have hrd : rd out ((i / 8 : Nat) : Int) = out.getD (i / 8) 0 := by unfold rd; rw [Int.toNat_natCast]
  rw [hrd, hcl, hself, Option.bind_some, hrd]
  unfold stepB sett
  cases b <;> rfl

def run (g : Nat → Bool) : Nat → Nat → List Int → List Int
  | _, 0, out => out
  | i, d + 1, out => run g (i + 1) d (stepB out i (g i))
theorem run_len (g : Nat → Bool) : ∀ (d i : Nat) (out : List Int), (run g i d out).length = out.length
  | 0, _, _ => rfl
  | d + 1, i, out => by rw [run, run_len g d, stepB_len]
theorem run_congr (g g' : Nat → Bool) : ∀ (d i : Nat) (out : List Int), (∀ t, i ≤ t → t < i + d → g t = g' t) → run g i d out = run g' i d out
  | 0, _, _, _ => rfl
  | d + 1, i, out, h => by
    rw [run, run, h i (Nat.le_refl _) (by omega), run_congr g g' d (i + 1) _ (fun t h1 h2 => h t (by omega) (by omega))]
theorem stepB_app (out Z : List Int) (i : Nat) (hi : i / 8 < out.length) (b : Bool) : stepB (out ++ Z) i b = stepB out i b ++ Z := by
  unfold stepB
  split
  · have e : (out ++ Z).getD (i / 8) 0 = out.getD (i / 8) 0 := by
      rw [List.getD_eq_getElem?_getD, List.getElem?_append_left hi, ← List.getD_eq_getElem?_getD]
    rw [e, List.set_append, if_pos hi]
  · rfl
theorem run_app (g : Nat → Bool) (Z : List Int) : ∀ (d i : Nat) (out : List Int), i + d ≤ 8 * out.length → run g i d (out ++ Z) = run g i d out ++ Z
  | 0, _, _, _ => rfl
  | d + 1, i, out, h => by
    rw [run, run, stepB_app out Z i (by omega), run_app g Z d (i + 1) _ (by rw [stepB_len]; omega)]

theorem row_loop (l : List Int) (hl : Bytes l) : ∀ (d i k : Nat) (n : Int) (out : List Int), (i : Int) + d = n → i + d ≤ 8 * out.length → i + d < 50000 → out.length < 100000 → d < k → Inv out i → super_row.l0 k l out n (i : Int) = some (run (gb l) i d out)
  | 0, i, k, n, out, h, _, _, _, hk, _ => by
    obtain ⟨k, rfl⟩ : ∃ m, k = m + 1 := ⟨k - 1, by omega⟩
    simp only [super_row.l0]
    rw [if_neg (by omega)]
    rfl
  | d + 1, i, k, n, out, h, h1, h2, h3, hk, hinv => by
    obtain ⟨k, rfl⟩ : ∃ m, k = m + 1 := ⟨k - 1, by omega⟩
    have hi : i / 8 < out.length := by omega
    have w3 : wrap64 ((i : Int) + 1) = ((i + 1 : Nat) : Int) := wrap_id _ (by omega)
    have c1 : (i : Int) < n := by omega
    have c2 : (0 : Int) ≤ ((i / 8 : Nat) : Int) := by omega
    have c3 : ((i / 8 : Nat) : Int) < (out.length : Int) := by omega
    have c4 : (0 : Int) ≤ ((i % 8 : Nat) : Int) := by omega
    have ih := row_loop l hl d (i + 1) k n (stepB out i (gb l i)) (by omega) (by rw [stepB_len]; omega) (by omega) (by rw [stepB_len]; exact h3) (by omega) (inv_step hinv hi _)
    have hrd : rd out ((i / 8 : Nat) : Int) = out.getD (i / 8) 0 := by unfold rd; rw [Int.toNat_natCast]
    simp only [super_row.l0]
    rw [if_pos c1, (gets l hl i (by omega)).1, Option.bind_some, div8 i (by omega), mod8, w3, if_pos c2, if_pos c3, if_pos c4, Int.toNat_natCast, hrd, run, ← ih]
    unfold stepB sett
    cases gb l i <;> simp
theorem row_is (l : List Int) (hl : Bytes l) (n size k : Nat) (h : n ≤ 8 * size) (h2 : n < 50000) (h3 : size < 100000) (hk : n < k) : super_row.f k l (n : Int) (size : Int) = some (run (gb l) 0 n (List.replicate size 0)) := by
  unfold super_row.f
  rw [if_pos (by omega), if_pos (by omega), Int.toNat_natCast]
  exact row_loop l hl n 0 k n (List.replicate size 0) (by omega) (by simp; omega) (by omega) (by simp; omega) hk (inv_zero size)

/-! number, put -/
theorem number2 (k : Nat) (n : Int) (hk : 5 ≤ k) : super_number_int.f k n 2 = some [n % 256, n / 256 % 256] := by
  obtain ⟨k, rfl⟩ : ∃ m, k = m + 3 := ⟨k - 3, by omega⟩
  unfold super_number_int.f
  have := number_step (k + 2) [] n 2 0 1 0 rfl rfl (by omega) (by omega) (by simp)
  rw [Int.natCast_zero] at this
  rw [this, number_step (k + 1) _ n 2 1 2 8 rfl rfl (by omega) (by omega) (by simp)]
  simp only [super_number_int.l0]
  rw [if_neg (by omega)]
  simp
theorem put2 (k : Nat) (xs : List Int) (n : Int) (h : xs.length < 90000) (hk : 5 ≤ k) : lockgateref1_put.f k xs n 2 = some (xs ++ [n % 256, n / 256 % 256]) := by
  obtain ⟨k, rfl⟩ : ∃ m, k = m + 3 := ⟨k - 3, by omega⟩
  unfold lockgateref1_put.f
  have := put_step (k + 2) xs n 2 0 1 0 rfl rfl (by omega) (by omega) (by omega)
  rw [Int.natCast_zero] at this
  rw [this, put_step (k + 1) _ n 2 1 2 8 rfl rfl (by omega) (by omega) (by simp; omega)]
  simp only [lockgateref1_put.l0]
  rw [if_neg (by omega)]
  simp

/-! heads -/
def InG (g n : Int) : Prop := 0 ≤ n ∧ n < g
instance (g n : Int) : Decidable (InG g n) := by unfold InG; infer_instance
theorem head_loop (g n i d : Int) (hg : g ≤ 8) : ∀ (dd j k : Nat), (j : Int) + dd = g → dd < k → (j : Int) ≤ n ∨ n < 0 ∨ g ≤ n → ∃ h, geom_Head.l0 k n g (j : Int) g i d = some (h, decide (InG g n))
  | 0, j, k, h, hk, hn => by
    obtain ⟨k, rfl⟩ : ∃ m, k = m + 1 := ⟨k - 1, by omega⟩
    simp only [geom_Head.l0]
    have c : ¬ InG g n := by unfold InG; omega
    rw [if_neg (by omega), decide_eq_false c]
    exact ⟨_, rfl⟩
  | dd + 1, j, k, h, hk, hn => by
    obtain ⟨k, rfl⟩ : ∃ m, k = m + 1 := ⟨k - 1, by omega⟩
    have w3 : wrap64 ((j : Int) + 1) = ((j + 1 : Nat) : Int) := wrap_id _ (by omega)
    simp only [geom_Head.l0]
    rw [if_pos (by omega)]
    by_cases he : (j : Int) = n
    · have c : InG g n := by unfold InG; omega
      rw [if_pos he, decide_eq_true c]
      exact ⟨_, rfl⟩
    · rw [if_neg he, w3]
      exact head_loop g n i d hg dd (j + 1) k (by omega) (by omega) (by omega)
theorem heads (g i d n : Int) (k : Nat) (hk : 20 ≤ k) : (∃ h, geom_Head.f k g i d n = some (h, decide (Fine g i d ∧ InG g n))) ∧ ∃ h, lockgateref1_Head.f g i d n = some (h, decide (Fine g i d ∧ InG g n)) := by
  unfold geom_Head.f lockgateref1_Head.f
  rw [good_is, Option.bind_some]
  by_cases hf : Fine g i d
  · rw [check_fine hf, Option.bind_some, if_pos rfl, decide_eq_true hf, if_pos rfl]
    have e : decide (Fine g i d ∧ InG g n) = decide (InG g n) := by simp [hf]
    rw [e]
    obtain ⟨f1, f2, _⟩ := hf
    obtain ⟨m, rfl⟩ : ∃ m : Nat, g = m := ⟨g.toNat, by omega⟩
    refine ⟨head_loop m n i d f2 m 0 k (by omega) (by omega) (by omega), ?_⟩
    by_cases c1 : n < 0
    · have c : ¬ InG m n := by unfold InG; omega
      rw [if_pos c1, decide_eq_false c]; exact ⟨_, rfl⟩
    · rw [if_neg c1]
      by_cases c2 : n ≥ m
      · have c : ¬ InG m n := by unfold InG; omega
        rw [if_pos c2, decide_eq_false c]; exact ⟨_, rfl⟩
      · have c : InG m n := by unfold InG; omega
        rw [if_neg c2, decide_eq_true c]; exact ⟨_, rfl⟩
  · rw [check_not hf, Option.bind_some, if_neg (by decide), decide_eq_false hf, if_neg (by simp), decide_eq_false (fun h => hf h.1)]
    exact ⟨⟨_, rfl⟩, _, rfl⟩

def headBytes (n : Int) (l2 l3 : List Int) (a b : Nat) : List Int :=
  [67, 71] ++ [n % 256, n / 256 % 256] ++ List.replicate 12 0 ++ run (gb l2) 0 (16 * a) (List.replicate 8 0) ++ List.replicate 40 0 ++ run (gb l3) 0 b (List.replicate ((b + 7) / 8) 0) ++ List.replicate (960 - (b + 7) / 8) 0

theorem size_is (b : Nat) (hb : b ≤ 1000) : wrap64 (Int.tdiv (wrap64 ((b : Int) + 7)) 8) = (((b + 7) / 8 : Nat) : Int) := by
  rw [show wrap64 ((b : Int) + 7) = ((b + 7 : Nat) : Int) from wrap_id _ (by omega), div8 (b + 7) (by omega)]
theorem head_is (g n : Int) (a b : Nat) (l2 l3 : List Int) (h2 : Bytes l2) (h3 : Bytes l3) (hf : Fine g a b) (hn : InG g n) (k : Nat) (hk : 2000 ≤ k) : super_Head.f k g a b n l2 l3 = some (headBytes n l2 l3 a b, 0) := by
  obtain ⟨⟨h, e⟩, _⟩ := heads g a b n k (by omega)
  rw [decide_eq_true ⟨hf, hn⟩] at e
  obtain ⟨f1, f2, f3, f4, f5, f6⟩ := hf
  have r1 := row_is l2 h2 (16 * a) 8 k (by omega) (by omega) (by omega) (by omega)
  have r2 := row_is l3 h3 b ((b + 7) / 8) k (by omega) (by omega) (by omega) (by omega)
  have w : wrap64 ((a : Int) * 16) = ((16 * a : Nat) : Int) := by rw [show ((16 * a : Nat) : Int) = (a : Int) * 16 from by omega]; exact wrap_id _ (by omega)
  have r1' : super_row.f k l2 ((16 * a : Nat) : Int) 8 = _ := r1
  unfold super_Head.f
  rw [e, Option.bind_some, if_pos rfl, number2 k n (by omega), Option.bind_some, w, r1', Option.bind_some, size_is b (by omega), r2, Option.bind_some, if_pos]
  · rw [run_len, List.length_replicate]
    rfl
  · rw [run_len, run_len, List.length_replicate, List.length_replicate]
    exact ⟨rfl, rfl, by omega⟩

theorem with_loop1 (l2 l3 x9 : List Int) (h2 : Bytes l2) (g : Int) (a b : Nat) (ha : a ≤ 4) : ∀ (d i k : Nat) (out : List Int), i + d = 16 * a → i + d ≤ 8 * out.length → out.length < 1000 → d + 3 < k → Inv out i →
    lockgateref1_PackHead.l0 k l2 l3 x9 out (i : Int) g a b = lockgateref1_PackHead.l1 (k - d - 1) l3 x9 (run (gb l2) i d out) (List.replicate 960 0) 0 g a b
  | 0, i, k, out, h, _, _, hk, _ => by
    obtain ⟨k, rfl⟩ : ∃ m, k = m + 1 := ⟨k - 1, by omega⟩
    have w : wrap64 (16 * (a : Int)) = ((16 * a : Nat) : Int) := by rw [show ((16 * a : Nat) : Int) = 16 * (a : Int) from by omega]; exact wrap_id _ (by omega)
    simp only [lockgateref1_PackHead.l0]
    rw [w, if_neg (by omega), if_pos (by decide)]
    rfl
  | d + 1, i, k, out, h, h1, h3, hk, hinv => by
    obtain ⟨k, rfl⟩ : ∃ m, k = m + 1 := ⟨k - 1, by omega⟩
    have hi : i / 8 < out.length := by omega
    have w : wrap64 (16 * (a : Int)) = ((16 * a : Nat) : Int) := by rw [show ((16 * a : Nat) : Int) = 16 * (a : Int) from by omega]; exact wrap_id _ (by omega)
    have w3 : wrap64 ((i : Int) + 1) = ((i + 1 : Nat) : Int) := wrap_id _ (by omega)
    have c1 : (i : Int) < ((16 * a : Nat) : Int) := by omega
    have ih := with_loop1 l2 l3 x9 h2 g a b ha d (i + 1) k (stepB out i (gb l2 i)) (by omega) (by rw [stepB_len]; omega) (by rw [stepB_len]; exact h3) (by omega) (inv_step hinv hi _)
    rw [show k + 1 - (d + 1) - 1 = k - d - 1 from by omega, run, ← ih]
    conv => lhs; unfold lockgateref1_PackHead.l0
    rw [w, if_pos c1, (gets l2 h2 i (by omega)).2, Option.bind_some, with_is hinv hi (by omega) (by omega) _ k (by omega), Option.bind_some, w3]
theorem with_loop2 (l3 x9 x10 : List Int) (h3 : Bytes l3) (g : Int) (a b : Nat) (hb : b ≤ 1000) : ∀ (d i k : Nat) (out : List Int), i + d = b → i + d ≤ 8 * out.length → out.length < 1000 → d + 3 < k → Inv out i →
    lockgateref1_PackHead.l1 k l3 x9 x10 out (i : Int) g a b = if x9.length + x10.length < 140737488355328 then ((some (x9 ++ x10 : List Int)).bind fun y220 => (if y220.length + (run (gb l3) i d out).length < 140737488355328 then (some (y220 ++ run (gb l3) i d out)) else (none))) else (none)
  | 0, i, k, out, h, _, _, hk, _ => by
    obtain ⟨k, rfl⟩ : ∃ m, k = m + 1 := ⟨k - 1, by omega⟩
    simp only [lockgateref1_PackHead.l1]
    rw [if_neg (by omega)]
    rfl
  | d + 1, i, k, out, h, h1, h4, hk, hinv => by
    obtain ⟨k, rfl⟩ : ∃ m, k = m + 1 := ⟨k - 1, by omega⟩
    have hi : i / 8 < out.length := by omega
    have w3 : wrap64 ((i : Int) + 1) = ((i + 1 : Nat) : Int) := wrap_id _ (by omega)
    have c1 : (i : Int) < (b : Int) := by omega
    have ih := with_loop2 l3 x9 x10 h3 g a b hb d (i + 1) k (stepB out i (gb l3 i)) (by omega) (by rw [stepB_len]; omega) (by rw [stepB_len]; exact h4) (by omega) (inv_step hinv hi _)
    rw [run, ← ih]
    conv => lhs; unfold lockgateref1_PackHead.l1
    rw [if_pos c1, (gets l3 h3 i (by omega)).2, Option.bind_some, with_is hinv hi (by omega) (by omega) _ k (by omega), Option.bind_some, w3]
theorem packHead_is (g n : Int) (a b : Nat) (l2 l3 : List Int) (h2 : Bytes l2) (h3 : Bytes l3) (hf : Fine g a b) (k : Nat) (hk : 2000 ≤ k) : lockgateref1_PackHead.f k g a b n l2 l3 = some (headBytes n l2 l3 a b) := by
  obtain ⟨f1, f2, f3, f4, f5, f6⟩ := hf
  unfold lockgateref1_PackHead.f
  rw [put2 k _ n (by simp) (by omega), Option.bind_some, show (16 : Int) = ((16 : Nat) : Int) from rfl, fill_at _ 16 (by simp) (by omega), Option.bind_some, if_pos (by decide)]
  have e1 := with_loop1 l2 l3 ([67, 71] ++ [n % 256, n / 256 % 256] ++ List.replicate (16 - ([67, 71] ++ [n % 256, n / 256 % 256] : List Int).length) 0) h2 g a b (by omega) (16 * a) 0 k (List.replicate 48 0) (by omega) (by simp; omega) (by simp) (by omega) (inv_zero 48)
  rw [Int.natCast_zero] at e1
  have e2 := with_loop2 l3 ([67, 71] ++ [n % 256, n / 256 % 256] ++ List.replicate (16 - ([67, 71] ++ [n % 256, n / 256 % 256] : List Int).length) 0) (run (gb l2) 0 (16 * a) (List.replicate 48 0)) h3 g a b (by omega) b 0 (k - 16 * a - 1) (List.replicate 960 0) (by omega) (by rw [List.length_replicate]; omega) (by rw [List.length_replicate]; omega) (by omega) (inv_zero 960)
  rw [Int.natCast_zero] at e2
  have e3 : run (gb l2) 0 (16 * a) (List.replicate 48 0) = run (gb l2) 0 (16 * a) (List.replicate 8 0) ++ List.replicate 40 0 := by
    rw [← run_app _ _ _ _ _ (by simp; omega), List.replicate_append_replicate]
  have e4 : run (gb l3) 0 b (List.replicate 960 0) = run (gb l3) 0 b (List.replicate ((b + 7) / 8) 0) ++ List.replicate (960 - (b + 7) / 8) 0 := by
    rw [← run_app _ _ _ _ _ (by simp; omega), List.replicate_append_replicate]
    congr 2
    omega
  rw [e1, e2, e3, e4, if_pos (by simp only [List.length_append, run_len, List.length_replicate, List.length_cons, List.length_nil]; omega), Option.bind_some, if_pos (by simp only [List.length_append, run_len, List.length_replicate, List.length_cons, List.length_nil]; omega)]
  refine congrArg some ?_
  unfold headBytes
  simp only [List.append_assoc, List.length_append, List.length_cons, List.length_nil]

theorem bytes_take {l : List Int} (h : Bytes l) (a b : Nat) : Bytes ((l.take a).drop b) := fun x hx => h x (List.mem_of_mem_take (List.mem_of_mem_drop hx))
theorem bytes_drop {l : List Int} (h : Bytes l) (b : Nat) : Bytes (l.drop b) := fun x hx => h x (List.mem_of_mem_drop hx)
theorem bits_loop1 (l : List Int) (hl : Bytes l) (hlen : l.length = 1024) (g : Int) (a b : Nat) (ha : a ≤ 4) (hb : b ≤ 1000) : ∀ (d i k : Nat) (out : List Int), i + d = 16 * a → i + d ≤ 8 * out.length → out.length < 1000 → d + 3 < k → Inv out i →
    lockgateref1_HeadBits.l0 k l out (i : Int) g a b = lockgateref1_HeadBits.l1 (k - d - 1) l (run (gb ((l.take 24).drop 16)) i d out) (List.replicate ((b + 7) / 8) 0) 0 g a b
  | 0, i, k, out, h, _, _, hk, _ => by
    obtain ⟨k, rfl⟩ : ∃ m, k = m + 1 := ⟨k - 1, by omega⟩
    have w : wrap64 (16 * (a : Int)) = ((16 * a : Nat) : Int) := by rw [show ((16 * a : Nat) : Int) = 16 * (a : Int) from by omega]; exact wrap_id _ (by omega)
    have c1 : ¬ (i : Int) < ((16 * a : Nat) : Int) := by omega
    have c2 : (0 : Int) ≤ (((b + 7) / 8 : Nat) : Int) := by omega
    have c3 : (b + 7) / 8 ≤ 281474976710656 := by omega
    simp only [lockgateref1_HeadBits.l0]
    rw [w, if_neg c1, size_is b hb, if_pos c2, Int.toNat_natCast, if_pos c3]
    rfl
  | d + 1, i, k, out, h, h1, h3, hk, hinv => by
    obtain ⟨k, rfl⟩ : ∃ m, k = m + 1 := ⟨k - 1, by omega⟩
    have hi : i / 8 < out.length := by omega
    have w : wrap64 (16 * (a : Int)) = ((16 * a : Nat) : Int) := by rw [show ((16 * a : Nat) : Int) = 16 * (a : Int) from by omega]; exact wrap_id _ (by omega)
    have w3 : wrap64 ((i : Int) + 1) = ((i + 1 : Nat) : Int) := wrap_id _ (by omega)
    have c1 : (i : Int) < ((16 * a : Nat) : Int) := by omega
    have c4 : (24 : Int) ≤ (l.length : Int) := by omega
    have ih := bits_loop1 l hl hlen g a b ha hb d (i + 1) k (stepB out i (gb ((l.take 24).drop 16) i)) (by omega) (by rw [stepB_len]; omega) (by rw [stepB_len]; exact h3) (by omega) (inv_step hinv hi _)
    rw [show k + 1 - (d + 1) - 1 = k - d - 1 from by omega, run, ← ih]
    conv => lhs; unfold lockgateref1_HeadBits.l0
    rw [w, if_pos c1, if_pos (by decide), if_pos c4, (gets _ (bytes_take hl 24 16) i (by omega)).2, Option.bind_some, with_is hinv hi (by omega) (by omega) _ k (by omega), Option.bind_some, w3]
theorem bits_loop2 (l x7 : List Int) (hl : Bytes l) (hlen : l.length = 1024) (g : Int) (a b : Nat) (hb : b ≤ 1000) : ∀ (d i k : Nat) (out : List Int), i + d = b → i + d ≤ 8 * out.length → out.length < 1000 → d + 3 < k → Inv out i →
    lockgateref1_HeadBits.l1 k l x7 out (i : Int) g a b = some (x7, run (gb (l.drop 64)) i d out)
  | 0, i, k, out, h, _, _, hk, _ => by
    obtain ⟨k, rfl⟩ : ∃ m, k = m + 1 := ⟨k - 1, by omega⟩
    simp only [lockgateref1_HeadBits.l1]
    rw [if_neg (by omega)]
    rfl
  | d + 1, i, k, out, h, h1, h4, hk, hinv => by
    obtain ⟨k, rfl⟩ : ∃ m, k = m + 1 := ⟨k - 1, by omega⟩
    have hi : i / 8 < out.length := by omega
    have w3 : wrap64 ((i : Int) + 1) = ((i + 1 : Nat) : Int) := wrap_id _ (by omega)
    have c1 : (i : Int) < (b : Int) := by omega
    have c4 : (64 : Int) ≤ (l.length : Int) := by omega
    have ih := bits_loop2 l x7 hl hlen g a b hb d (i + 1) k (stepB out i (gb (l.drop 64) i)) (by omega) (by rw [stepB_len]; omega) (by rw [stepB_len]; exact h4) (by omega) (inv_step hinv hi _)
    rw [run, ← ih]
    conv => lhs; unfold lockgateref1_HeadBits.l1
    rw [if_pos c1, if_pos c4, (gets _ (bytes_drop hl 64) i (by omega)).2, Option.bind_some, with_is hinv hi (by omega) (by omega) _ k (by omega), Option.bind_some, w3]
theorem gb_cut (l : List Int) (m t : Nat) (ht : t / 8 < m) (hm : 64 + m ≤ l.length) : gb (l.drop 64) t = gb ((l.take (64 + m)).drop 64) t := by
  unfold gb
  have e : ((l.take (64 + m)).drop 64).getD (t / 8) 0 = (l.drop 64).getD (t / 8) 0 := by
    rw [List.getD_eq_getElem?_getD, List.getD_eq_getElem?_getD, List.getElem?_drop, List.getElem?_drop, List.getElem?_take, if_pos (by omega)]
  rw [e, decide_eq_true (by rw [List.length_drop]; omega), decide_eq_true (by rw [List.length_drop, List.length_take]; omega)]

theorem bits_both (l : List Int) (hl : Bytes l) (g a b : Int) (k : Nat) (hk : 3000 ≤ k) : ∃ r, super_Bits.f k g a b l = some r ∧ lockgateref1_HeadBits.f k g a b l = some r := by
  obtain ⟨k, rfl⟩ : ∃ m, k = m + 1 := ⟨k - 1, by omega⟩
  unfold super_Bits.f lockgateref1_HeadBits.f
  rw [good_is, Option.bind_some]
  by_cases hf : Fine g a b
  · rw [decide_eq_true hf, if_pos rfl, check_fine hf]
    by_cases hlen : l.length = 1024
    · have hlen' : (l.length : Int) = 1024 := by omega
      rw [if_pos hlen', Option.bind_some, hlen']
      obtain ⟨f1, f2, f3, f4, f5, f6⟩ := hf
      obtain ⟨a, rfl⟩ : ∃ m : Nat, a = m := ⟨a.toNat, by omega⟩
      obtain ⟨b, rfl⟩ : ∃ m : Nat, b = m := ⟨b.toNat, by omega⟩
      have hcnt : super_counts.f g a b = some (wrap64 ((a : Int) * 16), (b : Int)) := rfl
      have w : wrap64 ((a : Int) * 16) = ((16 * a : Nat) : Int) := by rw [show ((16 * a : Nat) : Int) = (a : Int) * 16 from by omega]; exact wrap_id _ (by omega)
      have w2 : wrap64 (64 + (((b + 7) / 8 : Nat) : Int)) = ((64 + (b + 7) / 8 : Nat) : Int) := wrap_id _ (by omega)
      have r1 := row_is ((l.take 24).drop 16) (bytes_take hl _ _) (16 * a) 8 k (by omega) (by omega) (by omega) (by omega)
      have r1' : super_row.f k ((l.take 24).drop 16) ((16 * a : Nat) : Int) 8 = _ := r1
      have r2 := row_is ((l.take (64 + (b + 7) / 8)).drop 64) (bytes_take hl _ _) b ((b + 7) / 8) k (by omega) (by omega) (by omega) (by omega)
      have c4 : (24 : Int) ≤ 1024 := by decide
      have c5 : (64 : Int) ≤ ((64 + (b + 7) / 8 : Nat) : Int) := by omega
      have c6 : ((64 + (b + 7) / 8 : Nat) : Int) ≤ 1024 := by omega
      have e1 := bits_loop1 l hl hlen g a b (by omega) (by omega) (16 * a) 0 k (List.replicate 8 0) (by omega) (by simp; omega) (by simp) (by omega) (inv_zero 8)
      rw [Int.natCast_zero] at e1
      have e2 := bits_loop2 l (run (gb ((l.take 24).drop 16)) 0 (16 * a) (List.replicate 8 0)) hl hlen g a b (by omega) b 0 (k - 16 * a - 1) (List.replicate ((b + 7) / 8) 0) (by omega) (by rw [List.length_replicate]; omega) (by rw [List.length_replicate]; omega) (by omega) (inv_zero _)
      rw [Int.natCast_zero] at e2
      refine ⟨(run (gb ((l.take 24).drop 16)) 0 (16 * a) (List.replicate 8 0), run (gb (l.drop 64)) 0 b (List.replicate ((b + 7) / 8) 0)), ?_, ?_⟩
      · simp only [super_Bits.j0, bne_self_eq_false, Bool.false_eq_true, if_false]
        rw [hcnt, Option.bind_some, if_pos (by decide), hlen', if_pos c4, w, r1', Option.bind_some, size_is b (by omega), w2, if_pos c5, if_pos c6, Int.toNat_natCast, r2, Option.bind_some]
        rw [run_congr (gb ((l.take (64 + (b + 7) / 8)).drop 64)) (gb (l.drop 64)) b 0 _ (fun t _ ht => (gb_cut l ((b + 7) / 8) t (by omega) (by omega)).symm)]
      · simp only [lockgateref1_HeadBits.j0, bne_self_eq_false, Bool.false_eq_true, if_false]
        rw [if_pos (by decide), e1, e2]
    · have hlen' : ¬ (l.length : Int) = 1024 := by omega
      have hb1 : ((l.length : Int) != 1024) = true := by simpa using hlen'
      rw [if_neg hlen', hb1]
      simp only [super_Bits.j0, lockgateref1_HeadBits.j0, if_true]
      exact ⟨_, rfl, rfl⟩
  · have hD : decide (Fine g a b) = false := decide_eq_false hf
    rw [hD, check_not hf, Option.bind_some, show ((1 : Int) != 0) = true from by decide]
    simp only [Bool.false_eq_true, if_false, lockgateref1_HeadBits.j0, super_Bits.j0, if_true]
    refine ⟨([], []), ?_, rfl⟩
    split <;> rfl

theorem SuperHeads_main (g i d n : Int) (l2 l3 l4 : List Int) (h2 : Bytes l2) (h3 : Bytes l3) (h4 : Bytes l4) (K : Nat) (hK : 5000 ≤ K) : lockgatelaw4_SuperHeads.f (K + 5) g i d n l2 l3 l4 = some true := by
  unfold lockgatelaw4_SuperHeads.f
  rw [alive_is, Option.bind_some, if_pos rfl]
  have hskip : lockgatelaw4_SuperHeads.j0 (K + 5) n l2 l3 l4 true true g i d = some true := by simp only [lockgatelaw4_SuperHeads.j0, if_true]
  have hmain : lockgatelaw4_SuperHeads.j0 (K + 5) n l2 l3 l4 true false g i d = some true := by
    simp only [lockgatelaw4_SuperHeads.j0, Bool.false_eq_true, if_false]
    obtain ⟨⟨x1, e1⟩, ⟨x2, e2⟩⟩ := heads g i d n (K + 4) (by omega)
    obtain ⟨r, b1, b2⟩ := bits_both l4 h4 g i d (K + 3) (by omega)
    obtain ⟨r', b1', b2'⟩ := bits_both l4 h4 g i d (K + 2) (by omega)
    have hlast : lockgatelaw4_SuperHeads.j2 (K + 3) l4 false g i d = some true := by
      simp only [lockgatelaw4_SuperHeads.j2, Bool.false_eq_true, if_false]
      rw [b1', Option.bind_some, b2', Option.bind_some, if_pos rfl]
      simp
    by_cases hok : Fine g i d ∧ InG g n
    · rw [decide_eq_true hok] at e1 e2
      have hf := hok.1
      have hin := hok.2
      obtain ⟨f1, f2, f3, f4, f5, f6⟩ := hok.1
      obtain ⟨a, rfl⟩ : ∃ m : Nat, i = m := ⟨i.toNat, by omega⟩
      obtain ⟨b, rfl⟩ : ∃ m : Nat, d = m := ⟨d.toNat, by omega⟩
      have hh := head_is g n a b l2 l3 h2 h3 hf hin (K + 4) (by omega)
      have hp := packHead_is g n a b l2 l3 h2 h3 hf (K + 3) (by omega)
      have hbytes : Bytes (headBytes n l2 l3 a b) := by
        have hrun : ∀ (gg : Nat → Bool) (dd ii : Nat) (out : List Int), ii + dd ≤ 8 * out.length → Inv out ii → Bytes (run gg ii dd out) := by
          intro gg dd
          induction dd with
          | zero => intro ii out _ hi; exact hi.1
          | succ dd ih => intro ii out hle hi; rw [run]; exact ih _ _ (by rw [stepB_len]; omega) (inv_step hi (by omega) _)
        have q1 := hrun (gb l2) (16 * a) 0 (List.replicate 8 0) (by simp; omega) (inv_zero 8)
        have q2 := hrun (gb l3) b 0 (List.replicate ((b + 7) / 8) 0) (by rw [List.length_replicate]; omega) (inv_zero _)
        intro x hx
        unfold headBytes at hx
        simp only [List.mem_append, List.mem_cons, List.not_mem_nil, or_false, List.mem_replicate] at hx
        rcases hx with (((((hx | hx) | hx) | hx) | hx) | hx) | hx
        · omega
        · omega
        · omega
        · exact q1 x hx
        · omega
        · exact q2 x hx
        · omega
      obtain ⟨rb, b3, b4⟩ := bits_both (headBytes n l2 l3 a b) hbytes g a b (K + 3) (by omega)
      rw [hh, Option.bind_some, e2, Option.bind_some]
      simp only [lockgatelaw4_num.f, Option.bind_some]
      rw [if_neg (by decide), if_pos trivial]
      simp only [lockgatelaw4_SuperHeads.j1, Bool.false_eq_true, if_false, if_true]
      rw [b3, Option.bind_some, b4, Option.bind_some, hp, Option.bind_some, if_pos rfl, if_pos rfl, bne_self_eq_false]
      exact hlast
    · rw [decide_eq_false hok] at e1 e2
      have hh : super_Head.f (K + 4) g i d n l2 l3 = some ([], 1) := by
        unfold super_Head.f
        rw [e1, Option.bind_some, if_neg (by simp)]
      rw [hh, Option.bind_some, e2, Option.bind_some]
      simp only [lockgatelaw4_num.f, Option.bind_some]
      rw [if_neg (by decide), if_neg (by simp), if_pos trivial]
      have z : ((([] : List Int).length : Int) != 0) = false := by decide
      rw [z]
      simp only [lockgatelaw4_SuperHeads.j1, Bool.false_eq_true, if_false]
      rw [b1, Option.bind_some, b2, Option.bind_some, if_pos rfl]
      simp
  by_cases c1 : (l2.length : Int) > 2000
  · rw [if_pos c1]; exact hskip
  rw [if_neg c1]
  by_cases c2 : (l3.length : Int) > 2000
  · rw [if_pos c2]; exact hskip
  rw [if_neg c2]
  by_cases c3 : (l4.length : Int) > 3000
  · rw [decide_eq_true c3]; exact hskip
  · rw [decide_eq_false c3]; exact hmain

theorem SuperHeads : ∀ (a0_0 : Int) (a0_1 : Int) (a0_2 : Int) (a1 : Int) (l2 : (List Int)) (l3 : (List Int)) (l4 : (List Int)), (Lit.int .i64 a0_0).wf = true → (Lit.int .i64 a0_1).wf = true → (Lit.int .i64 a0_2).wf = true → (Lit.int .i64 a1).wf = true → (l2.length ≤ maxLen ∧ ∀ y ∈ l2, (Lit.int .u8 y).wf = true) → (l3.length ≤ maxLen ∧ ∀ y ∈ l3, (Lit.int .u8 y).wf = true) → (l4.length ≤ maxLen ∧ ∀ y ∈ l4, (Lit.int .u8 y).wf = true) → ∃ k, lockgatelaw4_SuperHeads.f k a0_0 a0_1 a0_2 a1 l2 l3 l4 = some true := by
  intro g i d n l2 l3 l4 _ _ _ _ h2 h3 h4
  obtain ⟨K, hK⟩ : ∃ K : Nat, 5000 ≤ K := ⟨5000, Nat.le_refl _⟩
  have hb : ∀ l : List Int, (∀ y ∈ l, (Lit.int .u8 y).wf = true) → Bytes l := fun l h x hx => by have := bounds_u8 (h x hx); omega
  exact ⟨K + 5, SuperHeads_main g i d n l2 l3 l4 (hb l2 h2.2) (hb l3 h3.2) (hb l4 h4.2) K hK⟩
end Go.Proofs.Ythlpcfjnpagokaa.Pure
