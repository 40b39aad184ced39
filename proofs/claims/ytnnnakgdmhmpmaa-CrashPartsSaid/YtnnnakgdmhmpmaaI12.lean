/- CrashParts, the plain law: which bytes a block may be found with. -/
import Derived.Test.YtnnnakgdmhmpmaaI9
namespace Go.Proofs.Ytnnnakgdmhmpmaa.Given
open Go.RowKit Go.Proofs.YtnnnakgdmhmpmaaW.PrintWords Go.Proofs.YtnnnakgdmhmpmaaBase
set_option linter.unusedVariables false
set_option linter.unusedSimpArgs false

def wasB (l : List Int) (j : Nat) : Int := l.getD j 0
noncomputable def stQ (l : List Int) : Nat → List PS
  | 0 => []
  | m + 1 => partS (stQ l m) 2 5 (blk [wasB l m])
theorem mem_addS {l : List ByteArray} {i j : ByteArray} : j ∈ addS l i ↔ j ∈ l ∨ j = i := by
  unfold addS
  split
  · rename_i h
    refine ⟨.inl, ?_⟩
    rintro (h1 | rfl)
    · exact h1
    · exact h
  · simp
theorem stQ_one (l : List Int) : ∀ m, 0 < m → ∃ ever, stQ l m = [⟨2, 5, ever⟩] ∧ ∀ s, s ∈ ever ↔ s = blk [] ∨ ∃ j, j < m ∧ s = blk [wasB l j]
  | 0, h => absurd h (Nat.lt_irrefl _)
  | 1, _ => by
    refine ⟨addS [blk []] (blk [wasB l 0]), rfl, fun s => ?_⟩
    rw [mem_addS, List.mem_singleton]
    constructor
    · rintro (h | h)
      · exact .inl h
      · exact .inr ⟨0, by omega, h⟩
    · rintro (h | ⟨j, hj, h⟩)
      · exact .inl h
      · obtain rfl : j = 0 := by omega
        exact .inr h
  | m + 2, _ => by
    obtain ⟨ever, h1, h2⟩ := stQ_one l (m + 1) (by omega)
    refine ⟨addS ever (blk [wasB l (m + 1)]), ?_, fun s => ?_⟩
    · have : stQ l (m + 2) = partS (stQ l (m + 1)) 2 5 (blk [wasB l (m + 1)]) := rfl
      rw [this, h1]
      simp [partS]
    · rw [mem_addS, h2 s]
      constructor
      · rintro ((h | ⟨j, hj, h⟩) | h)
        · exact .inl h
        · exact .inr ⟨j, by omega, h⟩
        · exact .inr ⟨m + 1, by omega, h⟩
      · rintro (h | ⟨j, hj, h⟩)
        · exact .inl (.inl h)
        · rcases Nat.lt_succ_iff_lt_or_eq.1 hj with hj | rfl
          · exact .inl (.inr ⟨j, hj, h⟩)
          · exact .inr h
/-- a block that begins with this byte -/
def headB (x : Int) : List Int := zeros.set 0 x
theorem zeros_cons : zeros = 0 :: zeros.drop 1 := by
  have h : zeros.length = 1024 := zeros_len
  cases hz : zeros with
  | nil => rw [hz] at h; cases h
  | cons a r =>
    have : a ∈ zeros := by rw [hz]; simp
    unfold zeros at this
    rw [(List.mem_replicate.1 this).2]
    rfl
theorem headB_cons (x : Int) : headB x = x :: zeros.drop 1 := by
  unfold headB
  conv => lhs; rw [zeros_cons]
  rfl
theorem headB_len (x : Int) : (headB x).length = 1024 := by
  unfold headB
  rw [List.length_set, zeros_len]
theorem blk_head (x : Int) : blk (headB x) = strOfNums (headB x) := by
  unfold blk blkL
  rw [headB_len, List.take_of_length_le (by rw [headB_len]; exact Nat.le_refl _), List.drop_eq_nil_of_le (by rw [zeros_len]; exact Nat.le_refl _), List.append_nil]
theorem blk_one (x : Int) : blk [x] = strOfNums (headB x) := by
  unfold blk blkL
  rw [headB_cons]
  rfl
theorem blk_none : blk [] = strOfNums (headB 0) := by
  unfold blk blkL
  rw [headB_cons, ← zeros_cons]
  rfl
theorem u8_inj {x y : Int} (hx : 0 ≤ x ∧ x ≤ 255) (hy : 0 ≤ y ∧ y ≤ 255) (h : UInt8.ofNat x.toNat = UInt8.ofNat y.toNat) : x = y := by
  have h2 := congrArg UInt8.toNat h
  rw [UInt8.toNat_ofNat', UInt8.toNat_ofNat'] at h2
  omega
theorem head_inj {x y : Int} (hx : 0 ≤ x ∧ x ≤ 255) (hy : 0 ≤ y ∧ y ≤ 255) : strOfNums (headB x) = strOfNums (headB y) ↔ x = y := by
  refine ⟨fun h => ?_, fun h => by rw [h]⟩
  rw [headB_cons, headB_cons] at h
  unfold strOfNums at h
  simp only [List.map_cons, ByteArray.mk.injEq, Array.mk.injEq, List.cons.injEq] at h
  first | exact u8_inj hx hy h.1 | exact u8_inj hx hy h
/-- the nodes that are found -/
abbrev nB (pos : Int) (f : Int) : List S29 := [⟨1, 2, 0, 0, [], []⟩, ⟨2, 1, 0, 0, [⟨pos, headB f⟩], []⟩]
theorem maybe_nB (l : List Int) (hl : ∀ j, j < l.length → 0 ≤ wasB l j ∧ wasB l j ≤ 255) (f : Int) (hf : 0 ≤ f ∧ f ≤ 255) : MayBe [] (stQ l l.length) (nB 5 f) ↔ f = 0 ∨ ∃ j, j < l.length ∧ wasB l j = f := by
  have h1 : MayBe [] (stQ l l.length) (nB 5 f) ↔ BlockOk (stQ l l.length) 2 ⟨5, headB f⟩ := by
    unfold MayBe nB NodeOk
    simp
  rw [h1]
  unfold BlockOk
  simp only
  rw [blk_head, blk_none, head_inj hf (by omega)]
  rcases Nat.eq_zero_or_pos l.length with h0 | h0
  · rw [h0]
    simp [stQ]
  · obtain ⟨ever, e1, e2⟩ := stQ_one l l.length h0
    rw [e1]
    constructor
    · rintro (h | ⟨x, hx, _, _, h⟩)
      · exact .inl h
      · rw [List.mem_singleton] at hx
        subst hx
        rcases (e2 _).1 h with h | ⟨j, hj, h⟩
        · rw [blk_none, head_inj hf (by omega)] at h
          exact .inl h
        · rw [blk_one, head_inj hf (hl j hj)] at h
          exact .inr ⟨j, hj, h.symm⟩
    · rintro (h | ⟨j, hj, h⟩)
      · exact .inl h
      · exact .inr ⟨_, List.mem_singleton.2 rfl, rfl, rfl, (e2 _).2 (.inr ⟨j, hj, by rw [blk_one, h]⟩)⟩
theorem maybe_nB6 (l : List Int) (f : Int) (hf : 0 ≤ f ∧ f ≤ 255) : MayBe [] (stQ l l.length) (nB 6 f) ↔ f = 0 := by
  have h1 : MayBe [] (stQ l l.length) (nB 6 f) ↔ BlockOk (stQ l l.length) 2 ⟨6, headB f⟩ := by
    unfold MayBe nB NodeOk
    simp
  rw [h1]
  unfold BlockOk
  simp only
  rw [blk_head, blk_none, head_inj hf (by omega)]
  constructor
  · rintro (h | ⟨x, hx, _, h, _⟩)
    · exact h
    · rcases Nat.eq_zero_or_pos l.length with h0 | h0
      · rw [h0] at hx
        simp [stQ] at hx
      · obtain ⟨ever, e1, e2⟩ := stQ_one l l.length h0
        rw [e1, List.mem_singleton] at hx
        subst hx
        simp at h
  · exact .inl
end Go.Proofs.Ytnnnakgdmhmpmaa.Given
