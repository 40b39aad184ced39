/- What geom.Group and geom.DataOf tell, and what (*Alloc).set is to do: numbers and lists. -/
import Derived.Test.YtppjeikkodjjhaaA6
namespace Go.Proofs.Ytppjeikkodjjhaa.Given
open Go.RowKit Go.Proofs.YtppjeikkodjjhaaW.PrintWords Go.Proofs.YtppjeikkodjjhaaW.PrintLast Go.Proofs.YtppjeikkodjjhaaW.PrintMore Go.Proofs.YtppjeikkodjjhaaBase Go.Proofs.Ytppjeikkodjjhaa.PGeo Go.Proofs.Ytppjeikkodjjhaa.PGet Go.Proofs.Ytppjeikkodjjhaa.PWith
set_option linter.unusedVariables false
set_option linter.unusedSimpArgs false

theorem w64_id {a : Int} (h0 : -1000000 ≤ a) (h1 : a ≤ 1000000) : wrap64 a = a := by unfold wrap64; omega
theorem mul_small {a b A B : Int} (h0 : 0 ≤ a) (h1 : a ≤ A) (h2 : 0 ≤ b) (h3 : b ≤ B) : 0 ≤ a * b ∧ a * b ≤ A * B := ⟨Int.mul_nonneg h0 h2, Int.mul_le_mul h1 h3 h2 (by omega)⟩
theorem inodes_fine {gr i d : Int} {n p : Nat} (h : Fine gr i d) (hn : gr = (n : Int)) (hp : i * 16 = (p : Int)) : geom_Inodes.f gr i d = some ((n * p : Nat) : Int) := by
  obtain ⟨h1, h2, h3, h4, h5, h6⟩ := h
  unfold geom_Inodes.f
  rw [check_fine ⟨h1, h2, h3, h4, h5, h6⟩, Option.bind_some, if_pos rfl]
  obtain ⟨m0, m1⟩ := mul_small (a := gr) (b := i) (A := 8) (B := 4) (by omega) (by omega) (by omega) (by omega)
  have e : gr * i * 16 = ((n * p : Nat) : Int) := by rw [Int.mul_assoc, hp, hn, Int.natCast_mul]
  rw [w64_id (a := gr * i) (by omega) (by omega), w64_id (a := gr * i * 16) (by omega) (by omega), e]
theorem group_in {gr i d : Int} {n p m : Nat} (h : Fine gr i d) (hn : gr = (n : Int)) (hp : i * 16 = (p : Int)) (hm : m < n * p) :
    geom_Group.f gr i d ((m : Int) + 1) = some (((m / p : Nat) : Int), ((m % p : Nat) : Int), true) := by
  have hI := inodes_fine h hn hp
  obtain ⟨h1, h2, h3, h4, h5, h6⟩ := h
  have hp0 : 0 < p := by omega
  have hnp : n * p ≤ 8 * 64 := Nat.mul_le_mul (by omega) (by omega)
  have hmp : m / p ≤ m := Nat.div_le_self m p
  have e1 : Int.tdiv (m : Int) (p : Int) = ((m / p : Nat) : Int) := by rw [Int.tdiv_eq_ediv_of_nonneg (by omega), Int.natCast_ediv]
  have e2 : Int.tmod (m : Int) (p : Int) = ((m % p : Nat) : Int) := by rw [Int.tmod_eq_emod_of_nonneg (by omega), Int.natCast_emod]
  obtain ⟨a, ha⟩ : ∃ a, m / p = a := ⟨_, rfl⟩
  rw [ha] at hmp e1
  rw [ha]
  unfold geom_Group.f
  rw [if_neg (by omega), hI, Option.bind_some, if_neg (by omega), w64_id (a := i * 16) (by omega) (by omega), hp, if_neg (by omega), w64_id (a := (m : Int) + 1 - 1) (by omega) (by omega), show (m : Int) + 1 - 1 = (m : Int) by omega, e1, e2, w64_id (by omega) (by omega)]
theorem group_out {gr i d : Int} {n p : Nat} {ino : Int} (hn : 0 < n → Fine gr i d ∧ gr = (n : Int) ∧ i * 16 = (p : Int)) (h0 : n = 0 → ¬ Fine gr i d) (hm : ino < 1 ∨ ((n * p : Nat) : Int) < ino) : geom_Group.f gr i d ino = some (0, 0, false) := by
  unfold geom_Group.f
  by_cases h1 : ino < 1
  · rw [if_pos h1]
  · rw [if_neg h1]
    rcases Nat.eq_zero_or_pos n with hz | hz
    · rw [inodes_not (h0 hz), Option.bind_some, if_pos (by omega)]
    · obtain ⟨a1, a2, a3⟩ := hn hz
      rw [inodes_fine a1 a2 a3, Option.bind_some, if_pos (by omega)]
/-- which data block a block is -/
def dOf (gr i d block : Int) : Int × Bool := (geom_DataOf.f 1 gr i d block).getD (0, false)
theorem total_fine {gr i d : Int} {n q : Nat} (h : Fine gr i d) (hn : gr = (n : Int)) (hq : d = (q : Int)) : geom_Total.f gr i d = some (1 + (n : Int) * (1 + i + (q : Int))) := by
  obtain ⟨h1, h2, h3, h4, h5, h6⟩ := h
  unfold geom_Total.f
  rw [check_fine ⟨h1, h2, h3, h4, h5, h6⟩, Option.bind_some, if_pos rfl]
  unfold geom_span.f
  rw [Option.bind_some, w64_id (a := 1 + i) (by omega) (by omega), w64_id (a := 1 + i + d) (by omega) (by omega), hn, hq]
  obtain ⟨m0, m1⟩ := mul_small (a := (n : Int)) (b := 1 + i + (q : Int)) (A := 8) (B := 1005) (by omega) (by omega) (by omega) (by omega)
  rw [w64_id (a := (n : Int) * (1 + i + (q : Int))) (by omega) (by omega), w64_id (by omega) (by omega)]
theorem dOf_not {gr i d block : Int} (h : ¬ Fine gr i d) : dOf gr i d block = (0, false) := by
  have : geom_DataOf.f 1 gr i d block = some (0, false) := by
    unfold geom_DataOf.f
    by_cases h1 : block < 1
    · rw [if_pos h1]; simp [geom_DataOf.j0]
    · have ht : geom_Total.f gr i d = some 0 := by
        unfold geom_Total.f
        rw [check_not h, Option.bind_some, if_neg (by omega)]
      rw [if_neg h1, ht, Option.bind_some, decide_eq_true (by omega)]
      simp [geom_DataOf.j0]
  unfold dOf
  rw [this]
  rfl
/-- what the block of s blocks a group is, told by its place -/
theorem dOf_fine {gr i d : Int} {n q : Nat} (h : Fine gr i d) (hn : gr = (n : Int)) (hq : d = (q : Int)) (b : Nat) :
    dOf gr i d ((b : Int) + 1) = if (b : Int) < (n : Int) * (1 + i + (q : Int)) ∧ 1 + i ≤ ((b : Int) % (1 + i + (q : Int))) then (((b : Int) / (1 + i + (q : Int))) * (q : Int) + ((b : Int) % (1 + i + (q : Int)) - 1 - i), true) else (0, false) := by
  have ht := total_fine h hn hq
  obtain ⟨h1, h2, h3, h4, h5, h6⟩ := h
  obtain ⟨s, hs⟩ : ∃ s : Int, 1 + i + (q : Int) = s := ⟨_, rfl⟩
  have hsp : geom_span.f gr i d = some s := by
    unfold geom_span.f
    rw [w64_id (a := 1 + i) (by omega) (by omega), w64_id (by omega) (by omega), hq, hs]
  rw [hs] at ht ⊢
  have hs0 : 0 < s := by omega
  have hs1 : s ≤ 1005 := by omega
  obtain ⟨m0, m1⟩ := mul_small (a := (n : Int)) (b := s) (A := 8) (B := 1005) (by omega) (by omega) (by omega) (by omega)
  have key : geom_DataOf.f 1 gr i d ((b : Int) + 1) = some (if (b : Int) < (n : Int) * s ∧ 1 + i ≤ ((b : Int) % s) then (((b : Int) / s) * (q : Int) + ((b : Int) % s - 1 - i), true) else (0, false)) := by
    unfold geom_DataOf.f
    rw [if_neg (by omega), ht, Option.bind_some]
    by_cases hb : (b : Int) < (n : Int) * s
    · rw [decide_eq_false (by omega)]
      simp only [geom_DataOf.j0]
      rw [if_neg (by simp), hsp, Option.bind_some, if_neg (by omega), Option.bind_some, if_neg (by omega), w64_id (a := (b : Int) + 1 - 1) (by omega) (by omega), show (b : Int) + 1 - 1 = (b : Int) by omega,
        Int.tdiv_eq_ediv_of_nonneg (by omega), Int.tmod_eq_emod_of_nonneg (by omega)]
      have hr0 : 0 ≤ (b : Int) % s := Int.emod_nonneg _ (by omega)
      have hr1 : (b : Int) % s < s := Int.emod_lt_of_pos _ hs0
      have hd0 : 0 ≤ (b : Int) / s := Int.ediv_nonneg (by omega) (by omega)
      have hd1 : (b : Int) / s ≤ (b : Int) := Int.ediv_le_self _ (by omega)
      have hd2 : (b : Int) / s < n := Int.ediv_lt_of_lt_mul hs0 hb
      generalize (b : Int) % s = r at hr0 hr1 ⊢
      generalize (b : Int) / s = e at hd0 hd1 hd2 ⊢
      obtain ⟨q0, q1⟩ := mul_small (a := e) (b := (q : Int)) (A := 7) (B := 1000) (by omega) (by omega) (by omega) (by omega)
      rw [w64_id (a := e) (by omega) (by omega), w64_id (a := r - 1) (by omega) (by omega), w64_id (a := r - 1 - i) (by omega) (by omega), hq, w64_id (a := e * (q : Int)) (by omega) (by omega), w64_id (a := e * (q : Int) + (r - 1 - i)) (by omega) (by omega)]
      by_cases hri : r - 1 - i < 0
      · rw [if_pos hri, if_neg (by omega)]
      · rw [if_neg hri, if_pos ⟨hb, by omega⟩]
    · rw [decide_eq_true (by omega), if_neg (fun h => hb h.1)]
      simp [geom_DataOf.j0]
  unfold dOf
  rw [key]
  rfl
theorem dOf_is {gr i d : Int} (block : Int) : geom_DataOf.f 1 gr i d block = some (dOf gr i d block) := by
  have h : ∃ r, geom_DataOf.f 1 gr i d block = some r := by
    unfold geom_DataOf.f
    by_cases h1 : block < 1
    · exact ⟨_, by rw [if_pos h1]; simp [geom_DataOf.j0]; rfl⟩
    · rw [if_neg h1]
      by_cases hf : Fine gr i d
      · obtain ⟨n, hn⟩ : ∃ n : Nat, gr = (n : Int) := ⟨gr.toNat, by have := hf.1; omega⟩
        obtain ⟨q, hq⟩ : ∃ n : Nat, d = (n : Int) := ⟨d.toNat, by have := hf.2.2.2.2.1; omega⟩
        rw [total_fine hf hn hq, Option.bind_some]
        obtain ⟨h1, h2, h3, h4, h5, h6⟩ := hf
        have hsp : geom_span.f gr i d = some (1 + i + d) := by
          unfold geom_span.f
          rw [w64_id (a := 1 + i) (by omega) (by omega), w64_id (by omega) (by omega)]
        have hne : ¬ 1 + i + d = 0 := by omega
        simp only [geom_DataOf.j0]
        split
        · exact ⟨_, rfl⟩
        · rw [hsp, Option.bind_some, if_neg hne, Option.bind_some, if_neg hne]
          split <;> exact ⟨_, rfl⟩
      · have ht : geom_Total.f gr i d = some 0 := by
          unfold geom_Total.f
          rw [check_not hf, Option.bind_some, if_neg (by omega)]
        rw [ht, Option.bind_some, decide_eq_true (by omega)]
        exact ⟨_, by simp [geom_DataOf.j0]; rfl⟩
  obtain ⟨r, h⟩ := h
  unfold dOf
  rw [h]
  rfl
theorem dOf_range {gr i d : Int} {n q : Nat} (hf : 0 < n → gr = (n : Int) ∧ d = (q : Int) ∧ Fine gr i d) (h0 : n = 0 → ¬ Fine gr i d) {block : Int} (hb : (dOf gr i d block).2 = true) : 0 < n ∧ ∃ k : Nat, k < n * q ∧ (dOf gr i d block).1 = (k : Int) := by
  rcases Nat.eq_zero_or_pos n with hz | hz
  · rw [dOf_not (h0 hz)] at hb
    cases hb
  refine ⟨hz, ?_⟩
  obtain ⟨a1, a2, a3⟩ := hf hz
  by_cases h1 : block < 1
  · have : geom_DataOf.f 1 gr i d block = some (0, false) := by
      unfold geom_DataOf.f
      rw [if_pos h1]; simp [geom_DataOf.j0]
    unfold dOf at hb
    rw [this] at hb
    cases hb
  obtain ⟨b, hbb⟩ : ∃ b : Nat, block = (b : Int) + 1 := ⟨(block - 1).toNat, by omega⟩
  have e := dOf_fine a3 a1 a2 b
  rw [← hbb] at e
  rw [e] at hb ⊢
  split at hb
  case isFalse => cases hb
  rename_i hc
  obtain ⟨hc1, hc2⟩ := hc
  obtain ⟨h1, h2, h3, h4, h5, h6⟩ := a3
  rw [if_pos ⟨hc1, hc2⟩]
  obtain ⟨s, hs⟩ : ∃ s : Int, 1 + i + (q : Int) = s := ⟨_, rfl⟩
  rw [hs] at hc1 hc2 ⊢
  have hs0 : 0 < s := by omega
  have hr1 : (b : Int) % s < s := Int.emod_lt_of_pos _ hs0
  have hd0 : 0 ≤ (b : Int) / s := Int.ediv_nonneg (by omega) (by omega)
  have hd2 : (b : Int) / s < n := Int.ediv_lt_of_lt_mul hs0 hc1
  generalize (b : Int) % s = r at hc2 hr1 ⊢
  generalize (b : Int) / s = e at hd0 hd2 ⊢
  have m0 : 0 ≤ e * (q : Int) := Int.mul_nonneg hd0 (by omega)
  have m2 : (e + 1) * (q : Int) ≤ (n : Int) * (q : Int) := Int.mul_le_mul_of_nonneg_right (by omega) (by omega)
  rw [Int.add_mul, Int.one_mul] at m2
  have e3 : ((n * q : Nat) : Int) = (n : Int) * (q : Int) := by rw [Int.natCast_mul]
  exact ⟨(e * (q : Int) + (r - 1 - i)).toNat, by omega, by simp only; omega⟩
/-- which inode a number is -/
def iOf (n p : Nat) (ino : Int) : Option Nat := if 1 ≤ ino ∧ ino ≤ ((n * p : Nat) : Int) then some (ino - 1).toNat else none
/-- may both be set? -/
def mayI (n p : Nat) (li : List Bool) (ino : Int) (on : Bool) : Bool := ino == 0 || match iOf n p ino with
  | none => false
  | some k => li.getD k false != on
def mayD (gr i d : Int) (ld : List Bool) (block : Int) (on : Bool) : Bool := block == 0 || ((dOf gr i d block).2 && (ld.getD (dOf gr i d block).1.toNat false != on))
def maySet (gr i d : Int) (n p : Nat) (li ld : List Bool) (ino block : Int) (on : Bool) : Bool := mayI n p li ino on && mayD gr i d ld block on
def newI (n p : Nat) (li : List Bool) (ino : Int) (on : Bool) : List Bool := match iOf n p ino with
  | none => li
  | some k => li.set k on
def newD (gr i d : Int) (ld : List Bool) (block : Int) (on : Bool) : List Bool := if block = 0 then ld else ld.set (dOf gr i d block).1.toNat on
/-- a place of n groups of p, by its group -/
theorem place_split {n p k : Nat} (hk : k < n * p) : 0 < p ∧ k / p < n ∧ k % p < p ∧ k / p * p + k % p = k := by
  have hp : 0 < p := by
    rcases Nat.eq_zero_or_pos p with h0 | h0
    · rw [h0] at hk; simp at hk
    · exact h0
  exact ⟨hp, (Nat.div_lt_iff_lt_mul hp).2 hk, Nat.mod_lt _ hp, by rw [Nat.mul_comm]; exact Nat.div_add_mod k p⟩
end Go.Proofs.Ytppjeikkodjjhaa.Given
