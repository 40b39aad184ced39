/- Plain facts on names and entries: numbers and lists alone. -/
import Derived.Test.YthhhklihggpldaaG1
namespace Go.Proofs.Ythhhklihggpldaa.Given
open Go.RowKit Go.Proofs.YthhhklihggpldaaW.PrintWords

theorem ix_neg (c : UInt8) : ∀ l : List UInt8, Lib.indexByte l c < 0 ↔ c ∉ l
  | [] => by simp [Lib.indexByte]
  | b :: l => by
    have ih := ix_neg c l
    have hge : -1 ≤ Lib.indexByte l c := by
      clear ih
      induction l with
      | nil => simp [Lib.indexByte]
      | cons d l ih2 => simp only [Lib.indexByte]; split <;> (try split) <;> omega
    simp only [Lib.indexByte]
    by_cases h : b = c
    · subst h; simp
    · have h' : (b == c) = false := by simpa using h
      rw [h']
      simp only [Bool.false_eq_true, if_false, List.mem_cons, not_or]
      rw [← ih]
      have hs : ¬ c = b := fun e => h e.symm
      by_cases h2 : Lib.indexByte l c = -1
      · simp [h2, hs]
      · have h2' : (Lib.indexByte l c == -1) = false := by simpa using h2
        rw [h2']
        simp only [Bool.false_eq_true, if_false, hs, not_false_eq_true, true_and]
        omega

theorem mem_bytes {xs : List Int} (hx : ∀ x ∈ xs, 0 ≤ x ∧ x < 256) (c : Nat) (hc : c < 256) : UInt8.ofNat c ∈ (strOfNums xs).data.toList ↔ (c : Int) ∈ xs := by
  rw [strOfNums_data, List.mem_map]
  constructor
  · rintro ⟨x, h, e⟩
    have hb := hx x h
    have : x.toNat % 256 = c % 256 := by
      have := congrArg UInt8.toNat e
      simpa [UInt8.toNat_ofNat'] using this
    have : x = c := by omega
    exact this ▸ h
  · intro h
    exact ⟨c, h, by simp⟩

theorem nameOk_of {xs : List Int} (hx : ∀ x ∈ xs, 0 ≤ x ∧ x < 256) : nameOk (strOfNums xs) = decide (1 ≤ xs.length ∧ xs.length ≤ 27 ∧ (0 : Int) ∉ xs ∧ (47 : Int) ∉ xs) := by
  have h0 := mem_bytes hx 0 (by omega)
  have h1 := mem_bytes hx 47 (by omega)
  have i0 := ix_neg 0 (strOfNums xs).data.toList
  have i1 := ix_neg 47 (strOfNums xs).data.toList
  have e0 : ((!(strOfNums xs).toList.isEmpty) = true) ↔ 1 ≤ xs.length := by
    rw [ByteArray.toList_eq, strOfNums_data]
    cases xs <;> simp
  rw [Bool.eq_iff_iff]
  simp only [nameOk, Bool.and_eq_true, decide_eq_true_eq, e0, i0, i1, strOfNums_size]
  have h0' : (0 : UInt8) ∉ (strOfNums xs).data.toList ↔ (0 : Int) ∉ xs := not_congr h0
  have h1' : (47 : UInt8) ∉ (strOfNums xs).data.toList ↔ (47 : Int) ∉ xs := not_congr h1
  rw [h0', h1']
  constructor
  · rintro ⟨⟨⟨a, b⟩, c⟩, d⟩
    exact ⟨a, by omega, c, d⟩
  · rintro ⟨a, b, c, d⟩
    exact ⟨⟨⟨a, by omega⟩, c⟩, d⟩

theorem pack_len {s : ByteArray} (h : nameOk s = true) : s.size ≤ 27 := by
  simp only [nameOk, Bool.and_eq_true, decide_eq_true_eq] at h
  omega


end Go.Proofs.Ythhhklihggpldaa.Given
