/- EntryNames: a name of n signs, one of them c, is taken just where 1 to 27 signs stand and c is neither nought nor a stroke; for every n, at and c; no condition. -/
import Derived.Test.YthhhklihggpldaaPEntryNamesx1
import Derived.Test.YthhhklihggpldaaPlain
namespace Go.Proofs.Ythhhklihggpldaa.Pure
open Go.RowKit Go.Proofs.Ythhhklihggpldaa.PEntryNames Go.Proofs.Ythhhklihggpldaa.Given Go.Proofs.YthhhklihggpldaaW.PrintWords Go.Proofs.YthhhklihggpldaaW.PrintLast
set_option linter.unusedSimpArgs false

theorem alive : lockgatelaw6_alive.f = some true := by decide +kernel

/-- the row is filled -/
theorem fill (x1 x2 : Int) (n : Nat) (hn : n ≤ 60) (d : Nat) : ∀ (k i : Nat), i + d = n → d < k →
    lockgatelaw6_EntryNames.l0 k n x1 x2 (List.replicate i 110 ++ List.replicate d 0) i = lockgatelaw6_EntryNames.l0 (k - d) n x1 x2 (List.replicate n 110) n := by
  induction d with
  | zero =>
    intro k i h hk
    obtain rfl : i = n := by omega
    simp
  | succ d ih =>
    intro k i h hk
    obtain ⟨k, rfl⟩ : ∃ m, k = m + 1 := ⟨k - 1, by omega⟩
    have ih1 := ih k (i + 1) (by omega) (by omega)
    simp only [lockgatelaw6_EntryNames.l0]
    rw [if_pos (by omega), if_pos (by omega), if_pos (by simp; omega)]
    have hw : wrap64 ((i : Int) + 1) = ((i + 1 : Nat) : Int) := by unfold wrap64; omega
    have hl : (List.replicate i (110 : Int) ++ List.replicate (d + 1) 0).set ((i : Int).toNat) 110 = List.replicate (i + 1) 110 ++ List.replicate d 0 := by
      rw [Int.toNat_natCast, List.replicate_succ (n := d), List.replicate_succ' (n := i)]
      simp [List.set_append]
    rw [hw, hl, ih1]
    have : k + 1 - (d + 1) = k - d := by omega
    rw [this]

/-- the end, of a row and what is said of it -/
theorem last (xs : List Int) (ok : Bool) (h : nameOk (strOfNums xs) = ok) :
    ((entry_Pack.f 9 (strOfNums xs)).bind fun bt => ((entry_Name.f (strOfNums xs)).bind fun t => (if (t == ok) = true then ((lockgatelaw6_num.f bt.2).bind fun u => (if ((u == 0) == ok) = true then (some (((bt.1.length : Int) == 32) == ok)) else (some false))) else (some false)))) = some true := by
  have hs : (strOfNums xs).size = xs.length := strOfNums_size xs
  cases ok with
  | true =>
    have hl := pack_len h
    have e : entry_Pack.f 9 (strOfNums xs) = some ([9 % 256, 9 / 256 % 256, 9 / 65536 % 256, 9 / 16777216 % 256, ((strOfNums xs).size : Int) % 256] ++ bytesOf (strOfNums xs) ++ List.replicate (27 - (strOfNums xs).size) 0, 0) := by
      rw [entry_Pack.f, if_neg (by simp), if_pos ⟨by omega, by omega, h⟩]
    rw [e]
    simp only [Option.bind_some, entry_Name.f, h, lockgatelaw6_num.f]
    simp [bytesOf_length]
    omega
  | false =>
    have e : entry_Pack.f 9 (strOfNums xs) = some ([], 1) := by
      rw [entry_Pack.f, if_neg (by simp), if_neg (by simp [h])]
    rw [e]
    simp [entry_Name.f, h, lockgatelaw6_num.f]

theorem j2_ok (k n m : Nat) (c : Int) (hc : 0 ≤ c ∧ c < 256) (ok0 : Bool) (h : ok0 = decide (1 ≤ n ∧ n ≤ 27)) : lockgatelaw6_EntryNames.j2 (k + 1) n m c (List.replicate n 110) ok0 = some true := by
  have h110 : ∀ x ∈ List.replicate n (110 : Int), 0 ≤ x ∧ x < 256 := by
    intro x hx
    have := List.eq_of_mem_replicate hx
    omega
  simp only [lockgatelaw6_EntryNames.j2]
  by_cases hm : (m : Int) < n
  · have hset : ∀ x ∈ (List.replicate n (110 : Int)).set m c, 0 ≤ x ∧ x < 256 := by
      intro x hx
      rcases List.mem_or_eq_of_mem_set hx with h | h
      · exact h110 x h
      · exact h ▸ hc
    have hmem : c ∈ (List.replicate n (110 : Int)).set m c := List.mem_set (by simp; omega) c
    have hlen : ((List.replicate n (110 : Int)).set m c).length = n := by simp
    have hno : ∀ z : Int, z ≠ 110 → z ≠ c → z ∉ (List.replicate n (110 : Int)).set m c := by
      intro z h1 h2 hz
      rcases List.mem_or_eq_of_mem_set hz with h | h
      · exact h1 (List.eq_of_mem_replicate h)
      · exact h2 h
    have hok := nameOk_of hset
    rw [hlen] at hok
    rw [if_pos hm, if_pos (by omega), if_pos (by simpa using hm), Int.toNat_natCast]
    simp only [Option.bind_some]
    cases ok0 with
    | true =>
      have hn : 1 ≤ n ∧ n ≤ 27 := by simpa using h
      simp only [if_true]
      by_cases h0 : c = 0
      · rw [if_pos h0]
        refine last _ false ?_
        rw [hok, decide_eq_false]
        rintro ⟨_, _, h, _⟩
        exact h (h0 ▸ hmem)
      · rw [if_neg h0]
        refine last _ (c != 47) ?_
        rw [hok]
        by_cases h47 : c = 47
        · subst h47
          simp [hmem]
        · have e : (c != 47) = true := by simpa using h47
          rw [e]
          exact decide_eq_true ⟨hn.1, hn.2, hno 0 (by omega) (fun e => h0 e.symm), hno 47 (by omega) (fun e => h47 e.symm)⟩
    | false =>
      have hn : ¬ (1 ≤ n ∧ n ≤ 27) := by simpa using h
      simp only [Bool.false_eq_true, if_false]
      refine last _ false ?_
      rw [hok, decide_eq_false]
      rintro ⟨a, b, _⟩
      exact hn ⟨a, b⟩
  · rw [if_neg hm]
    refine last _ ok0 ?_
    rw [nameOk_of h110, h, List.length_replicate]
    have e0 : (0 : Int) ∉ List.replicate n (110 : Int) := fun h => by have := List.eq_of_mem_replicate h; omega
    have e1 : (47 : Int) ∉ List.replicate n (110 : Int) := fun h => by have := List.eq_of_mem_replicate h; omega
    simp [e0, e1]

theorem EntryNames : lockgatelaw6_EntryNames.Pure := by
  intro a0 a1 a2 w0 w1 w2
  refine ⟨100, ?_⟩
  unfold lockgatelaw6_EntryNames.f
  rw [alive]
  simp only [Option.bind_some, if_true]
  have hc : 0 ≤ a2 ∧ a2 < 256 := by have := bounds_u8 w2; omega
  have hb : ∀ b : Bool, b = true → lockgatelaw6_EntryNames.j0 100 a0 a1 a2 true b = some true := by
    rintro b rfl; simp [lockgatelaw6_EntryNames.j0]
  by_cases h1 : a0 < 0
  · rw [if_pos h1]; exact hb _ rfl
  rw [if_neg h1]
  by_cases h2 : a0 > 60
  · rw [if_pos h2]; exact hb _ rfl
  rw [if_neg h2]
  by_cases h3 : a1 < 0
  · rw [if_pos h3]; exact hb _ rfl
  rw [if_neg h3]
  by_cases h4 : a1 ≥ 60
  · exact hb _ (decide_eq_true h4)
  rw [decide_eq_false h4]
  obtain ⟨n, rfl⟩ := Int.eq_ofNat_of_zero_le (show 0 ≤ a0 by omega)
  obtain ⟨m, rfl⟩ := Int.eq_ofNat_of_zero_le (show 0 ≤ a1 by omega)
  have hn : n ≤ 60 := by omega
  show lockgatelaw6_EntryNames.j0 (99 + 1) n m a2 true false = some true
  simp only [lockgatelaw6_EntryNames.j0]
  rw [if_neg (by simp), if_pos (by omega), if_pos (by omega), Int.toNat_natCast]
  have hf := fill m a2 n hn n 99 0 (by omega) (by omega)
  simp only [List.replicate_zero, List.nil_append] at hf
  have e0 : ((0 : Nat) : Int) = 0 := rfl
  rw [e0] at hf
  rw [hf]
  obtain ⟨k, hk⟩ : ∃ k, 99 - n = k + 2 := ⟨97 - n, by omega⟩
  rw [hk]
  show lockgatelaw6_EntryNames.l0 ((k + 1) + 1) n m a2 (List.replicate n 110) n = some true
  simp only [lockgatelaw6_EntryNames.l0]
  rw [if_neg (by omega)]
  by_cases h1n : (n : Int) ≥ 1
  · rw [if_pos h1n]
    refine j2_ok k n m a2 hc _ ?_
    rw [decide_eq_decide]
    omega
  · rw [if_neg h1n]
    refine j2_ok k n m a2 hc _ ?_
    symm
    rw [decide_eq_false_iff_not]
    omega

end Go.Proofs.Ythhhklihggpldaa.Pure
