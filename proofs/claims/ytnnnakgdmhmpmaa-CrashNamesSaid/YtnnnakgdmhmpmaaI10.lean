/- CrashNames, the plain law: which inodes one name may be found to name. -/
import Derived.Test.YtnnnakgdmhmpmaaI9
namespace Go.Proofs.Ytnnnakgdmhmpmaa.Given
open Go.RowKit Go.Proofs.YtnnnakgdmhmpmaaW.PrintWords Go.Proofs.YtnnnakgdmhmpmaaBase
set_option linter.unusedVariables false
set_option linter.unusedSimpArgs false

def wasAt (l : List Int) (j : Nat) : Int := l.getD j 0
/-- the name behind m changes, with the sync ahead of change number s -/
noncomputable def stN (l : List Int) (s : Nat) : Nat → List NS
  | 0 => []
  | m + 1 => entS (if m = s then syncS (stN l s m) else stN l s m) 1 sA (wasAt l m)
/-- what it named at the last sync -/
def lastOf (l : List Int) (s : Nat) : Int := if 0 < s then wasAt l (s - 1) else 0
/-- one name, and which inodes it may be found to name -/
structure One (N : List NS) (S : Int → Prop) (now : Int) (k : Nat) : Prop where
  ex : ∃ ever : List Int, N = [⟨1, sA, now, ever⟩] ∧ ever.Nodup ∧ ever.length ≤ k ∧ ∀ i, i ∈ ever ↔ S i
theorem addI_nodup {l : List Int} {i : Int} (h : l.Nodup) : (addI l i).Nodup := by
  unfold addI
  split
  · exact h
  · rename_i hm
    rw [List.nodup_append]
    exact ⟨h, by simp, fun a ha b hb => by simp only [List.mem_singleton] at hb; subst hb; exact fun e => hm (e ▸ ha)⟩
theorem addI_len {l : List Int} {i : Int} : (addI l i).length ≤ l.length + 1 := by
  unfold addI
  split
  · omega
  · simp
theorem One.new (i : Int) : One (entS [] 1 sA i) (fun j => j = 0 ∨ j = i) i 2 := by
  refine ⟨⟨addI [0] i, rfl, addI_nodup (by simp), addI_len, fun j => ?_⟩⟩
  rw [mem_addI]
  simp
theorem One.ent {N : List NS} {S : Int → Prop} {now : Int} {k : Nat} (h : One N S now k) (i : Int) : One (entS N 1 sA i) (fun j => S j ∨ j = i) i (k + 1) := by
  obtain ⟨ever, rfl, h1, h2, h3⟩ := h.ex
  refine ⟨⟨addI ever i, by simp [entS], addI_nodup h1, by have := addI_len (l := ever) (i := i); omega, fun j => ?_⟩⟩
  rw [mem_addI, h3 j]
theorem One.sync {N : List NS} {S : Int → Prop} {now : Int} {k : Nat} (h : One N S now k) : One (syncS N) (fun j => j = now) now 1 := by
  obtain ⟨ever, rfl, h1, h2, h3⟩ := h.ex
  exact ⟨⟨[now], rfl, by simp, by simp, fun j => by simp⟩⟩
theorem One.imp {N : List NS} {S S' : Int → Prop} {now : Int} {k k' : Nat} (h : One N S now k) (hk : k ≤ k') (hS : ∀ j, S j ↔ S' j) : One N S' now k' := by
  obtain ⟨ever, rfl, h1, h2, h3⟩ := h.ex
  exact ⟨⟨ever, rfl, h1, by omega, fun j => (h3 j).trans (hS j)⟩⟩

/-- the name ahead of the sync -/
theorem stN_before (l : List Int) (s : Nat) : ∀ m, 0 < m → m ≤ s → One (stN l s m) (fun i => i = 0 ∨ ∃ j, j < m ∧ wasAt l j = i) (wasAt l (m - 1)) (m + 1)
  | 0, h, _ => absurd h (Nat.lt_irrefl _)
  | 1, _, hs => by
    have e : stN l s 1 = entS [] 1 sA (wasAt l 0) := by
      have h0 : ¬ (0 = s) := by omega
      show entS (if 0 = s then syncS [] else []) 1 sA _ = _
      rw [if_neg h0]
    rw [e]
    refine (One.new (wasAt l 0)).imp (by omega) (fun i => ?_)
    constructor
    · rintro (h | rfl)
      · exact .inl h
      · exact .inr ⟨0, by omega, rfl⟩
    · rintro (h | ⟨j, hj, rfl⟩)
      · exact .inl h
      · obtain rfl : j = 0 := by omega
        exact .inr rfl
  | m + 2, _, hs => by
    unfold stN
    rw [if_neg (by omega)]
    refine ((stN_before l s (m + 1) (by omega) (by omega)).ent (wasAt l (m + 1))).imp (by omega) (fun i => ?_)
    constructor
    · rintro ((h | ⟨j, hj, rfl⟩) | rfl)
      · exact .inl h
      · exact .inr ⟨j, by omega, rfl⟩
      · exact .inr ⟨m + 1, by omega, rfl⟩
    · rintro (h | ⟨j, hj, rfl⟩)
      · exact .inl (.inl h)
      · rcases Nat.lt_succ_iff_lt_or_eq.1 hj with hj | rfl
        · exact .inl (.inr ⟨j, hj, rfl⟩)
        · exact .inr rfl
/-- and behind it -/
def SetOf (l : List Int) (s m : Nat) (i : Int) : Prop := i = lastOf l s ∨ ∃ j, s ≤ j ∧ j < m ∧ wasAt l j = i
theorem stN_after (l : List Int) (s : Nat) : ∀ m, s < m → One (stN l s m) (SetOf l s m) (wasAt l (m - 1)) (m + 1)
  | 0, h => absurd h (Nat.not_lt_zero _)
  | m + 1, h => by
    unfold stN
    by_cases hm : m = s
    · rw [if_pos hm]
      subst hm
      rcases Nat.eq_zero_or_pos m with rfl | hp
      · refine (One.new (wasAt l 0)).imp (by omega) (fun i => ?_)
        unfold SetOf
        constructor
        · rintro (h | rfl)
          · exact .inl h
          · exact .inr ⟨0, by omega, by omega, rfl⟩
        · rintro (h | ⟨j, _, hj, rfl⟩)
          · exact .inl h
          · obtain rfl : j = 0 := by omega
            exact .inr rfl
      · refine ((stN_before l m m hp (Nat.le_refl _)).sync.ent (wasAt l m)).imp (by omega) (fun i => ?_)
        unfold SetOf lastOf
        rw [if_pos hp]
        constructor
        · rintro (h | rfl)
          · exact .inl h
          · exact .inr ⟨m, by omega, by omega, rfl⟩
        · rintro (h | ⟨j, h1, h2, rfl⟩)
          · exact .inl h
          · obtain rfl : j = m := by omega
            exact .inr rfl
    · rw [if_neg hm]
      refine ((stN_after l s m (by omega)).ent (wasAt l m)).imp (by omega) (fun i => ?_)
      unfold SetOf
      constructor
      · rintro ((h | ⟨j, h1, h2, rfl⟩) | rfl)
        · exact .inl h
        · exact .inr ⟨j, h1, by omega, rfl⟩
        · exact .inr ⟨m, by omega, by omega, rfl⟩
      · rintro (h | ⟨j, h1, hj, rfl⟩)
        · exact .inl (.inl h)
        · rcases Nat.lt_succ_iff_lt_or_eq.1 hj with hj | rfl
          · exact .inl (.inr ⟨j, h1, hj, rfl⟩)
          · exact .inr rfl
/-- at the end -/
noncomputable def endN (l : List Int) (s : Nat) : List NS := if s = l.length then syncS (stN l s l.length) else stN l s l.length
/-- what the law wants -/
def Want (l : List Int) (s : Nat) (f : Int) : Prop := SetOf l s l.length f ∨ f = 0 ∧ ∃ j, s ≤ j ∧ j < l.length ∧ wasAt l j ≠ lastOf l s
theorem endN_one (l : List Int) (s : Nat) (hs : s ≤ l.length) (h0 : 0 < l.length) : ∃ now, One (endN l s) (SetOf l s l.length) now (l.length + 1) ∧ SetOf l s l.length now := by
  unfold endN
  by_cases h : s = l.length
  · rw [if_pos h]
    refine ⟨_, (stN_before l s l.length h0 (by omega)).sync.imp (by omega) (fun i => ?_), ?_⟩
    · unfold SetOf lastOf
      rw [if_pos (by omega), h]
      constructor
      · exact .inl
      · rintro (h | ⟨j, h1, h2, _⟩)
        · exact h
        · omega
    · unfold SetOf lastOf
      rw [if_pos (by omega), h]
      exact .inl rfl
  · rw [if_neg h]
    exact ⟨_, stN_after l s l.length (by omega), .inr ⟨l.length - 1, by omega, by omega, rfl⟩⟩

/-- the node that is found -/
def nF (f : Int) : S29 := ⟨1, 2, 0, 0, [], if 0 < f then [⟨f, sA⟩] else []⟩
theorem isDir_nF (f : Int) : IsDir [nF f] 1 := ⟨nF f, by simp, rfl, rfl⟩
theorem found_nF {f : Int} : Found [nF f] 1 sA ↔ 0 < f := by
  constructor
  · rintro ⟨n, hn, _, e, he, _⟩
    simp only [List.mem_singleton] at hn
    subst hn
    unfold nF at he
    by_cases h : 0 < f
    · exact h
    · simp [h] at he
  · intro h
    exact ⟨nF f, by simp, rfl, ⟨f, sA⟩, by simp [nF, h], by simp only; omega, rfl⟩
theorem nodeOk_nF {N : List NS} {f : Int} : NodeOk N [] (nF f) ↔ (0 < f → ∃ x ∈ N, x.dir = 1 ∧ x.nm = sA ∧ f ∈ x.ever) := by
  unfold NodeOk nF NameOk
  by_cases h : 0 < f
  · simp only [h, if_true, List.mem_singleton, forall_eq, true_imp_iff]
    constructor
    · rintro ⟨h1 | h1, _⟩
      · omega
      · exact h1
    · intro h1
      exact ⟨.inr h1, by simp⟩
  · simp [h]
theorem maybe_nF (l : List Int) (s : Nat) (hs : s ≤ l.length) (f : Int) (hf : 0 ≤ f) : MayBe (endN l s) [] [nF f] ↔ Want l s f := by
  rcases Nat.eq_zero_or_pos l.length with h0 | h0
  · have hs0 : s = 0 := by omega
    have hN : endN l s = [] := by unfold endN; rw [h0, hs0]; simp [stN, syncS]
    rw [hN]
    unfold MayBe Want SetOf lastOf
    simp only [List.mem_singleton, forall_eq, nodeOk_nF, hs0, h0]
    constructor
    · rintro ⟨h1, _⟩
      have : ¬ 0 < f := fun h => by
        obtain ⟨x, hx, _⟩ := h1 h
        simp at hx
      exact .inl (.inl (by simp; omega))
    · rintro ((h1 | ⟨j, _, hj, _⟩) | ⟨_, j, _, hj, _⟩)
      · simp at h1
        exact ⟨fun h => by omega, fun x hx => by simp at hx⟩
      · omega
      · omega
  · obtain ⟨now, hO, hnow⟩ := endN_one l s hs h0
    obtain ⟨ever, hN, h1, h2, h3⟩ := hO.ex
    rw [hN]
    unfold MayBe
    simp only [List.mem_singleton, forall_eq, nodeOk_nF, found_nF]
    have hd := isDir_nF f
    constructor
    · rintro ⟨k1, k2⟩
      by_cases hp : 0 < f
      · obtain ⟨x, hx, _, _, hm⟩ := k1 hp
        subst hx
        exact .inl ((h3 f).1 hm)
      · obtain rfl : f = 0 := by omega
        have hc : ¬ Const ⟨1, sA, now, ever⟩ := fun hc => absurd (k2 hc hd) hp
        by_cases hz : SetOf l s l.length 0
        · exact .inl hz
        · refine .inr ⟨rfl, ?_⟩
          have hn0 : now ≠ 0 := fun e => hz (e ▸ hnow)
          have hlen : ever.length ≠ 1 := fun e => hc ⟨e, hn0⟩
          have hl : lastOf l s ∈ ever := (h3 _).2 (.inl rfl)
          by_cases he : ∃ j, s ≤ j ∧ j < l.length ∧ wasAt l j ≠ lastOf l s
          · exact he
          · exfalso
            apply hlen
            have hall : ∀ i ∈ ever, i = lastOf l s := fun i hi => by
              rcases (h3 i).1 hi with h | ⟨j, q1, q2, rfl⟩
              · exact h
              · by_cases hw : wasAt l j = lastOf l s
                · exact hw
                · exact absurd ⟨j, q1, q2, hw⟩ he
            match ever, h1, hl, hall with
            | [a], _, _, _ => rfl
            | a :: b :: r, hnd, _, hall =>
              have e1 := hall a (by simp)
              have e2 := hall b (by simp)
              rw [List.nodup_cons] at hnd
              exact absurd (by rw [e1, e2]; simp) hnd.1
    · rintro (k | ⟨rfl, j, q1, q2, q3⟩)
      · by_cases hp : 0 < f
        · exact ⟨fun _ => ⟨_, rfl, rfl, rfl, (h3 f).2 k⟩, fun _ _ => hp⟩
        · obtain rfl : f = 0 := by omega
          refine ⟨fun h => absurd h hp, fun hc => ?_⟩
          exfalso
          have hz : (0 : Int) ∈ ever := (h3 0).2 k
          have hn : now ∈ ever := (h3 now).2 hnow
          have hc1 : ever.length = 1 := hc.1
          have hc2 : now ≠ 0 := hc.2
          match ever, hc1, hz, hn with
          | [a], _, hz, hn =>
            simp only [List.mem_singleton] at hz hn
            exact hc2 (hn.trans hz.symm)
      · refine ⟨fun h => absurd h (by omega), fun hc => ?_⟩
        exfalso
        have hc1 : ever.length = 1 := hc.1
        have hl : lastOf l s ∈ ever := (h3 _).2 (.inl rfl)
        have hw : wasAt l j ∈ ever := (h3 _).2 (.inr ⟨j, q1, q2, rfl⟩)
        match ever, hc1, hl, hw with
        | [a], _, hl, hw =>
          simp only [List.mem_singleton] at hl hw
          exact q3 (hw.trans hl.symm)
theorem endN_short (l : List Int) (s : Nat) (hs : s ≤ l.length) (hl : l.length ≤ 1000) : ∀ x ∈ endN l s, x.ever.length ≤ 9223372036854775807 ∧ I64 x.dir ∧ x.nm.size ≤ maxLen := by
  rcases Nat.eq_zero_or_pos l.length with h0 | h0
  · have hs0 : s = 0 := by omega
    have hN : endN l s = [] := by unfold endN; rw [h0, hs0]; simp [stN, syncS]
    rw [hN]
    simp
  · obtain ⟨now, hO, hnow⟩ := endN_one l s hs h0
    obtain ⟨ever, hN, h1, h2, h3⟩ := hO.ex
    rw [hN]
    intro x hx
    rw [List.mem_singleton] at hx
    subst hx
    exact ⟨by simp only; omega, by unfold I64; simp only; decide, sA_max⟩
end Go.Proofs.Ytnnnakgdmhmpmaa.Given
