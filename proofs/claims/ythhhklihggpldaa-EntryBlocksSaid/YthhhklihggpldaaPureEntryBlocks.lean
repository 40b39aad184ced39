/- EntryBlocks: the entries of any block, and the block of any entries; for every row of bytes and every row of entries; no condition. -/
import Derived.Test.YthhhklihggpldaaPEntryBlocksx
import Derived.Test.YthhhklihggpldaaPureEntryReads
namespace Go.Proofs.Ythhhklihggpldaa.Pure
open Go.RowKit Go.Proofs.Ythhhklihggpldaa.PEntryBlocks Go.Proofs.Ythhhklihggpldaa.Given Go.Proofs.YthhhklihggpldaaW.PrintWords Go.Proofs.YthhhklihggpldaaW.PrintLast
set_option linter.unusedVariables false
set_option linter.unusedSimpArgs false

theorem read_both (l : List Int) (hb : ∀ x ∈ l, 0 ≤ x ∧ x < 256) : ∃ n s e, PEntryReads.entry_Read.f 1 l = some (n, s, e) ∧ ∀ k, 100020 ≤ k → PEntryReads.lockgateref1_ReadEntry.f k l = some (n, s, e == 0) := by
  by_cases hbad : l.length ≠ 32 ∨ l.length = 32 ∧ 27 < rd l 4
  · exact ⟨_, _, _, read_bad 0 l hbad hb, fun k _ => ref_bad k l hbad hb⟩
  have h32 : l.length = 32 := Classical.byContradiction fun hh => hbad (.inl hh)
  have h4 : rd l 4 ≤ 27 := Classical.byContradiction fun hh => hbad (.inr ⟨h32, Int.not_le.1 hh⟩)
  have hsz : (nameOf l).size ≤ 100000 := by
    unfold nameOf
    rw [strOfNums_size, List.length_drop, List.length_take]
    omega
  obtain ⟨L, e, hp, hr, he⟩ := both 10 (numOf l) (nameOf l) hsz
  have e1 := read_good 0 l h32 h4 hb L e hp
  have e2 : ∀ k, 100020 ≤ k → PEntryReads.lockgateref1_ReadEntry.f k l = if (e == 0) = true then (if (strOfNums L).toList = (strOfNums l).toList then some (numOf l, nameOf l, true) else some (0, ⟨#[]⟩, false)) else some (0, ⟨#[]⟩, false) := by
    intro k hk
    obtain ⟨j, rfl⟩ : ∃ j, k = j + 5 := ⟨k - 5, by omega⟩
    obtain ⟨L', e', hp', hr', _⟩ := both (j + 5 - 100010) (numOf l) (nameOf l) hsz
    rw [show j + 5 - 100010 + 100010 = j + 5 from by omega] at hr'
    rw [hp] at hp'
    obtain ⟨rfl, rfl⟩ : L = L' ∧ e = e' := by simpa using hp'
    exact ref_good j l h32 h4 hb L e hr'
  by_cases h0 : e = 0
  · subst h0
    by_cases hst : (strOfNums L).toList = (strOfNums l).toList
    · rw [if_pos rfl, if_pos (beq_iff_eq.2 hst)] at e1
      exact ⟨_, _, _, e1, fun k hk => by rw [e2 k hk, if_pos (by decide), if_pos hst]; rfl⟩
    · rw [if_pos rfl, if_neg (by rw [beq_iff_eq]; exact hst)] at e1
      exact ⟨_, _, _, e1, fun k hk => by rw [e2 k hk, if_pos (by decide), if_neg hst]; rfl⟩
  · rw [if_neg h0] at e1
    exact ⟨_, _, _, e1, fun k hk => by rw [e2 k hk, if_neg (by rw [beq_iff_eq]; exact h0)]; rfl⟩

theorem cutB_rng {l : List Int} (hb : ∀ x ∈ l, 0 ≤ x ∧ x < 256) (i : Nat) : ∀ x ∈ cutB l i, 0 ≤ x ∧ x < 256 := fun x hx => hb x (List.mem_of_mem_take (List.mem_of_mem_drop hx))
theorem entryAt_some {l : List Int} (hb : ∀ x ∈ l, 0 ≤ x ∧ x < 256) (i : Nat) : ∃ s : S28, entryAt l i = some s ∧ entryAt! l i = s ∧ ∃ b, ∀ k, 100020 ≤ k → PEntryReads.lockgateref1_ReadEntry.f k (cutB l i) = some (s.f0, s.f1, b) := by
  obtain ⟨n, s, e, h1, h2⟩ := read_both (cutB l i) (cutB_rng hb i)
  have : entryAt l i = some ⟨n, s⟩ := by unfold entryAt; rw [h1]; rfl
  exact ⟨⟨n, s⟩, this, by unfold entryAt!; rw [this]; rfl, _, h2⟩

theorem entries_loop (l : List Int) (hl : l.length = 1024) (hb : ∀ x ∈ l, 0 ≤ x ∧ x < 256) : ∀ (d i k : Nat) (xs : List S28), i + d = 32 → xs.length = i → 100020 + d < k → lockgateref1_Entries.l0 k l xs (i : Int) = some (xs ++ (List.range' i d).map (entryAt! l))
  | 0, i, k, xs, h, hx, hk => by
    obtain ⟨k, rfl⟩ : ∃ m, k = m + 1 := ⟨k - 1, by omega⟩
    simp only [lockgateref1_Entries.l0]
    rw [if_neg (by omega)]
    simp
  | d + 1, i, k, xs, h, hx, hk => by
    obtain ⟨k, rfl⟩ : ∃ m, k = m + 1 := ⟨k - 1, by omega⟩
    obtain ⟨s, _, hs, b, hr⟩ := entryAt_some hb i
    have w1 : wrap64 (32 * (i : Int)) = ((32 * i : Nat) : Int) := by unfold wrap64; omega
    have w2 : wrap64 (((32 * i : Nat) : Int) + 32) = ((32 * i + 32 : Nat) : Int) := by unfold wrap64; omega
    have w3 : wrap64 ((i : Int) + 1) = ((i + 1 : Nat) : Int) := by unfold wrap64; omega
    simp only [lockgateref1_Entries.l0]
    rw [if_pos (by omega), w1, w2, w3, if_pos (by omega), if_pos (by omega), if_pos (by omega)]
    have hcut : (l.take ((32 * i + 32 : Nat) : Int).toNat).drop ((32 * i : Nat) : Int).toNat = cutB l i := rfl
    rw [hcut, hr k (by omega), Option.bind_some, if_pos (by omega)]
    refine (entries_loop l hl hb d (i + 1) k (xs ++ [s]) (by omega) (by simp [hx]) (by omega)).trans ?_
    rw [List.append_assoc, List.range'_succ, List.map_cons, hs]
    rfl

theorem block_eq (l : List Int) (hb : ∀ x ∈ l, 0 ≤ x ∧ x < 256) (k : Nat) (hk : 100060 ≤ k) : ∃ t, entry_Block.f l = some t ∧ lockgateref1_Entries.f k l = some t := by
  unfold entry_Block.f lockgateref1_Entries.f
  by_cases h : (l.length : Int) = 1024
  · rw [if_pos h, if_pos h]
    have ha : ((List.range 32).all (fun x => (entryAt l x).isSome)) = true := by
      rw [List.all_eq_true]
      intro x _
      obtain ⟨s, h1, _⟩ := entryAt_some hb x
      rw [h1]; rfl
    rw [if_pos ha]
    refine ⟨_, rfl, ?_⟩
    have := entries_loop l (by omega) hb 32 0 k [] rfl rfl (by omega)
    rw [List.nil_append] at this
    exact this
  · rw [if_neg h, if_neg h]
    exact ⟨_, rfl, rfl⟩

theorem pack_len32 {n : Int} {s : ByteArray} {L : List Int} (h : entry_Pack.f n s = some (L, 0)) : L.length = 32 := by
  unfold entry_Pack.f at h
  split at h
  · obtain ⟨rfl, _⟩ : List.replicate 32 0 = L ∧ True := by simpa using h
    rfl
  · split at h
    · rename_i h1
      have := pack_len h1.2.2
      simp only [Option.some.injEq, Prod.mk.injEq, and_true] at h
      rw [← h]
      simp only [List.length_append, List.length_cons, List.length_nil, bytesOf_length, List.length_replicate]
      omega
    · simp at h

theorem pack_both (xs : List S28) (hx : xs.length ≤ 32) (hs : ∀ x ∈ xs, x.f1.size ≤ 1000) : ∀ (d i k : Nat) (b : List Int), i + d = xs.length → b.length = 32 * i → 100020 + d < k → ∃ L e,
    entry_PackBlock.l0 k b xs (xs.length : Int) (i : Int) = some (L, e) ∧ lockgateref1_PackEntries.l0 k xs b (i : Int) = some (L, e == 0) ∧ (e = 0 ∨ e = 1)
  | 0, i, k, b, h, hb, hk => by
    obtain ⟨k, rfl⟩ : ∃ m, k = m + 1 := ⟨k - 1, by omega⟩
    have w : wrap64 (1024 - (b.length : Int)) = ((1024 - 32 * i : Nat) : Int) := by unfold wrap64; omega
    simp only [entry_PackBlock.l0, lockgateref1_PackEntries.l0, lockgateref1_fill.f]
    have hn : ¬ (i : Int) < (xs.length : Int) := by omega
    have h0 : (0 : Int) ≤ ((1024 - 32 * i : Nat) : Int) := by omega
    have h1 : b.length + ((1024 - 32 * i : Nat) : Int).toNat < 140737488355328 := by omega
    simp only [if_neg hn, w, if_pos h0, if_pos h1]
    exact ⟨_, _, rfl, rfl, .inl rfl⟩
  | d + 1, i, k, b, h, hb, hk => by
    obtain ⟨k, rfl⟩ : ∃ m, k = m + 1 := ⟨k - 1, by omega⟩
    have hi : i < xs.length := by omega
    have hm : rd_T28 xs (i : Int) ∈ xs := by
      unfold rd_T28
      rw [Int.toNat_natCast, List.getD_eq_getElem?_getD, List.getElem?_eq_getElem hi]
      exact List.getElem_mem hi
    obtain ⟨L, e, hp, hr, he⟩ := both (k - 100010) (rd_T28 xs (i : Int)).f0 (rd_T28 xs (i : Int)).f1 (by have := hs _ hm; omega)
    rw [show k - 100010 + 100010 = k from by omega] at hr
    have w3 : wrap64 ((i : Int) + 1) = ((i + 1 : Nat) : Int) := by unfold wrap64; omega
    simp only [entry_PackBlock.l0, lockgateref1_PackEntries.l0]
    have h0 : (0 : Int) ≤ (i : Int) := by omega
    have h1 : (i : Int) < (xs.length : Int) := by omega
    simp only [if_pos h0, if_pos h1]
    rw [hp, hr, Option.bind_some, Option.bind_some]
    rcases he with rfl | rfl
    · have hL := pack_len32 hp
      have := pack_both xs hx hs d (i + 1) k (b ++ L) (by omega) (by rw [List.length_append, hL, hb]; omega) (by omega)
      simp only [beq_self_eq_true, if_true]
      have h2 : b.length + L.length < 140737488355328 := by omega
      simp only [w3, if_pos h2]
      exact this
    · exact ⟨_, _, rfl, rfl, .inr rfl⟩

theorem same_loop (x1 t : List S28) (ht : t.length ≤ 32) : ∀ (d i k : Nat), i + d = t.length → d < k → ∃ m, k = m + 1 + d ∧ lockgatelaw6_EntryBlocks.l0 k x1 t t (i : Int) = lockgatelaw6_EntryBlocks.l1 m x1 0
  | 0, i, k, h, hk => by
    obtain ⟨k, rfl⟩ : ∃ m, k = m + 1 := ⟨k - 1, by omega⟩
    refine ⟨k, rfl, ?_⟩
    simp only [lockgatelaw6_EntryBlocks.l0]
    rw [if_neg (by omega)]
  | d + 1, i, k, h, hk => by
    obtain ⟨k, rfl⟩ : ∃ m, k = m + 1 := ⟨k - 1, by omega⟩
    have w3 : wrap64 ((i : Int) + 1) = ((i + 1 : Nat) : Int) := by unfold wrap64; omega
    obtain ⟨m, hm, he⟩ := same_loop x1 t ht d (i + 1) k (by omega) (by omega)
    refine ⟨m, by omega, ?_⟩
    simp only [lockgatelaw6_EntryBlocks.l0]
    rw [if_pos (by omega), if_pos (by omega), if_pos (by omega), w3, he]
    simp

theorem last_loop (xs : List S28) (hx : xs.length ≤ 100) : ∀ (d i k : Nat), i + d = xs.length → (∀ j (hj : j < xs.length), j < i → xs[j].f1.size ≤ 1000) → 100200 + d < k → lockgatelaw6_EntryBlocks.l1 k xs (i : Int) = some true
  | 0, i, k, h, hs, hk => by
    obtain ⟨k, rfl⟩ : ∃ m, k = m + 1 := ⟨k - 1, by omega⟩
    simp only [lockgatelaw6_EntryBlocks.l1]
    rw [if_neg (by omega)]
    have hs' : ∀ x ∈ xs, x.f1.size ≤ 1000 := by
      intro x hx
      obtain ⟨j, hj, rfl⟩ := List.getElem_of_mem hx
      exact hs j hj (by omega)
    unfold entry_PackBlock.f lockgateref1_PackEntries.f
    by_cases h32 : (xs.length : Int) > 32
    · rw [if_pos h32, if_pos h32]
      simp [PEntryReads.lockgatelaw6_num.f]
    · rw [if_neg h32, if_neg h32]
      obtain ⟨L, e, h1, h2, he⟩ := pack_both xs (by omega) hs' xs.length 0 k [] (by omega) rfl (by omega)
      have h1' : entry_PackBlock.l0 k [] xs (xs.length : Int) 0 = some (L, e) := h1
      have h2' : lockgateref1_PackEntries.l0 k xs [] 0 = some (L, e == 0) := h2
      rw [h1', h2']
      rcases he with rfl | rfl <;> simp [PEntryReads.lockgatelaw6_num.f]
  | d + 1, i, k, h, hs, hk => by
    have w3 : wrap64 ((i : Int) + 1) = ((i + 1 : Nat) : Int) := by unfold wrap64; omega
    have hi : i < xs.length := by omega
    obtain ⟨k, rfl⟩ : ∃ m, k = m + 1 := ⟨k - 1, by omega⟩
    simp only [lockgatelaw6_EntryBlocks.l1]
    rw [if_pos (by omega), if_pos (by omega)]
    by_cases hb : ((rd_T28 xs (i : Int)).f1.size : Int) > 1000
    · rw [if_pos hb]
    · rw [if_neg hb, w3]
      refine last_loop xs hx d (i + 1) k (by omega) ?_ (by omega)
      intro j hj hji
      rcases Nat.lt_or_ge j i with hlt | hge
      · exact hs j hj hlt
      · obtain rfl : j = i := by omega
        have : rd_T28 xs (j : Int) = xs[j] := by
          unfold rd_T28
          rw [Int.toNat_natCast, List.getD_eq_getElem?_getD, List.getElem?_eq_getElem hi]
          rfl
        rw [this] at hb
        omega

theorem blocks_main (l0 : List Int) (l1 : List S28) (hb : ∀ x ∈ l0, 0 ≤ x ∧ x < 256) : lockgatelaw6_EntryBlocks.f 300000 l0 l1 = some true := by
  unfold lockgatelaw6_EntryBlocks.f
  rw [alive, Option.bind_some, if_pos rfl]
  by_cases h1 : (l0.length : Int) > 3000
  · rw [if_pos h1]; simp only [lockgatelaw6_EntryBlocks.j0, if_true]
  rw [if_neg h1]
  by_cases h2 : (l1.length : Int) > 100
  · rw [decide_eq_true h2]; simp only [lockgatelaw6_EntryBlocks.j0, if_true]
  rw [decide_eq_false h2]
  obtain ⟨t, ht1, ht2⟩ := block_eq l0 hb 299999 (by omega)
  have ht3 : t.length ≤ 32 := by
    unfold entry_Block.f at ht1
    split at ht1
    · split at ht1
      · have := Option.some.inj ht1
        rw [← this]; simp
      · cases ht1
    · have := Option.some.inj ht1
      rw [← this]; simp
  simp only [lockgatelaw6_EntryBlocks.j0, Bool.false_eq_true, if_false]
  rw [ht1, Option.bind_some, ht2, Option.bind_some, if_pos rfl]
  obtain ⟨m, hm, e1⟩ := same_loop l1 t ht3 t.length 0 299999 (by omega) (by omega)
  have e1' : lockgatelaw6_EntryBlocks.l0 299999 l1 t t 0 = _ := e1
  rw [e1']
  exact last_loop l1 (by omega) l1.length 0 m (by omega) (by intro j _ hj; omega) (by omega)

theorem EntryBlocks : ∀ (l0 : (List Int)) (l1 : (List S28)), (l0.length ≤ maxLen ∧ ∀ y ∈ l0, (Lit.int .u8 y).wf = true) → (l1.length ≤ maxLen ∧ ∀ y ∈ l1, ((Lit.int .i64 y.f0).wf = true ∧ y.f1.size ≤ maxLen)) → ∃ k, lockgatelaw6_EntryBlocks.f k l0 l1 = some true :=
  fun l0 l1 h0 _ => ⟨300000, blocks_main l0 l1 (fun x hx => by have := bounds_u8 (h0.2 x hx); omega)⟩
end Go.Proofs.Ythhhklihggpldaa.Pure
