/- CrashGone, the plain law: a name that stood all the time must be found. -/
import Derived.Test.YtnnnakgdmhmpmaaI9
namespace Go.Proofs.Ytnnnakgdmhmpmaa.Given
open Go.RowKit Go.Proofs.YtnnnakgdmhmpmaaW.PrintWords Go.Proofs.YtnnnakgdmhmpmaaBase
set_option linter.unusedVariables false
set_option linter.unusedSimpArgs false

abbrev L16 : ByteArray := ⟨#[97, 98, 99, 100, 101, 102, 103, 104, 105, 106, 107, 108, 109, 110, 111, 112]⟩
/-- one letter -/
def nmG (y : Int) : ByteArray := L16.extract y.toNat (y + 1).toNat
theorem ch_range (x : Int) : 0 ≤ Go.bits .and .i64 x 15 ∧ Go.bits .and .i64 x 15 ≤ 15 := by
  unfold Go.bits
  have h2 : (BitVec.ofInt IntKind.i64.bits 15).toNat = 15 := by decide
  have h1 : (BitVec.ofInt IntKind.i64.bits x &&& BitVec.ofInt IntKind.i64.bits 15).toNat ≤ 15 := by
    rw [BitVec.toNat_and, h2]
    exact Nat.and_le_right
  simp only
  generalize (BitVec.ofInt IntKind.i64.bits x &&& BitVec.ofInt IntKind.i64.bits 15).toNat = y at h1 ⊢
  rw [IntKind.wrap_i64]
  omega
theorem nm_bytes : ∀ n : Nat, n < 16 → (L16.extract n (n + 1)).data.toList = [UInt8.ofNat (97 + n)] := by decide
theorem nmG_nat {y : Int} (h : 0 ≤ y ∧ y ≤ 15) : nmG y = L16.extract y.toNat (y.toNat + 1) := by
  unfold nmG
  rw [show (y + 1).toNat = y.toNat + 1 by omega]
theorem nmG_inj {y z : Int} (hy : 0 ≤ y ∧ y ≤ 15) (hz : 0 ≤ z ∧ z ≤ 15) (h : nmG y = nmG z) : y = z := by
  rw [nmG_nat hy, nmG_nat hz] at h
  have h2 := congrArg (fun s : ByteArray => s.data.toList) h
  simp only [nm_bytes _ (show y.toNat < 16 by omega), nm_bytes _ (show z.toNat < 16 by omega), List.cons.injEq, and_true] at h2
  have h3 := congrArg UInt8.toNat h2
  rw [UInt8.toNat_ofNat', UInt8.toNat_ofNat'] at h3
  omega
theorem nmG_max {y : Int} (hy : 0 ≤ y ∧ y ≤ 15) : (nmG y).size ≤ maxLen := by
  rw [nmG_nat hy]
  have h := congrArg List.length (nm_bytes y.toNat (by omega))
  have h2 : (L16.extract y.toNat (y.toNat + 1)).size = 1 := by simpa [ByteArray.size] using h
  rw [h2]
  decide
theorem run_letter {P : Program} {t : TypeId} (ht : P.underlying t = some .string) {y : Int} (hy : 0 ≤ y ∧ y ≤ 15) (w : World) : (Instr.slice t (.string L16) (some (.int .i64 y)) (some (.int .i64 (y + 1))) none).run P w = .ok (.string (nmG y)) w := by
  rw [run_slice_string_if w t L16 .i64 .i64 y (y + 1) ht]
  have hs : ((L16.size : Nat) : Int) = 16 := rfl
  rw [hs, if_pos (by omega), if_pos (by omega)]
  rfl
def slotG (l : List Int) (j : Nat) : S33 := ⟨5 + (j : Int), nmG (Go.bits .and .i64 (l.getD j 0) 15)⟩
def slotsG (l : List Int) (m : Nat) : List S33 := (List.range m).map (slotG l)
theorem slotsG_len (l : List Int) (m : Nat) : (slotsG l m).length = m := by simp [slotsG]
theorem slotsG_succ (l : List Int) (m : Nat) : slotsG l (m + 1) = slotsG l m ++ [slotG l m] := by simp [slotsG, List.range_succ]
/-- no two of the first m are alike -/
def Apart (l : List Int) (m : Nat) : Prop := ∀ i k, i < m → k < i → Go.bits .and .i64 (l.getD k 0) 15 ≠ Go.bits .and .i64 (l.getD i 0) 15
theorem slotsG_nodup {l : List Int} {m : Nat} (h : Apart l m) : ((slotsG l m).map S33.f1).Nodup := by
  unfold slotsG
  rw [List.map_map, List.nodup_iff_pairwise_ne, List.pairwise_map]
  refine (List.pairwise_lt_range (n := m)).imp_of_mem (fun {a b} ha hb hab e => ?_)
  rw [List.mem_range] at ha hb
  exact h b a hb hab (nmG_inj (ch_range _) (ch_range _) e)
def namesOf (es : List S33) : List NS := es.map fun e => ⟨1, e.f1, e.f0, [e.f0]⟩
def nG (es : List S33) : S29 := ⟨1, 2, 0, 0, [], es⟩
theorem foldl_names : ∀ (es : List S33) (N : List NS), (∀ e ∈ es, e.f0 ≠ 0) → (es.map S33.f1).Nodup → (∀ e ∈ es, ∀ x ∈ N, x.nm ≠ e.f1) → es.foldl (slotN 1) N = N ++ es.map (fun e => (⟨1, e.f1, e.f0, [0, e.f0]⟩ : NS))
  | [], N, _, _, _ => by simp
  | e :: es, N, h0, hn, hN => by
    rw [List.map_cons, List.nodup_cons] at hn
    have h1 : slotN 1 N e = N ++ [⟨1, e.f1, e.f0, [0, e.f0]⟩] := by
      have hne := h0 e (by simp)
      unfold slotN
      rw [if_neg hne, entS_miss (fun y hy h => hN e (by simp) y hy h.2)]
      have : addI [0] e.f0 = [0, e.f0] := by
        unfold addI
        rw [if_neg (by simpa using hne)]
        rfl
      rw [this]
    rw [List.foldl_cons, h1, foldl_names es _ (fun x hx => h0 x (by simp [hx])) hn.2 ?_]
    · simp
    · intro x hx y hy
      rw [List.mem_append, List.mem_singleton] at hy
      rcases hy with hy | rfl
      · exact hN x (by simp [hx]) y hy
      · exact fun e1 => hn.1 (List.mem_map.2 ⟨x, hx, e1.symm⟩)
theorem new_nG {es : List S33} (h0 : ∀ e ∈ es, e.f0 ≠ 0) (hn : (es.map S33.f1).Nodup) : syncS ([nG es].foldl nodeN []) = namesOf es ∧ [nG es].foldl nodeQ [] = [] := by
  constructor
  · have : [nG es].foldl nodeN [] = es.foldl (slotN 1) [] := rfl
    rw [this, foldl_names es [] h0 hn (by simp)]
    simp [syncS, namesOf]
  · simp [nG, nodeQ]
theorem short_names (es : List S33) (hs : ∀ e ∈ es, e.f1.size ≤ maxLen) : ∀ x ∈ namesOf es, x.ever.length ≤ 9223372036854775807 ∧ I64 x.dir ∧ x.nm.size ≤ maxLen := by
  intro x hx
  obtain ⟨e, he, rfl⟩ := List.mem_map.1 hx
  exact ⟨by simp, (by unfold I64; decide : I64 1), hs e he⟩
theorem gone_nil (es : List S33) : MayBe (namesOf es) [] [] := ⟨by simp, fun x hx hc hd => by
  obtain ⟨n, hn, _⟩ := hd
  cases hn⟩
theorem gone_all (es : List S33) (h0 : ∀ e ∈ es, e.f0 ≠ 0) : MayBe (namesOf es) [] [nG es] := by
  refine ⟨fun n hn => ?_, fun x hx hc hd => ?_⟩
  · rw [List.mem_singleton] at hn
    subst hn
    exact ⟨fun e he => .inr ⟨⟨1, e.f1, e.f0, [e.f0]⟩, List.mem_map.2 ⟨e, he, rfl⟩, rfl, rfl, by simp⟩, by simp [nG]⟩
  · obtain ⟨e, he, rfl⟩ := List.mem_map.1 hx
    exact ⟨nG es, by simp, rfl, e, he, h0 e he, rfl⟩
theorem gone_one (es : List S33) (h0 : ∀ e ∈ es, e.f0 ≠ 0) (hn : (es.map S33.f1).Nodup) {k : Nat} (hk : k < es.length) (z : S33) (hz : z.f0 = 0) : ¬ MayBe (namesOf es) [] [nG (es.set k z)] := by
  intro h
  have hm : es[k] ∈ es := List.getElem_mem hk
  obtain ⟨n, hn2, h1, e, he, h2, h3⟩ := h.2 ⟨1, es[k].f1, es[k].f0, [es[k].f0]⟩ (List.mem_map.2 ⟨_, hm, rfl⟩) ⟨rfl, h0 _ hm⟩ ⟨nG (es.set k z), by simp, rfl, rfl⟩
  rw [List.mem_singleton] at hn2
  subst hn2
  have he' : e ∈ es.set k z := he
  obtain ⟨j, hj, hje⟩ := List.getElem_of_mem he'
  rw [List.getElem_set] at hje
  split at hje
  · subst hje
    exact h2 hz
  · rename_i hne
    have hj2 : j < es.length := by simpa using hj
    have h4 : (es.map S33.f1)[j]'(by simpa using hj2) = (es.map S33.f1)[k]'(by simpa using hk) := by
      rw [List.getElem_map, List.getElem_map, hje]
      exact h3
    exact hne ((List.getElem_inj hn).1 h4).symm
theorem slotsG_ok (l : List Int) (m : Nat) (hm : m ≤ 20) : ∀ e ∈ slotsG l m, e.f0 ≠ 0 ∧ I64 e.f0 ∧ e.f1.size ≤ maxLen := by
  intro e he
  obtain ⟨j, hj, rfl⟩ := List.mem_map.1 he
  rw [List.mem_range] at hj
  refine ⟨?_, ?_, nmG_max (ch_range _)⟩
  · simp only [slotG]
    omega
  · simp only [slotG]
    unfold I64
    omega
theorem fit_nG {es : List S33} (h : ∀ e ∈ es, I64 e.f0 ∧ e.f1.size ≤ maxLen) : NodeFit (nG es) := ⟨(by unfold I64; decide : I64 1), h, by simp [nG]⟩
end Go.Proofs.Ytnnnakgdmhmpmaa.Given
