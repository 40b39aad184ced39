/- (*Watch).Ok: whether nodes may be found. -/
import Derived.Test.YtnnnakgdmhmpmaaI6
namespace Go.Proofs.Ytnnnakgdmhmpmaa.Given
open Go.RowKit Go.Proofs.YtnnnakgdmhmpmaaW.PrintWords Go.Proofs.YtnnnakgdmhmpmaaW.PrintLast Go.Proofs.YtnnnakgdmhmpmaaW.PrintMore Go.Proofs.YtnnnakgdmhmpmaaBase
set_option linter.unusedVariables false
set_option linter.unusedSimpArgs false

/-- a name that named one inode all the time -/
def Const (x : NS) : Prop := x.ever.length = 1 ∧ x.now ≠ 0
def IsDir (l : List S29) (d : Int) : Prop := ∃ n ∈ l, n.f1 = 2 ∧ n.f0 = d
def Found (l : List S29) (d : Int) (s : ByteArray) : Prop := ∃ n ∈ l, n.f0 = d ∧ ∃ e ∈ n.f5, e.f0 ≠ 0 ∧ e.f1 = s
/-- these nodes may be found -/
def MayBe (N : List NS) (Q : List PS) (l : List S29) : Prop := (∀ n ∈ l, NodeOk N Q n) ∧ ∀ x ∈ N, Const x → IsDir l x.dir → Found l x.dir x.nm
def MayP (N : List NS) (Q : List PS) (l : List S29) (w : World) (e : Ending) (w' : World) : Prop := ∃ b : Bool, e = .returned (.bool b) ∧ (b = true ↔ MayBe N Q l) ∧ Below w.heap.size w w'

def onK (p : Int × ByteArray) : Value × Value := (keyN p.1 p.2, .bool true)
theorem putK {w : World} {b : Nat} {l : List (Int × ByteArray)} (h : MapAt Try.prog 47 w b (l.map onK)) {d : Int} {s : ByteArray} (hd : I64 d) (hs : s.size ≤ maxLen) :
    ∃ (w' : World) (l' : List (Int × ByteArray)), (Instr.mapUpdate 52 (.map (some b)) (keyN d s) (.bool true)).run Try.prog w = .ok () w' ∧ MapAt Try.prog 47 w' b (l'.map onK) ∧ (∀ p, p ∈ l' ↔ p ∈ l ∨ p = (d, s)) ∧ w.grownBy w' (some b) ∧ w'.heap.size = w.heap.size := by
  obtain ⟨kl, hkl⟩ := key47 hd hs
  by_cases hm : (d, s) ∈ l
  · obtain ⟨l1, l2, rfl⟩ := List.append_of_mem hm
    rw [List.map_append, List.map_cons] at h
    obtain ⟨w', h1, h2, h3⟩ := MapAt.put_hit h law47 Try.underlying52 (.bool true) hkl
    refine ⟨w', l1 ++ (d, s) :: l2, h1, by rw [List.map_append, List.map_cons]; exact h2, fun p => ⟨.inl, ?_⟩, h3⟩
    rintro (h | rfl)
    · exact h
    · simp
  · obtain ⟨w', h1, h2, h3⟩ := MapAt.put_miss h law47 Try.underlying52 (key := keyN d s) (.bool true) hkl (fun p hp e => by
      obtain ⟨⟨d', s'⟩, hj, rfl⟩ := List.mem_map.1 hp
      obtain ⟨rfl, rfl⟩ := keyN_inj e
      exact hm hj)
    exact ⟨w', l ++ [(d, s)], h1, by rw [List.map_append]; exact h2, fun p => by simp, h3⟩
theorem look_K {w : World} {b : Nat} {l : List (Int × ByteArray)} (h : MapAt Try.prog 47 w b (l.map onK)) {d : Int} {s : ByteArray} (hd : I64 d) (hs : s.size ≤ maxLen) :
    ((d, s) ∈ l → (Instr.lookup 52 (.map (some b)) (.agg #[.int .i64 d, .string s]) false).run Try.prog w = .ok (.bool true) w) ∧ ((d, s) ∉ l → (Instr.lookup 52 (.map (some b)) (.agg #[.int .i64 d, .string s]) false).run Try.prog w = .ok (.bool false) w) := by
  obtain ⟨kl, hkl⟩ := key47 hd hs
  refine ⟨fun hm => h.look_hit law47 Try.underlying52 hkl (List.mem_map.2 ⟨(d, s), hm, rfl⟩) false, fun hm => h.look_miss law47 Try.underlying52 (z := .bool false) (by kernel_rfl) hkl (fun p hp e => ?_) false⟩
  obtain ⟨⟨d', s'⟩, hj, rfl⟩ := List.mem_map.1 hp
  obtain ⟨rfl, rfl⟩ := keyN_inj e
  exact hm hj
theorem mem_addI {l : List Int} {i j : Int} : j ∈ addI l i ↔ j ∈ l ∨ j = i := by
  unfold addI
  split
  · rename_i h
    refine ⟨.inl, ?_⟩
    rintro (h1 | rfl)
    · exact h1
    · exact h
  · simp

/-- the directories and the names that were found so far -/
structure OkM (w : World) (dl : List Int) (fl : List (Int × ByteArray)) (wr : World) : Prop where
  d : MapAt Try.prog 3 wr w.heap.size (dl.map onI)
  f : MapAt Try.prog 47 wr (w.heap.size + 1) (fl.map onK)
  b : Below w.heap.size w wr
section
variable {w wr w2 : World} {dl : List Int} {fl : List (Int × ByteArray)}
theorem OkM.below (h : OkM w dl fl wr) (hb : Below wr.heap.size wr w2) : OkM w dl fl w2 := ⟨h.d.move (hb.block _ h.d.lt), h.f.move (hb.block _ h.f.lt), h.b.trans (hb.mono h.b.size)⟩
theorem OkM.dir (h : OkM w dl fl wr) {i : Int} (hi : I64 i) : ∃ w2 : World, (Instr.mapUpdate 49 (.map (some w.heap.size)) (.int .i64 i) (.bool true)).run Try.prog wr = .ok () w2 ∧ OkM w (addI dl i) fl w2 ∧ ∀ (c : Nat) (cs : Array Value) (ty : TypeId), wr.heap[c]? = some (.cells cs ty (0, 0)) → w2.heap[c]? = some (.cells cs ty (0, 0)) := by
  obtain ⟨w2, h1, h2, h3, h4⟩ := putI h.d hi
  refine ⟨w2, h1, ⟨h2, h.f.kept h3 (by simp), h.b.grown h3 h.b.size (fun k e => by cases e; exact Nat.le_refl _)⟩, fun c cs ty hc => ?_⟩
  exact (h3.block c (blk_lt hc) (fun e => h.d.ne_cells hc (Option.some.inj e))).trans hc
theorem OkM.found (h : OkM w dl fl wr) {d : Int} {s : ByteArray} (hd : I64 d) (hs : s.size ≤ maxLen) : ∃ (w2 : World) (fl2 : List (Int × ByteArray)), (Instr.mapUpdate 52 (.map (some (w.heap.size + 1))) (.agg #[.int .i64 d, .string s]) (.bool true)).run Try.prog wr = .ok () w2 ∧ OkM w dl fl2 w2 ∧ (∀ p, p ∈ fl2 ↔ p ∈ fl ∨ p = (d, s)) ∧ ∀ (c : Nat) (cs : Array Value) (ty : TypeId), wr.heap[c]? = some (.cells cs ty (0, 0)) → w2.heap[c]? = some (.cells cs ty (0, 0)) := by
  obtain ⟨w2, l', h1, h2, h5, h3, h4⟩ := putK h.f hd hs
  refine ⟨w2, l', h1, ⟨h.d.kept h3 (fun e => by have := Option.some.inj e; omega), h2, h.b.grown h3 h.b.size (fun k e => by cases e; omega)⟩, h5, fun c cs ty hc => ?_⟩
  exact (h3.block c (blk_lt hc) (fun e => h.f.ne_cells hc (Option.some.inj e))).trans hc
theorem OkM.start (w : World) : OkM w [] [] ((w.alloc (.map #[] 0)).alloc (.map #[] 0)) := by
  refine ⟨(MapAt.new w).alloc _, ?_, ((Below.refl _ w).alloc (Nat.le_refl _) _).alloc (by simp) _⟩
  have := MapAt.new (P := Try.prog) (k := 47) (w.alloc (.map #[] 0))
  rwa [World.size_alloc] at this
end
def SetD (l : List S29) (m : Nat) (dl : List Int) : Prop := ∀ i, i ∈ dl ↔ ∃ j, j < m ∧ (rd29 l j).f1 = 2 ∧ (rd29 l j).f0 = i
def FoundIn (n : S29) (k : Nat) (p : Int × ByteArray) : Prop := n.f0 = p.1 ∧ ∃ j, j < k ∧ (rd33 n.f5 j).f0 ≠ 0 ∧ (rd33 n.f5 j).f1 = p.2
def SetF (l : List S29) (m : Nat) (fl : List (Int × ByteArray)) : Prop := ∀ p, p ∈ fl ↔ ∃ j, j < m ∧ FoundIn (rd29 l j) (rd29 l j).f5.length p
theorem rd29_mem {l : List S29} {j : Nat} (h : j < l.length) : rd29 l j ∈ l := by
  unfold rd29
  rw [List.getD_eq_getElem?_getD, List.getElem?_eq_getElem h, Option.getD_some]
  exact List.getElem_mem _
theorem mem_rd29 {l : List S29} {n : S29} (h : n ∈ l) : ∃ j, j < l.length ∧ rd29 l j = n := by
  obtain ⟨j, hj, rfl⟩ := List.getElem_of_mem h
  exact ⟨j, hj, by unfold rd29; rw [List.getD_eq_getElem?_getD, List.getElem?_eq_getElem hj, Option.getD_some]⟩
theorem rd33_mem {l : List S33} {j : Nat} (h : j < l.length) : rd33 l j ∈ l := by
  unfold rd33
  rw [List.getD_eq_getElem?_getD, List.getElem?_eq_getElem h, Option.getD_some]
  exact List.getElem_mem _
theorem mem_rd33 {l : List S33} {n : S33} (h : n ∈ l) : ∃ j, j < l.length ∧ rd33 l j = n := by
  obtain ⟨j, hj, rfl⟩ := List.getElem_of_mem h
  exact ⟨j, hj, by unfold rd33; rw [List.getD_eq_getElem?_getD, List.getElem?_eq_getElem hj, Option.getD_some]⟩
theorem SetD.all {l : List S29} {dl : List Int} (h : SetD l l.length dl) (d : Int) : d ∈ dl ↔ IsDir l d := by
  rw [h d]
  constructor
  · rintro ⟨j, hj, h1, h2⟩
    exact ⟨_, rd29_mem hj, h1, h2⟩
  · rintro ⟨n, hn, h1, h2⟩
    obtain ⟨j, hj, rfl⟩ := mem_rd29 hn
    exact ⟨j, hj, h1, h2⟩
theorem SetF.all {l : List S29} {fl : List (Int × ByteArray)} (h : SetF l l.length fl) (d : Int) (s : ByteArray) : (d, s) ∈ fl ↔ Found l d s := by
  rw [h (d, s)]
  constructor
  · rintro ⟨j, hj, h1, i, hi, h2, h3⟩
    exact ⟨_, rd29_mem hj, h1, _, rd33_mem hi, h2, h3⟩
  · rintro ⟨n, hn, h1, e, he, h2, h3⟩
    obtain ⟨j, hj, rfl⟩ := mem_rd29 hn
    obtain ⟨i, hi, rfl⟩ := mem_rd33 he
    exact ⟨j, hj, h1, i, hi, h2, h3⟩

theorem SetD.yes {l : List S29} {m : Nat} {dl : List Int} (h : SetD l m dl) (hk : (rd29 l m).f1 = 2) : SetD l (m + 1) (addI dl (rd29 l m).f0) := by
  intro i
  rw [mem_addI, h i]
  constructor
  · rintro (⟨j, hj, h1, h2⟩ | rfl)
    · exact ⟨j, by omega, h1, h2⟩
    · exact ⟨m, by omega, hk, rfl⟩
  · rintro ⟨j, hj, h1, h2⟩
    rcases Nat.lt_succ_iff_lt_or_eq.1 hj with hj | rfl
    · exact .inl ⟨j, hj, h1, h2⟩
    · exact .inr h2.symm
theorem SetD.no {l : List S29} {m : Nat} {dl : List Int} (h : SetD l m dl) (hk : ¬ (rd29 l m).f1 = 2) : SetD l (m + 1) dl := by
  intro i
  rw [h i]
  constructor
  · rintro ⟨j, hj, h1, h2⟩
    exact ⟨j, by omega, h1, h2⟩
  · rintro ⟨j, hj, h1, h2⟩
    rcases Nat.lt_succ_iff_lt_or_eq.1 hj with hj | rfl
    · exact ⟨j, hj, h1, h2⟩
    · exact absurd h1 hk

/-- what has been found in the nodes ahead, and in the first k names of this one -/
def SetK (l : List S29) (m k : Nat) (fl : List (Int × ByteArray)) : Prop := ∀ p, p ∈ fl ↔ (∃ j, j < m ∧ FoundIn (rd29 l j) (rd29 l j).f5.length p) ∨ FoundIn (rd29 l m) k p
theorem SetK.zero {l : List S29} {m : Nat} {fl : List (Int × ByteArray)} (h : SetF l m fl) : SetK l m 0 fl := fun p => by
  rw [h p]
  refine ⟨.inl, ?_⟩
  rintro (h | ⟨_, j, hj, _⟩)
  · exact h
  · omega
theorem SetK.full {l : List S29} {m : Nat} {fl : List (Int × ByteArray)} (h : SetK l m (rd29 l m).f5.length fl) : SetF l (m + 1) fl := fun p => by
  rw [h p]
  constructor
  · rintro (⟨j, hj, h1⟩ | h1)
    · exact ⟨j, by omega, h1⟩
    · exact ⟨m, by omega, h1⟩
  · rintro ⟨j, hj, h1⟩
    rcases Nat.lt_succ_iff_lt_or_eq.1 hj with hj | rfl
    · exact .inl ⟨j, hj, h1⟩
    · exact .inr h1
theorem SetK.yes {l : List S29} {m k : Nat} {fl fl2 : List (Int × ByteArray)} (h : SetK l m k fl) (hz : (rd33 (rd29 l m).f5 k).f0 ≠ 0) (h2 : ∀ p, p ∈ fl2 ↔ p ∈ fl ∨ p = ((rd29 l m).f0, (rd33 (rd29 l m).f5 k).f1)) : SetK l m (k + 1) fl2 := fun p => by
  rw [h2 p, h p]
  constructor
  · rintro ((h | ⟨h1, j, hj, h3⟩) | rfl)
    · exact .inl h
    · exact .inr ⟨h1, j, by omega, h3⟩
    · exact .inr ⟨rfl, k, by omega, hz, rfl⟩
  · rintro (h | ⟨h1, j, hj, h3⟩)
    · exact .inl (.inl h)
    · rcases Nat.lt_succ_iff_lt_or_eq.1 hj with hj | rfl
      · exact .inl (.inr ⟨h1, j, hj, h3⟩)
      · exact .inr (by rw [h1, h3.2])
theorem SetK.no {l : List S29} {m k : Nat} {fl : List (Int × ByteArray)} (h : SetK l m k fl) (hz : (rd33 (rd29 l m).f5 k).f0 = 0) : SetK l m (k + 1) fl := fun p => by
  rw [h p]
  constructor
  · rintro (h | ⟨h1, j, hj, h3⟩)
    · exact .inl h
    · exact .inr ⟨h1, j, by omega, h3⟩
  · rintro (h | ⟨h1, j, hj, h3⟩)
    · exact .inl h
    · rcases Nat.lt_succ_iff_lt_or_eq.1 hj with hj | rfl
      · exact .inr ⟨h1, j, hj, h3⟩
      · exact absurd hz h3.1

def OkR (w : World) (N : List NS) (Q : List PS) (l : List S29) (m : Nat) (wr : World) : Prop := ∃ dl fl, OkM w dl fl wr ∧ SetD l m dl ∧ SetF l m fl ∧ ∀ j, j < m → NodeOk N Q (rd29 l j)
def OkI (w : World) (N : List NS) (Q : List PS) (l : List S29) (m k nb : Nat) (A4 : Option Addr) (c4 : Nat) (A5 : Option Addr) (c5 : Nat) (wr : World) : Prop := ∃ dl fl, OkM w dl fl wr ∧ SetD l (m + 1) dl ∧ SetK l m k fl ∧ (∀ j, j < m + 1 → NodeOk N Q (rd29 l j)) ∧
  wr.heap[nb]? = some (.cells #[.int .i64 (rd29 l m).f0, .int .i64 (rd29 l m).f1, .int .i64 (rd29 l m).f2, .int .i64 (rd29 l m).f3, .slice A4 (rd29 l m).f4.length c4, .slice A5 (rd29 l m).f5.length c5] 29 (0, 0))

def RngI (w : World) (bn r : Nat) (N : List (NS × Nat × Nat)) (dl : List Int) (fl : List (Int × ByteArray)) (wr : World) : Prop := ∃ left, Rng Try.prog 47 wr bn r (N.map entN) left ∧ OkM w dl fl wr ∧ w.heap.size ≤ r ∧ ∀ x ∈ N, entN x ∈ left ∨ (Const x.1 → x.1.dir ∈ dl → (x.1.dir, x.1.nm) ∈ fl)

theorem map_ne_iter {P : Program} {k k' : TypeId} {wr : World} {b b' r : Nat} {l l' left : List (Value × Value)} (h : MapAt P k wr b l) (hR : Rng P k' wr b' r l' left) : b ≠ r := by
  obtain ⟨es, clock, h1, _⟩ := h
  obtain ⟨_, _, _, _, _, _, _, h2, _⟩ := hR
  rintro rfl
  rw [h1] at h2
  cases h2
theorem OkM.iter {w wr w1 : World} {dl : List Int} {fl : List (Int × ByteArray)} (h : OkM w dl fl wr) {k b r : Nat} {l left : List (Value × Value)} (hR : Rng Try.prog k wr b r l left) (hg : wr.grownBy w1 (some r)) (hr : w.heap.size ≤ r) : OkM w dl fl w1 :=
  ⟨h.d.kept hg (fun e => map_ne_iter h.d hR (Option.some.inj e)), h.f.kept hg (fun e => map_ne_iter h.f hR (Option.some.inj e)), h.b.grown hg h.b.size (fun k e => by cases e; exact hr)⟩
theorem const_yes {w : World} {x : NS} {xb mb : Nat} (h : AtN w x xb mb) (hl : x.ever.length ≤ 9223372036854775807) (hc : Const x) : Calls Try.prog 13 #[.pointer (some ⟨xb, 0, none⟩)] w fun e w' => e = .returned (.bool true) ∧ w = w' := by
  refine (constant_calls h hl).mono ?_
  rintro e w' ⟨rfl, rfl⟩
  exact ⟨ret_bool (by have := hc.1; have := hc.2; simp [*]), rfl⟩
theorem const_no {w : World} {x : NS} {xb mb : Nat} (h : AtN w x xb mb) (hl : x.ever.length ≤ 9223372036854775807) (hc : ¬ Const x) : Calls Try.prog 13 #[.pointer (some ⟨xb, 0, none⟩)] w fun e w' => e = .returned (.bool false) ∧ w = w' := by
  refine (constant_calls h hl).mono ?_
  rintro e w' ⟨rfl, rfl⟩
  refine ⟨ret_bool ?_, rfl⟩
  cases h1 : (decide ((x.ever.length : Int) = 1) && decide (x.now ≠ 0)) with
  | false => rfl
  | true =>
    simp only [Bool.and_eq_true, decide_eq_true_eq] at h1
    exact absurd ⟨by omega, h1.2⟩ hc

set_option maxRecDepth 100000 in
set_option maxHeartbeats 8000000 in
theorem ok_calls {base : Nat} {w : World} {g : Nat} {N : List NS} {Q : List PS} (h : WS base w g N Q) {l : List S29} {A : Option Addr} {c : Nat} (hC : Kd.C k29 w A l.length l) (hf : ∀ n ∈ l, NodeFit n) (hN : ∀ x ∈ N, x.ever.length ≤ 9223372036854775807 ∧ I64 x.dir ∧ x.nm.size ≤ maxLen) :
    Calls Try.prog 10 #[.pointer (some ⟨g, 0, none⟩), .slice A l.length c] w (MayP N Q l w) := by
  obtain ⟨bn, bp, N', Q', hI, rfl, rfl⟩ := h
  have hl := hC.2.1
  have HR0 : Hid (OkR w (N'.map (·.1)) (Q'.map (·.1)) l 0 ((w.alloc (.map #[] 0)).alloc (.map #[] 0))) := Lib.hid ⟨[], [], OkM.start w, fun i => by simp, fun p => by simp, fun j hj => absurd hj (Nat.not_lt_zero _)⟩
  have HI := Lib.hid hI
  have HC := Lib.hid hC
  have HF := Lib.hid hf
  have HNN := Lib.hid hN
  have hmk := fun w => @run_makeMap Try.prog w
  clear hI hC hf hN
  go_enter Try.func10, Try.ntmps10
  go_wp2
  go_loopw [17] (fun i wr => ∃ m : Nat, m ≤ l.length ∧ i = .int .i64 (m : Int) ∧ Hid (OkR w (N'.map (·.1)) (Q'.map (·.1)) l m wr)) (fun i _ => l.length - (intOf i).toNat)
  case atStart => exact ⟨0, Nat.zero_le _, rfl, HR0⟩
  case round =>
    obtain ⟨m, hm, rfl, HR⟩ := hrel
    by_cases hlt : m < l.length
    · have hlti : (m : Int) < (l.length : Int) := by omega
      obtain ⟨dl, fl, hM, hD, hF, hO⟩ := HR.out
      obtain ⟨ad, A4, c4, A5, c5, rfl, e0, e1, e2, e3, e4, e5, hNd⟩ := at29 HC.out m hlt
      replace e0 := pw_cell_below hM.b e0
      replace e1 := pw_cell_below hM.b e1
      replace e2 := pw_cell_below hM.b e2
      replace e3 := pw_cell_below hM.b e3
      replace e4 := pw_cell_below hM.b e4
      replace e5 := pw_cell_below hM.b e5
      have hfit := HF.out _ (rd29_mem hlt)
      have HFIT := Lib.hid hfit
      have HM := Lib.hid hM
      have HD := Lib.hid hD
      have HFF := Lib.hid hF
      have HO := Lib.hid hO
      have HNB : Hid ((wr.alloc (.cells #[.int .i64 (rd29 l m).f0, .int .i64 (rd29 l m).f1, .int .i64 (rd29 l m).f2, .int .i64 (rd29 l m).f3, .slice A4 (rd29 l m).f4.length c4, .slice A5 (rd29 l m).f5.length c5] 29)).heap[wr.heap.size]? = some (.cells #[.int .i64 (rd29 l m).f0, .int .i64 (rd29 l m).f1, .int .i64 (rd29 l m).f2, .int .i64 (rd29 l m).f3, .slice A4 (rd29 l m).f4.length c4, .slice A5 (rd29 l m).f5.length c5] 29 (0, 0))) := Lib.hid (blk_new wr _)
      have HNW := Lib.hid hNd
      have HMA : Hid (OkM w dl fl (wr.alloc (.cells #[.int .i64 (rd29 l m).f0, .int .i64 (rd29 l m).f1, .int .i64 (rd29 l m).f2, .int .i64 (rd29 l m).f3, .slice A4 (rd29 l m).f4.length c4, .slice A5 (rd29 l m).f5.length c5] 29))) := Lib.hid (hM.below (below_alloc (Below.refl _ _) _))
      have HND : Hid (Node (wr.alloc (.cells #[.int .i64 (rd29 l m).f0, .int .i64 (rd29 l m).f1, .int .i64 (rd29 l m).f2, .int .i64 (rd29 l m).f3, .slice A4 (rd29 l m).f4.length c4, .slice A5 (rd29 l m).f5.length c5] 29)) (rd29 l m) A4 c4 A5 c5) := Lib.hid (hNd.below HMA.out.b)
      have HIA := Lib.hid (HI.out.below HMA.out.b)
      clear hfit hM hD hF hO HR hNd
      by_cases hok : NodeOk (N'.map (·.1)) (Q'.map (·.1)) (rd29 l m)
      · have HOK := Lib.hid hok
        clear hok
        by_cases hkd : (rd29 l m).f1 = 2
        · have HKD := Lib.hid hkd
          have z1 : ((rd29 l m).f1 == 2) = true := by simpa using hkd
          have z2 : decide ((rd29 l m).f1 = 2) = true := by simpa using hkd
          clear hkd
          go_wp2_with (go_at_call 12; (with_reducible refine (node_calls HIA.out HND.out HFIT.out).mono ?_); rintro e w9 ⟨b, rfl, hb, hbl⟩; obtain rfl : b = true := hb.2 HOK.out; clear hb; obtain ⟨w2, hput, hM2, hk2⟩ := (HMA.out.below hbl).dir HFIT.out.ino; have hnb9 := (hbl.block _ (blk_lt HNB.out)).trans HNB.out; have c90 := blk_cell hnb9 0; have c91 := blk_cell hnb9 1; have hnb2 := hk2 _ _ _ hnb9; have c25 := blk_cell hnb2 5; simp only [List.getElem?_toArray, List.getElem?_cons_zero, List.getElem?_cons_succ] at c90 c91 c25; have HM2 := Lib.hid hM2; have HNB2 := Lib.hid hnb2; have HD2 := Lib.hid (HD.out.yes HKD.out); clear hbl hk2 hnb9 hnb2 hM2)
          have HQ0 : Hid (OkI w (N'.map (·.1)) (Q'.map (·.1)) l m 0 wr.heap.size A4 c4 A5 c5 w2) := Lib.hid ⟨_, fl, HM2.out, HD2.out, SetK.zero HFF.out, (fun j hj => by rcases Nat.lt_succ_iff_lt_or_eq.1 hj with h | rfl; exact HO.out j h; exact HOK.out), HNB2.out⟩
          clear HM2 HNB2 HD2 e0 e1 e2 e3 e4 e5 HNB HMA HND HIA HM HD HFF HO HOK HKD z1 z2 c91
          obtain ⟨wo, rfl⟩ : ∃ wo : World, wo = wr := ⟨_, rfl⟩
          go_loopw [34] (fun i wi => ∃ k : Nat, k ≤ (rd29 l m).f5.length ∧ i = .int .i64 (k : Int) ∧ Hid (OkI w (N'.map (·.1)) (Q'.map (·.1)) l m k wo.heap.size A4 c4 A5 c5 wi)) (fun i _ => (rd29 l m).f5.length - (intOf i).toNat)
          case atStart => exact ⟨0, Nat.zero_le _, rfl, HQ0⟩
          case round =>
            clear HQ0
            obtain ⟨k, hk, rfl, HQ⟩ := hrel
            have hl5 := HNW.out.C5.2.1
            by_cases hlk : k < (rd29 l m).f5.length
            · have hlki : (k : Int) < ((rd29 l m).f5.length : Int) := by omega
              obtain ⟨dl3, fl3, hM3, hD3, hK3, hO3, hB3⟩ := HQ.out
              obtain ⟨ae, rfl, s0, s1⟩ := at33 (Kd.C_below HNW.out.C5 hM3.b) k hlk
              have hes := HFIT.out.names _ (rd33_mem hlk)
              by_cases hz : (rd33 (rd29 l m).f5 k).f0 = 0
              · have n1 : ((rd33 (rd29 l m).f5 k).f0 == 0) = true := by simpa using hz
                have n2 : decide ((rd33 (rd29 l m).f5 k).f0 = 0) = true := by simpa using hz
                have n3 : ((rd33 (rd29 l m).f5 k).f0 != 0) = false := by simpa using hz
                have HQ2 : Hid (OkI w (N'.map (·.1)) (Q'.map (·.1)) l m (k + 1) wo.heap.size A4 c4 (some ae) c5 (wr.alloc (.cells #[.int .i64 (rd33 (rd29 l m).f5 k).f0, .string (rd33 (rd29 l m).f5 k).f1] 33))) := Lib.hid ⟨dl3, fl3, hM3.below (below_alloc (Below.refl _ _) _), hD3, hK3.no hz, hO3, blk_alloc hB3 _⟩
                clear hz hM3 hD3 hK3 hO3 hB3 hes HQ
                go_wp2
                go_roundw
                case rel => exact ⟨k + 1, by omega, by go_num, HQ2⟩
                case measure => simp [intOf]; omega
              · have n1 : ((rd33 (rd29 l m).f5 k).f0 == 0) = false := by simpa using hz
                have n2 : decide ((rd33 (rd29 l m).f5 k).f0 = 0) = false := by simpa using hz
                have n3 : ((rd33 (rd29 l m).f5 k).f0 != 0) = true := by simpa using hz
                obtain ⟨w4, fl4, hput4, hM4, hmem4, hk4⟩ := (hM3.below (below_alloc (Below.refl _ _) (.cells #[.int .i64 (rd33 (rd29 l m).f5 k).f0, .string (rd33 (rd29 l m).f5 k).f1] 33))).found HFIT.out.ino hes.2
                have cn0 := blk_cell (blk_alloc hB3 (.cells #[.int .i64 (rd33 (rd29 l m).f5 k).f0, .string (rd33 (rd29 l m).f5 k).f1] 33)) 0
                simp only [List.getElem?_toArray, List.getElem?_cons_zero, List.getElem?_cons_succ] at cn0
                have HQ2 : Hid (OkI w (N'.map (·.1)) (Q'.map (·.1)) l m (k + 1) wo.heap.size A4 c4 (some ae) c5 w4) := Lib.hid ⟨dl3, fl4, hM4, hD3, hK3.yes hz hmem4, hO3, hk4 _ _ _ (blk_alloc hB3 _)⟩
                clear hz hM3 hD3 hK3 hO3 hB3 hes HQ hM4 hmem4 hk4
                go_wp2
                go_roundw
                case rel => exact ⟨k + 1, by omega, by go_num, HQ2⟩
                case measure => simp [intOf]; omega
            · obtain rfl : k = (rd29 l m).f5.length := by omega
              obtain ⟨dl3, fl3, hM3, hD3, hK3, hO3, hB3⟩ := HQ.out
              have HR3 : Hid (OkR w (N'.map (·.1)) (Q'.map (·.1)) l (m + 1) wr) := Lib.hid ⟨dl3, fl3, hM3, hD3, hK3.full, hO3⟩
              clear hM3 hD3 hK3 hO3 hB3 HQ hlk
              go_wp2
              go_roundw
              case rel => exact ⟨m + 1, by omega, by go_num, HR3⟩
              case measure => simp [intOf]; omega
        · have HKD := Lib.hid hkd
          have z1 : ((rd29 l m).f1 == 2) = false := by simpa using hkd
          have z2 : decide ((rd29 l m).f1 = 2) = false := by simpa using hkd
          clear hkd
          go_wp2_with (go_at_call 12; (with_reducible refine (node_calls HIA.out HND.out HFIT.out).mono ?_); rintro e w2 ⟨b, rfl, hb, hbl⟩; obtain rfl : b = true := hb.2 HOK.out; clear hb; have hM2 := (HMA.out.below hbl); have hnb2 := (hbl.block _ (blk_lt HNB.out)).trans HNB.out; have c91 := blk_cell hnb2 1; have c25 := blk_cell hnb2 5; simp only [List.getElem?_toArray, List.getElem?_cons_zero, List.getElem?_cons_succ] at c91 c25; have HM2 := Lib.hid hM2; have HNB2 := Lib.hid hnb2; have HD2 := Lib.hid (HD.out.no HKD.out); clear hbl hnb2 hM2)
          have HQ0 : Hid (OkI w (N'.map (·.1)) (Q'.map (·.1)) l m 0 wr.heap.size A4 c4 A5 c5 w2) := Lib.hid ⟨_, fl, HM2.out, HD2.out, SetK.zero HFF.out, (fun j hj => by rcases Nat.lt_succ_iff_lt_or_eq.1 hj with h | rfl; exact HO.out j h; exact HOK.out), HNB2.out⟩
          clear HM2 HNB2 HD2 e0 e1 e2 e3 e4 e5 HNB HMA HND HIA HM HD HFF HO HOK HKD z1 z2 c91
          obtain ⟨wo, rfl⟩ : ∃ wo : World, wo = wr := ⟨_, rfl⟩
          go_loopw [34] (fun i wi => ∃ k : Nat, k ≤ (rd29 l m).f5.length ∧ i = .int .i64 (k : Int) ∧ Hid (OkI w (N'.map (·.1)) (Q'.map (·.1)) l m k wo.heap.size A4 c4 A5 c5 wi)) (fun i _ => (rd29 l m).f5.length - (intOf i).toNat)
          case atStart => exact ⟨0, Nat.zero_le _, rfl, HQ0⟩
          case round =>
            clear HQ0
            obtain ⟨k, hk, rfl, HQ⟩ := hrel
            have hl5 := HNW.out.C5.2.1
            by_cases hlk : k < (rd29 l m).f5.length
            · have hlki : (k : Int) < ((rd29 l m).f5.length : Int) := by omega
              obtain ⟨dl3, fl3, hM3, hD3, hK3, hO3, hB3⟩ := HQ.out
              obtain ⟨ae, rfl, s0, s1⟩ := at33 (Kd.C_below HNW.out.C5 hM3.b) k hlk
              have hes := HFIT.out.names _ (rd33_mem hlk)
              by_cases hz : (rd33 (rd29 l m).f5 k).f0 = 0
              · have n1 : ((rd33 (rd29 l m).f5 k).f0 == 0) = true := by simpa using hz
                have n2 : decide ((rd33 (rd29 l m).f5 k).f0 = 0) = true := by simpa using hz
                have n3 : ((rd33 (rd29 l m).f5 k).f0 != 0) = false := by simpa using hz
                have HQ2 : Hid (OkI w (N'.map (·.1)) (Q'.map (·.1)) l m (k + 1) wo.heap.size A4 c4 (some ae) c5 (wr.alloc (.cells #[.int .i64 (rd33 (rd29 l m).f5 k).f0, .string (rd33 (rd29 l m).f5 k).f1] 33))) := Lib.hid ⟨dl3, fl3, hM3.below (below_alloc (Below.refl _ _) _), hD3, hK3.no hz, hO3, blk_alloc hB3 _⟩
                clear hz hM3 hD3 hK3 hO3 hB3 hes HQ
                go_wp2
                go_roundw
                case rel => exact ⟨k + 1, by omega, by go_num, HQ2⟩
                case measure => simp [intOf]; omega
              · have n1 : ((rd33 (rd29 l m).f5 k).f0 == 0) = false := by simpa using hz
                have n2 : decide ((rd33 (rd29 l m).f5 k).f0 = 0) = false := by simpa using hz
                have n3 : ((rd33 (rd29 l m).f5 k).f0 != 0) = true := by simpa using hz
                obtain ⟨w4, fl4, hput4, hM4, hmem4, hk4⟩ := (hM3.below (below_alloc (Below.refl _ _) (.cells #[.int .i64 (rd33 (rd29 l m).f5 k).f0, .string (rd33 (rd29 l m).f5 k).f1] 33))).found HFIT.out.ino hes.2
                have cn0 := blk_cell (blk_alloc hB3 (.cells #[.int .i64 (rd33 (rd29 l m).f5 k).f0, .string (rd33 (rd29 l m).f5 k).f1] 33)) 0
                simp only [List.getElem?_toArray, List.getElem?_cons_zero, List.getElem?_cons_succ] at cn0
                have HQ2 : Hid (OkI w (N'.map (·.1)) (Q'.map (·.1)) l m (k + 1) wo.heap.size A4 c4 (some ae) c5 w4) := Lib.hid ⟨dl3, fl4, hM4, hD3, hK3.yes hz hmem4, hO3, hk4 _ _ _ (blk_alloc hB3 _)⟩
                clear hz hM3 hD3 hK3 hO3 hB3 hes HQ hM4 hmem4 hk4
                go_wp2
                go_roundw
                case rel => exact ⟨k + 1, by omega, by go_num, HQ2⟩
                case measure => simp [intOf]; omega
            · obtain rfl : k = (rd29 l m).f5.length := by omega
              obtain ⟨dl3, fl3, hM3, hD3, hK3, hO3, hB3⟩ := HQ.out
              have HR3 : Hid (OkR w (N'.map (·.1)) (Q'.map (·.1)) l (m + 1) wr) := Lib.hid ⟨dl3, fl3, hM3, hD3, hK3.full, hO3⟩
              clear hM3 hD3 hK3 hO3 hB3 HQ hlk
              go_wp2
              go_roundw
              case rel => exact ⟨m + 1, by omega, by go_num, HR3⟩
              case measure => simp [intOf]; omega
      · have HOK := Lib.hid hok
        clear hok
        go_wp2_with (go_at_call 12; (with_reducible refine (node_calls HIA.out HND.out HFIT.out).mono ?_); rintro e w9 ⟨b, rfl, hb, hbl⟩; obtain rfl : b = false := (by cases b; rfl; exact absurd (hb.1 rfl) HOK.out); clear hb; have HB9 := Lib.hid (HMA.out.b.trans (hbl.mono HMA.out.b.size)); clear hbl)
        go_ret
        exact ⟨false, rfl, ⟨fun e => (by cases e), fun hM => absurd (hM.1 _ (rd29_mem hlt)) HOK.out⟩, HB9.out⟩
    · obtain rfl : m = l.length := by omega
      clear hlt
      obtain ⟨dl, fl, hM, hD, hF, hO⟩ := HR.out
      have hIw := HI.out.below hM.b
      have c0 := blk_cell hIw.hg 0
      simp only [List.getElem?_toArray, List.getElem?_cons_zero, List.getElem?_cons_succ] at c0
      obtain ⟨w0, hrng, hR0, hg0, hs0⟩ := hIw.hn.range Try.underlying42
      have HQ0 : Hid (RngI w bn wr.heap.size N' dl fl w0) := Lib.hid ⟨_, hR0, ⟨hM.d.kept hg0 (by simp), hM.f.kept hg0 (by simp), hM.b.grown hg0 hM.b.size (fun k e => by cases e)⟩, hM.b.size, fun x hx => .inl (List.mem_map.2 ⟨x, hx, rfl⟩)⟩
      have HD := Lib.hid hD
      have HFF := Lib.hid hF
      have HO := Lib.hid hO
      clear HR hM hD hF hO hR0 hg0 hs0 hIw
      go_wp2
      clear hrng c0
      obtain ⟨wo, rfl⟩ : ∃ wo : World, wo = wr := ⟨_, rfl⟩
      go_loopw [12] (fun x wr => Hid (RngI w bn wo.heap.size N' dl fl wr)) (fun _ wr => wr.rangeLeft bn wo.heap.size)
      case atStart => exact HQ0
      case round =>
        clear HQ0
        obtain ⟨left, hR, hM, hr, hx⟩ := hrel.out
        rcases hR.next 0 with ⟨rfl, hrun⟩ | ⟨key, v, l1, l2, w1, rfl, hmem, hrun, hR1, hg1, hs1, hen⟩
        · have HB := Lib.hid hM.b
          have HX := Lib.hid hx
          clear hR hM hx hrel
          go_wp2
          go_ret
          refine ⟨true, rfl, ⟨fun _ => ⟨fun n hn => ?_, fun x hx hc hd => ?_⟩, fun _ => rfl⟩, HB.out⟩
          · obtain ⟨j, hj, rfl⟩ := mem_rd29 hn
            exact HO.out j hj
          · obtain ⟨y, hy, rfl⟩ := List.mem_map.1 hx
            exact (HFF.out.all _ _).1 (((HX.out y hy).resolve_left (by simp)) hc ((HD.out.all _).2 hd))
        · obtain ⟨y, hy, hye⟩ := List.mem_map.1 hmem
          obtain ⟨x, xb, mb⟩ := y
          simp only [entN, Prod.mk.injEq] at hye
          obtain ⟨rfl, rfl⟩ := hye
          have hM1 := hM.iter hR hg1 hr
          have hM2 := hM1.below (below_alloc (Below.refl _ w1) (.cells #[.int .i64 x.dir, .string x.nm] 47))
          have hI2 := HI.out.below hM2.b
          have hAt := hI2.hx _ hy
          obtain ⟨hl1, hl2, hl3⟩ := HNN.out x (List.mem_map.2 ⟨_, hy, rfl⟩)
          have hlk1 := look_I hM2.d hl2
          have hlk2 := look_K hM2.f hl2 hl3
          have hR2 : Rng Try.prog 47 (w1.alloc (.cells #[.int .i64 x.dir, .string x.nm] 47)) bn wo.heap.size (N'.map entN) (l1 ++ l2) := hR1.kept (World.grownBy_alloc w1 _ none) (by simp) (by simp)
          have HLT : Hid ((w1.alloc (.cells #[.int .i64 x.dir, .string x.nm] 47)).rangeLeft bn wo.heap.size < wr.rangeLeft bn wo.heap.size) := Lib.hid (by rw [hR2.left_eq, hR.left_eq]; simp)
          have HAT := Lib.hid hAt
          have HL1 := Lib.hid hl1
          have HNXT : Hid ((Const x → x.dir ∈ dl → (x.dir, x.nm) ∈ fl) → RngI w bn wo.heap.size N' dl fl (w1.alloc (.cells #[.int .i64 x.dir, .string x.nm] 47))) := Lib.hid (fun hthis => by
            refine ⟨_, hR2, hM2, hr, fun z hz => ?_⟩
            rcases hx z hz with h | h
            · rw [List.mem_append, List.mem_cons] at h
              rcases h with h | h | h
              · exact .inl (by simp [h])
              · have hk := congrArg Prod.fst h
                obtain ⟨h1, h2⟩ := keyN_inj hk
                have : z = (x, xb, mb) := HI.out.key_eq hz hy h1 h2
                subst this
                exact .inr hthis
              · exact .inl (by simp [h])
            · exact .inr h)
          have HBB := Lib.hid hM2.b
          have HMEM := Lib.hid hy
          unfold keyN at hrun hen
          clear hR hM hx hrel hM1 hI2 hAt hl1 hR2 hR1 hg1 hs1 hmem hM2 hy
          by_cases hc : Const x
          · have HCN := Lib.hid hc
            clear hc
            by_cases hd : x.dir ∈ dl
            · have g1 := hlk1.1 hd
              have HDD := Lib.hid hd
              clear hd hlk1
              by_cases hfo : (x.dir, x.nm) ∈ fl
              · have g2 := hlk2.1 hfo
                have HFO := Lib.hid hfo
                clear hfo hlk2
                go_wp2_with (go_at_call 13; (with_reducible refine (const_yes HAT.out HL1.out HCN.out).mono ?_); rintro e w7 ⟨rfl, rfl⟩)
                go_roundw
                case rel => exact Lib.hid (HNXT.out (fun _ _ => HFO.out))
                case measure => exact HLT.out
              · have g2 := hlk2.2 hfo
                have HFO := Lib.hid hfo
                clear hfo hlk2
                go_wp2_with (go_at_call 13; (with_reducible refine (const_yes HAT.out HL1.out HCN.out).mono ?_); rintro e w7 ⟨rfl, rfl⟩)
                go_ret
                refine ⟨false, rfl, ⟨fun e => (by cases e), fun hM => absurd ((HFF.out.all _ _).2 (hM.2 x (List.mem_map.2 ⟨_, HMEM.out, rfl⟩) HCN.out ((HD.out.all _).1 HDD.out))) HFO.out⟩, HBB.out⟩
            · have g1 := hlk1.2 hd
              have HDD := Lib.hid hd
              clear hd hlk1 hlk2
              go_wp2_with (go_at_call 13; (with_reducible refine (const_yes HAT.out HL1.out HCN.out).mono ?_); rintro e w7 ⟨rfl, rfl⟩)
              go_roundw
              case rel => exact Lib.hid (HNXT.out (fun _ h => absurd h HDD.out))
              case measure => exact HLT.out
          · have HCN := Lib.hid hc
            clear hc hlk1 hlk2
            go_wp2_with (go_at_call 13; (with_reducible refine (const_no HAT.out HL1.out HCN.out).mono ?_); rintro e w7 ⟨rfl, rfl⟩)
            go_roundw
            case rel => exact Lib.hid (HNXT.out (fun h => absurd h HCN.out))
            case measure => exact HLT.out
end Go.Proofs.Ytnnnakgdmhmpmaa.Given
