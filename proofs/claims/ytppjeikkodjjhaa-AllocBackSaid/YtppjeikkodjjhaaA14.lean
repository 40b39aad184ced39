/- AllocBack answers true. -/
import Derived.Test.YtppjeikkodjjhaaA12
import Derived.Test.YtppjeikkodjjhaaA13
namespace Go.Proofs.Ytppjeikkodjjhaa.Given
open Go.RowKit Go.Shelf Go.Proofs.YtppjeikkodjjhaaW.PrintWords Go.Proofs.YtppjeikkodjjhaaW.PrintLast Go.Proofs.YtppjeikkodjjhaaW.PrintMore Go.Proofs.YtppjeikkodjjhaaBase Go.Proofs.Ytppjeikkodjjhaa.PGeo Go.Proofs.Ytppjeikkodjjhaa.PGet Go.Proofs.Ytppjeikkodjjhaa.PWith
set_option linter.unusedVariables false
set_option linter.unusedSimpArgs false

theorem rinodes_is {gr i d : Int} {n p : Nat} (h : Fine gr i d) (hn : gr = (n : Int)) (hp : i * 16 = (p : Int)) : lockgateref1_Inodes.f gr i d = some ((n * p : Nat) : Int) := by
  obtain ⟨r, h1, h2⟩ := inodes_same gr i d
  rw [inodes_fine h hn hp] at h1
  rw [h2, ← h1]
/-- the search from the first group on -/
theorem from0_ (n : Nat) : fromOf n 0 = 0 := by unfold fromOf; split <;> rfl
theorem next0_some {l : List Bool} {p n k : Nat} (hk : k < n * p) (h : l.getD k false = false) (hb : ∀ j, j < k → l.getD j false = true) : nextA l p n 0 = some k := by
  have e : ∀ j, j < n * p → (fromOf n 0 * p + j) % (n * p) = j := fun j hj => by rw [from0_, Nat.zero_mul, Nat.zero_add]; exact Nat.mod_eq_of_lt hj
  have := nextA_some (l := l) (p := p) (n := n) (from0 := 0) (i := k) hk (by rw [e k hk]; exact h) (fun j hj => by rw [e j (by omega)]; exact hb j hj)
  rwa [e k hk] at this
theorem next0_spec (l : List Bool) (p n : Nat) : (nextA l p n 0 = none ∧ ∀ k, k < n * p → l.getD k false = true) ∨ (∃ k, k < n * p ∧ nextA l p n 0 = some k ∧ l.getD k false = false ∧ ∀ j, j < k → l.getD j false = true) := by
  have e : ∀ j, j < n * p → (fromOf n 0 * p + j) % (n * p) = j := fun j hj => by rw [from0_, Nat.zero_mul, Nat.zero_add]; exact Nat.mod_eq_of_lt hj
  rcases nextA_spec l p n 0 with ⟨h1, h2⟩ | ⟨i, h1, h2, h3, h4⟩
  · exact .inl ⟨h1, fun k hk => by rw [← e k hk]; exact h2 k hk⟩
  · rw [e i h1] at h2 h3
    exact .inr ⟨i, h1, h2, h3, fun j hj => by rw [← e j (by omega)]; exact h4 j hj⟩
theorem setD_getD (l : List Bool) (m k : Nat) (b : Bool) (hm : m < l.length) : (l.set m b).getD k false = if m = k then b else l.getD k false := by
  rw [List.getD_eq_getElem?_getD]
  split
  · subst_vars
    rw [List.getElem?_set_self hm]
    rfl
  · rename_i h
    rw [List.getElem?_set_ne h, ← List.getD_eq_getElem?_getD]
/-- one more is free: the first one -/
theorem next0_set {l : List Bool} {p n m : Nat} (hl : l.length = n * p) (hm : m < n * p) (ht : l.getD m false = true) :
    optI (nextA (l.set m false) p n 0) = if optI (nextA l p n 0) = 0 ∨ (m : Int) + 1 < optI (nextA l p n 0) then (m : Int) + 1 else optI (nextA l p n 0) := by
  rcases next0_spec l p n with ⟨h1, h2⟩ | ⟨k, hk, h1, h2, h3⟩
  · rw [h1, if_pos (.inl rfl), next0_some (k := m) hm (by rw [setD_getD _ _ _ _ (by omega), if_pos rfl]) (fun j hj => by rw [setD_getD _ _ _ _ (by omega), if_neg (by omega)]; exact h2 j (by omega))]
    rfl
  · have hmk : m ≠ k := fun e => by rw [e, h2] at ht; cases ht
    rw [h1]
    by_cases hlt : m < k
    · rw [next0_some (k := m) hm (by rw [setD_getD _ _ _ _ (by omega), if_pos rfl]) (fun j hj => by rw [setD_getD _ _ _ _ (by omega), if_neg (by omega)]; exact h3 j (by omega)), if_pos (.inr (by simp only [optI]; omega))]
      rfl
    · rw [next0_some (k := k) hk (by rw [setD_getD _ _ _ _ (by omega), if_neg hmk]; exact h2) (fun j hj => by
        rw [setD_getD _ _ _ _ (by omega)]
        split
        · omega
        · exact h3 j hj), if_neg (by simp only [optI]; omega)]
theorem freeN_set {l : List Bool} {m : Nat} (hm : m < l.length) (ht : l.getD m false = true) : freeN (l.set m false) = freeN l + 1 := by
  unfold freeN
  rw [List.countP_set hm]
  have : l[m] = true := by rw [List.getD_eq_getElem?_getD, List.getElem?_eq_getElem hm] at ht; simpa using ht
  simp [this]
/-- what is not given back is taken -/
def MarkS (li : List Bool) (N : Nat) (l : List Int) (k : Nat) : Prop := li.length = N ∧ ∀ m, m < N → li.getD m false = decide (∀ j, j < k → l.getD j 0 ≠ (m : Int) + 1)
theorem MarkS.start {li : List Bool} {N : Nat} (l : List Int) (h : RotS li N 0 N) (hN : 0 < N) : MarkS li N l 0 := by
  refine ⟨h.1, fun m hm => ?_⟩
  have := h.2 m hm
  rw [Nat.zero_add, Nat.mod_eq_of_lt hm] at this
  rw [this]
  simp [hm]
/-- is the k-th one given back for the first time -/
def isB (n p : Nat) (l : List Int) (k : Nat) : Bool := decide (1 ≤ l.getD k 0 ∧ l.getD k 0 ≤ ((n * p : Nat) : Int)) && decide (∀ j, j < k → l.getD j 0 ≠ l.getD k 0)
theorem decide_lt_succ {P : Nat → Prop} (k : Nat) [Decidable (∀ j, j < k → P j)] [Decidable (∀ j, j < k + 1 → P j)] [Decidable (P k)] : decide (∀ j, j < k + 1 → P j) = (decide (∀ j, j < k → P j) && decide (P k)) := by
  rw [Bool.eq_iff_iff]
  simp only [decide_eq_true_eq, Bool.and_eq_true]
  constructor
  · exact fun h => ⟨fun j hj => h j (by omega), h k (by omega)⟩
  · rintro ⟨h1, h2⟩ j hj
    by_cases e : j = k
    · subst e; exact h2
    · exact h1 j (by omega)
theorem mark_step {n p : Nat} {li : List Bool} {l : List Int} {k : Nat} {gr i d : Int} {ld : List Bool} (h : MarkS li (n * p) l k) :
    maySet gr i d n p li ld (l.getD k 0) 0 false = (isB n p l k || decide (l.getD k 0 = 0)) ∧
    MarkS (if maySet gr i d n p li ld (l.getD k 0) 0 false = true then newI n p li (l.getD k 0) false else li) (n * p) l (k + 1) ∧
    (isB n p l k = true → ∃ m : Nat, m < n * p ∧ l.getD k 0 = (m : Int) + 1 ∧ li.getD m false = true ∧ newI n p li (l.getD k 0) false = li.set m false) ∧
    (isB n p l k = false → l.getD k 0 = 0 → newI n p li (l.getD k 0) false = li) := by
  obtain ⟨b, hb⟩ : ∃ b, l.getD k 0 = b := ⟨_, rfl⟩
  have hmD : mayD gr i d ld 0 false = true := by simp [mayD]
  have hms : maySet gr i d n p li ld b 0 false = mayI n p li b false := by unfold maySet; rw [hmD, Bool.and_true]
  have keep : (∀ m, m < n * p → b ≠ (m : Int) + 1) → MarkS li (n * p) l (k + 1) := fun hne => ⟨h.1, fun m hm => by
    rw [h.2 m hm, decide_lt_succ, hb, decide_eq_true (hne m hm), Bool.and_true]⟩
  unfold isB
  rw [hb, hms]
  by_cases hr : 1 ≤ b ∧ b ≤ ((n * p : Nat) : Int)
  · obtain ⟨m, rfl⟩ : ∃ m : Nat, b = (m : Int) + 1 := ⟨(b - 1).toNat, by omega⟩
    have hm : m < n * p := by omega
    have hio : iOf n p ((m : Int) + 1) = some m := by unfold iOf; rw [if_pos hr]; congr 1; omega
    have hne0 : ¬ ((m : Int) + 1 = 0) := by omega
    have hmI : mayI n p li ((m : Int) + 1) false = li.getD m false := by unfold mayI; rw [hio]; simp [hne0]
    have hnI : newI n p li ((m : Int) + 1) false = li.set m false := by unfold newI; rw [hio]
    have hd := h.2 m hm
    rw [hmI, hnI, decide_eq_true hr, Bool.true_and, decide_eq_false hne0, Bool.or_false, hd]
    refine ⟨rfl, ?_, fun ht => ⟨m, hm, rfl, hd.trans ht, rfl⟩, fun _ h0 => absurd h0 hne0⟩
    refine ⟨by split <;> simp [h.1], fun m' hm' => ?_⟩
    rw [decide_lt_succ, hb, ← h.2 m' hm']
    by_cases hmm : m = m'
    · subst hmm
      rw [show decide ((m : Int) + 1 ≠ (m : Int) + 1) = false by simp, Bool.and_false]
      split
      · rw [setD_getD _ _ _ _ (by rw [h.1]; exact hm), if_pos rfl]
      · rename_i hf
        rw [hd]
        simpa using hf
    · rw [show decide ((m : Int) + 1 ≠ (m' : Int) + 1) = true from decide_eq_true (by omega), Bool.and_true]
      split
      · rw [setD_getD _ _ _ _ (by rw [h.1]; exact hm), if_neg hmm]
      · rfl
  · rw [decide_eq_false hr, Bool.false_and, Bool.false_or]
    have hio : iOf n p b = none := by unfold iOf; rw [if_neg hr]
    have hnI : newI n p li b false = li := by unfold newI; rw [hio]
    have hmI : mayI n p li b false = decide (b = 0) := by
      unfold mayI
      rw [hio, Bool.or_false]
      by_cases h0 : b = 0 <;> simp [h0]
    rw [hmI, hnI]
    refine ⟨rfl, ?_, (fun e => by cases e), fun _ _ => rfl⟩
    rw [ite_self]
    exact keep fun m hm e => hr ⟨by omega, by omega⟩

theorem C_int {w : World} {A : Option Addr} {l : List Int} (h : Kd.C (Kd.int .i64) w A l.length l) (hne : 0 < l.length) : ∃ ad, A = some ad ∧ ∀ j, j < l.length → w.cell? (ad.add j) = some (.int .i64 (l.getD j 0)) := by
  obtain ⟨ad, e, hc⟩ := C_cells h hne
  refine ⟨ad, e, fun j hj => hc j _ ?_⟩
  rw [nums, List.getElem?_map, List.getElem?_eq_getElem hj, List.getD_eq_getElem?_getD, List.getElem?_eq_getElem hj]
  rfl
theorem bne_dec (x y : Int) : (x != y) = decide (x ≠ y) := by by_cases h : x = y <;> simp [h]
/-- the allocator with just these inodes taken, newer than N1 -/
def BkL (wx : World) (N1 g : Nat) (gr i d : Int) (n p q : Nat) (li : List Bool) (W : World) : Prop :=
  (∃ ld, IsAA N1 (fun j => N1 ≤ j ∧ j < W.heap.size) W g gr i d n p q li ld) ∧ Below wx.heap.size wx W ∧ wx.heap.size ≤ N1 ∧ N1 ≤ W.heap.size
theorem BkL.next {wx W W1 : World} {N1 g : Nat} {gr i d : Int} {n p q : Nat} {li li' ld' : List Bool} (h : BkL wx N1 g gr i d n p q li W) (hA : IsAA N1 (fun k => ((N1 ≤ k ∧ k < W.heap.size) ∨ W.heap.size ≤ k) ∧ k < W1.heap.size) W1 g gr i d n p q li' ld') (ho : Off (fun j => N1 ≤ j ∧ j < W.heap.size) W W1) : BkL wx N1 g gr i d n p q li' W1 := by
  obtain ⟨_, h2, h3, h4⟩ := h
  exact ⟨⟨ld', hA.mono (fun k hk => ⟨hk.1.elim (fun h => h.1) (fun h => by omega), hk.2⟩)⟩, Off.keepB h2 ho (fun k hk => by omega) h2.size, h3, Nat.le_trans h4 ho.size⟩
theorem BkL.below {wx W W1 : World} {N1 g : Nat} {gr i d : Int} {n p q : Nat} {li : List Bool} (h : BkL wx N1 g gr i d n p q li W) (hb : Below W.heap.size W W1) : BkL wx N1 g gr i d n p q li W1 := by
  obtain ⟨⟨ld, h1⟩, h2, h3, h4⟩ := h
  exact ⟨⟨ld, (h1.below hb).mono (fun k hk => ⟨hk.1, Nat.lt_of_lt_of_le hk.2 hb.size⟩)⟩, h2.trans (hb.mono h2.size), h3, Nat.le_trans h4 hb.size⟩

set_option maxRecDepth 100000 in
set_option maxHeartbeats 4000000 in
theorem back_main (gr i d : Int) (n p q : Nat) (A : Option Addr) (c : Nat) (l : List Int) (w : World) (hfine : Fine gr i d) (hn : gr = (n : Int)) (hp : i * 16 = (p : Int)) (hq : d = (q : Int))
    (hC : Kd.C (Kd.int .i64) w A l.length l) (hc : l.length ≤ c) (hl : l.length ≤ 20) :
    Calls Try.prog 5 #[.agg #[.int .i64 gr, .int .i64 i, .int .i64 d], .slice A l.length c] w fun e w' => e = .returned (.bool true) ∧ Below w.heap.size w w' := by
  have HGD := Lib.hid (good_fine hfine)
  have HIN := Lib.hid (rinodes_is hfine hn hp)
  have hg1 : gN gr i d = n := gN_fine hfine hn
  have hg2 : (i * 16).toNat = p := by omega
  have hg3 : d.toNat = q := by omega
  have HG1 := Lib.hid hg1
  have HG2 := Lib.hid hg2
  have HG3 := Lib.hid hg3
  obtain ⟨f1, f2, f3, f4, f5, f6⟩ := hfine
  have hn8 : n ≤ 8 := by omega
  have hn1 : 1 ≤ n := by omega
  have hp64 : p ≤ 64 := by omega
  have hp0 : 16 ≤ p := by omega
  have hnp : n * p ≤ 8 * 64 := Nat.mul_le_mul hn8 hp64
  have hnp0 : 0 < n * p := Nat.mul_pos (by omega) (by omega)
  have HC := Lib.hid hC
  obtain ⟨wx, hwx⟩ : ∃ wx, w.alloc (.cells #[.int .i64 gr, .int .i64 i, .int .i64 d] 24) = wx := ⟨_, rfl⟩
  have hx0 : wx.heap[w.heap.size]? = some (.cells #[.int .i64 gr, .int .i64 i, .int .i64 d] 24 (0, 0)) := by rw [← hwx]; exact blk_new w _
  have HXW : Hid (Below w.heap.size w wx) := Lib.hid (by rw [← hwx]; exact (Below.refl _ w).alloc (Nat.le_refl _) _)
  have y0 : wx.cell? ⟨w.heap.size, 0, none⟩ = some (.int .i64 gr) := (blk_cell hx0 0).trans rfl
  have y1 : wx.cell? ⟨w.heap.size, 1, none⟩ = some (.int .i64 i) := (blk_cell hx0 1).trans rfl
  have y2 : wx.cell? ⟨w.heap.size, 2, none⟩ = some (.int .i64 d) := (blk_cell hx0 2).trans rfl
  have Y0 := Lib.hid y0
  have Y1 := Lib.hid y1
  have Y2 := Lib.hid y2
  clear hC hg1 hg2 hg3 hn hp hq f1 f2 f3 f4 f5 f6 hx0 y0 y1 y2
  go_enter Try.func5, Try.ntmps5
  go_wp2_with (first | (go_at_call 7; refine (alive_calls _).mono ?_; rintro e w1 ⟨rfl, hb⟩; have HB1 := Lib.hid hb; have z0 := pw_cell_below hb Y0.out; have z1 := pw_cell_below hb Y1.out; have z2 := pw_cell_below hb Y2.out; clear hb) | (go_at_call 12; refine (lockgateref1_Good.calls gr i d _ _ HGD.out).mono ?_; rintro e w2 ⟨rfl, hb⟩; have HB2 := Lib.hid (HB1.out.trans (hb.mono HB1.out.size)); have z0 := pw_cell_below HB2.out Y0.out; have z1 := pw_cell_below HB2.out Y1.out; have z2 := pw_cell_below HB2.out Y2.out; clear hb) | (go_at_call 8; refine (newA gr i d _).mono ?_; rintro e w3 ⟨g, rfl, hA, hb⟩; rw [HG1.out, HG2.out, HG3.out] at hA; have HST : Hid (BkL wx w2.heap.size g gr i d n p q (List.replicate (n * p) false) w3) := Lib.hid ⟨⟨_, hA⟩, HB2.out.trans (hb.mono HB2.out.size), HB2.out.size, hb.size⟩; have z0 := pw_cell_below HST.out.2.1 Y0.out; have z1 := pw_cell_below HST.out.2.1 Y1.out; have z2 := pw_cell_below HST.out.2.1 Y2.out; clear hb hA))
  go_loopw [8] (fun iv wr => ∃ k : Nat, k ≤ n * p ∧ iv = .int .i64 (k : Int) ∧ Hid (∃ li, RotS li (n * p) (0 * p) k ∧ BkL wx w2.heap.size g gr i d n p q li wr)) (fun iv _ => n * p - (intOf iv).toNat)
  case atStart => exact ⟨0, Nat.zero_le _, rfl, Lib.hid ⟨_, RotS.new _ _, HST.out⟩⟩
  case round =>
    clear HST z0 z1 z2
    obtain ⟨k, hk, rfl, HG⟩ := hrel
    obtain ⟨li, hli, hbk⟩ := HG.out
    have z0 := pw_cell_below hbk.2.1 Y0.out
    have z1 := pw_cell_below hbk.2.1 Y1.out
    have z2 := pw_cell_below hbk.2.1 Y2.out
    have HBK := Lib.hid hbk
    have HLI := Lib.hid hli
    clear hbk hli HG
    by_cases hlt : k < n * p
    · obtain ⟨hnx, hli'⟩ := HLI.out.next (f0 := 0) (by omega) (by omega) hlt
      have HNX := Lib.hid hnx
      have HLI2 := Lib.hid hli'
      have hki : (k : Int) < ((n * p : Nat) : Int) := by omega
      clear hnx hli'
      go_wp2_with (first | (go_at_call 13; refine (lockgateref1_Inodes.calls gr i d _ _ HIN.out).mono ?_; rintro e w4 ⟨rfl, hb⟩; have HBK4 := Lib.hid (HBK.out.below hb); clear hb) | (go_at_call 9; obtain ⟨ld, hA⟩ := HBK4.out.1; refine (inodeA 0 hA (fun j hj => hj.2) HBK4.out.2.2.2).mono ?_; rintro e w5 ⟨rfl, hA5, ho⟩; rw [show nextA li p n 0 = _ from HNX.out] at hA5 ⊢; have HBK5 := Lib.hid (HBK4.out.next hA5 ho); clear hA5 ho hA))
      go_roundw
      case rel => exact ⟨k + 1, by omega, by go_num, Lib.hid ⟨_, HLI2.out, HBK5.out⟩⟩
      case measure => simp [intOf]; omega
    · obtain rfl : k = n * p := by omega
      have hki : ¬ ((n * p : Nat) : Int) < ((n * p : Nat) : Int) := by omega
      have hst0 : MarkS li (n * p) l 0 := MarkS.start l (by have := HLI.out; rwa [Nat.zero_mul] at this) hnp0
      have hall : ∀ m, m < n * p → li.getD m false = true := fun m hm => by rw [hst0.2 m hm]; simp
      have hnx0 : nextA li p n 0 = none := (nextA_none_iff HLI.out.1).2 hall
      have hfr0 : freeN li = 0 := by
        unfold freeN
        rw [List.countP_eq_zero]
        intro b hb
        obtain ⟨m, hm, rfl⟩ := List.getElem_of_mem hb
        have := hall m (by rw [← HLI.out.1]; exact hm)
        rw [List.getD_eq_getElem?_getD, List.getElem?_eq_getElem hm] at this
        simpa using this
      have HST0 := Lib.hid hst0
      have HNX0 := Lib.hid hnx0
      have HFR0 := Lib.hid hfr0
      clear hst0 hall hnx0 hfr0
      go_wp2_with (first | (go_at_call 13; refine (lockgateref1_Inodes.calls gr i d _ _ HIN.out).mono ?_; rintro e w4 ⟨rfl, hb⟩; have HBK4 := Lib.hid (HBK.out.below hb); clear hb))
      clear z0 z1 z2 HBK HLI
      go_loopw [9, 10, 11] (fun x y iv wr => ∃ (k : Nat) (li : List Bool), k ≤ l.length ∧ iv = .int .i64 (k : Int) ∧ x = .int .i64 (optI (nextA li p n 0)) ∧ y = .int .i64 ((freeN li : Nat) : Int) ∧ Hid (MarkS li (n * p) l k ∧ BkL wx w2.heap.size g gr i d n p q li wr)) (fun _ _ iv _ => l.length - (intOf iv).toNat)
      case atStart => exact ⟨0, li, Nat.zero_le _, rfl, by rw [HNX0.out]; rfl, by rw [HFR0.out]; rfl, Lib.hid ⟨HST0.out, HBK4.out⟩⟩
      case round =>
        clear HST0 HNX0 HFR0 HBK4 hki hlt hk
        rename_i li0 wq0 wq
        clear li0
        obtain ⟨k, li, hk, rfl, rfl, rfl, HG⟩ := hrel
        obtain ⟨hmk, hbk⟩ := HG.out
        have z0 := pw_cell_below hbk.2.1 Y0.out
        have z1 := pw_cell_below hbk.2.1 Y1.out
        have z2 := pw_cell_below hbk.2.1 Y2.out
        obtain ⟨ld, hA⟩ := hbk.1
        have HA := Lib.hid hA
        have HBK := Lib.hid hbk
        have HMK := Lib.hid hmk
        have hlin := hmk.1
        have HLN := Lib.hid hlin
        have hfle : freeN li ≤ n * p := by rw [← hlin]; exact freeN_le li
        clear hbk hmk HG hA hlin
        by_cases hlt : k < l.length
        · have hki : (k : Int) < (l.length : Int) := by omega
          have hk0 : (0 : Int) ≤ (k : Int) := by omega
          obtain ⟨m1, m2, m3, m4⟩ := mark_step (gr := gr) (i := i) (d := d) (ld := ld) HMK.out
          obtain ⟨ad, hAd, hcell⟩ := C_int HC.out (by omega)
          subst hAd
          have HCL : Hid (∀ W, Below wx.heap.size wx W → ∀ j, j < l.length → W.cell? (ad.add j) = some (.int .i64 (l.getD j 0))) := Lib.hid (fun W hW j hj => pw_cell_below ((HXW.out.trans (hW.mono HXW.out.size))) (hcell j hj))
          obtain ⟨b, hb⟩ : ∃ b, l.getD k 0 = b := ⟨_, rfl⟩
          have hbk := HCL.out _ HBK.out.2.1 k hlt
          rw [hb] at m1 m2 m3 m4 hbk
          have hisb : isB n p l k = (decide (1 ≤ b ∧ b ≤ ((n * p : Nat) : Int)) && decide (∀ j, j < k → l.getD j 0 ≠ b)) := by unfold isB; rw [hb]
          have HISB := Lib.hid hisb
          have HB := Lib.hid hb
          have M1 := Lib.hid m1
          have M2 := Lib.hid m2
          have M3 := Lib.hid m3
          have M4 := Lib.hid m4
          clear hcell hb m1 m2 m3 m4 hisb
          cases hisv : isB n p l k with
          | true =>
            obtain ⟨m, hm, hbm, hmt, hnI⟩ := M3.out hisv
            have hM1 : maySet gr i d n p li ld b 0 false = true := by rw [M1.out, hisv, Bool.true_or]
            have hb1 : 1 ≤ b := by omega
            have hbN : b ≤ ((n * p : Nat) : Int) := by omega
            have tb : decide (b ≥ 1) = true := decide_eq_true hb1
            have tb' : decide (1 ≤ b) = true := decide_eq_true hb1
            have tN : decide (b ≤ ((n * p : Nat) : Int)) = true := decide_eq_true hbN
            have hli' : (if maySet gr i d n p li ld b 0 false = true then newI n p li b false else li) = li.set m false := by rw [hM1, if_pos rfl, hnI]
            have hx' := next0_set (p := p) (n := n) HLN.out hm hmt
            have hy' : freeN (li.set m false) = freeN li + 1 := freeN_set (by rw [HLN.out]; exact hm) hmt
            have HX' := Lib.hid hx'
            have HY' := Lib.hid hy'
            obtain ⟨lj, hlj⟩ : ∃ lj, li.set m false = lj := ⟨_, rfl⟩
            rw [hlj] at hli'
            have HLJ := Lib.hid hlj
            have HBM := Lib.hid hbm
            clear hx' hy' hlj hbm hmt hnI
            have hmk' := M2.out
            rw [hli'] at hmk'
            have HMK' := Lib.hid hmk'
            have HLI' := Lib.hid hli'
            have HM1 := Lib.hid hM1
            clear hmk' hli' hM1 M1 M2 M3 M4
            go_wp2_with (first | (go_at_call 17; refine (giveA b 0 HA.out (fun j hj => hj.2) HBK.out.2.2.2).mono ?_; rintro e w5 hs; have he := hs.1; rw [HM1.out] at he; subst he; have hA5 := hs.2.1; rw [HLI'.out] at hA5; have HBK5 := Lib.hid (HBK.out.next hA5 hs.2.2); clear hs hA5))
            refine start_ (n := 15) (S := fun w' => w'.cell? (ad.add k) = some (.int .i64 b) ∧ w'.cell? ⟨w.heap.size, 0, none⟩ = some (.int .i64 gr) ∧ w'.cell? ⟨w.heap.size, 1, none⟩ = some (.int .i64 i) ∧ w'.cell? ⟨w.heap.size, 2, none⟩ = some (.int .i64 d)) (ds := []) #[false, false, false, false, false, false, false, false, false, false, false, false, false, false, false] (by kernel_rfl) rfl rfl ⟨by have := HCL.out _ HBK5.out.2.1 k hlt; rw [HB.out] at this; exact this, pw_cell_below HBK5.out.2.1 Y0.out, pw_cell_below HBK5.out.2.1 Y1.out, pw_cell_below HBK5.out.2.1 Y2.out⟩ (fun hHeld => ?_)
            refine pure_ (i := 0) (N := some 56) (v := ?_) (a' := ?_) (bm 15 1) rfl rfl (by kernel_rfl) (fun _ _ _ h => h) (Or.inl ⟨by rfl, ?_⟩) ?_ ?_
            rotate_left
            · intro w'
              go_simp
              with_reducible rfl
            rotate_left
            · simp only [Act.put, List.setIfInBounds_toArray, List.set_cons_zero, List.set_cons_succ, i64_w, i32_w]
              rfl
            refine pure_ (i := 1) (N := some 57) (v := ?_) (a' := ?_) (bm 15 3) rfl rfl (by kernel_rfl) (fun _ _ _ h => h) (Or.inl ⟨by rfl, ?_⟩) ?_ ?_
            rotate_left
            · intro w'
              go_simp
              with_reducible rfl
            rotate_left
            · simp only [Act.put, List.setIfInBounds_toArray, List.set_cons_zero, List.set_cons_succ, i64_w, i32_w]
              rfl
            refine pure_ (i := 2) (N := some 58) (v := ?_) (a' := ?_) (bm 15 7) rfl rfl (by kernel_rfl) (fun _ _ _ h => h) (Or.inl ⟨by rfl, ?_⟩) ?_ ?_
            rotate_left
            · intro w'
              go_simp
              with_reducible rfl
            rotate_left
            · simp only [Act.put, List.setIfInBounds_toArray, List.set_cons_zero, List.set_cons_succ, i64_w, i32_w]
              rfl
            refine take_ (i := 3) (N := some 59) (v := ?_) (a' := ?_) (bm 15 15) rfl rfl (by kernel_rfl) (fun _ _ _ h => h) (Or.inl ⟨by rfl, ?_⟩) hHeld ?_ ?_
            rotate_left
            · rintro w' ⟨s0, s1, s2, s3⟩
              go_simp
              with_reducible rfl
            rotate_left
            · simp only [Act.put, List.setIfInBounds_toArray, List.set_cons_zero, List.set_cons_succ, i64_w, i32_w]
              rfl
            refine pure_ (i := 4) (N := some 60) (v := ?_) (a' := ?_) (bm 15 31) rfl rfl (by kernel_rfl) (fun _ _ _ h => h) (Or.inl ⟨by rfl, ?_⟩) ?_ ?_
            rotate_left
            · intro w'
              go_simp
              with_reducible rfl
            rotate_left
            · simp only [Act.put, List.setIfInBounds_toArray, List.set_cons_zero, List.set_cons_succ, i64_w, i32_w]
              rfl
            refine pure_ (i := 5) (N := some 61) (v := ?_) (a' := ?_) (bm 15 63) rfl rfl (by kernel_rfl) (fun _ _ _ h => h) (Or.inl ⟨by rfl, ?_⟩) ?_ ?_
            rotate_left
            · intro w'
              go_simp
              with_reducible rfl
            rotate_left
            · simp only [Act.put, List.setIfInBounds_toArray, List.set_cons_zero, List.set_cons_succ, i64_w, i32_w]
              rfl
            refine pure_ (i := 6) (N := some 62) (v := ?_) (a' := ?_) (bm 15 127) rfl rfl (by kernel_rfl) (fun _ _ _ h => h) (Or.inl ⟨by rfl, ?_⟩) ?_ ?_
            rotate_left
            · intro w'
              go_simp
              with_reducible rfl
            rotate_left
            · simp only [Act.put, List.setIfInBounds_toArray, List.set_cons_zero, List.set_cons_succ, i64_w, i32_w]
              rfl
            refine pure_ (i := 7) (N := some 63) (v := ?_) (a' := ?_) (bm 15 255) rfl rfl (by kernel_rfl) (fun _ _ _ h => h) (Or.inl ⟨by rfl, ?_⟩) ?_ ?_
            rotate_left
            · intro w'
              go_simp
              with_reducible rfl
            rotate_left
            · simp only [Act.put, List.setIfInBounds_toArray, List.set_cons_zero, List.set_cons_succ, i64_w, i32_w]
              rfl
            refine pure_ (i := 8) (N := some 64) (v := ?_) (a' := ?_) (bm 15 511) rfl rfl (by kernel_rfl) (fun _ _ _ h => h) (Or.inl ⟨by rfl, ?_⟩) ?_ ?_
            rotate_left
            · intro w'
              go_simp
              with_reducible rfl
            rotate_left
            · simp only [Act.put, List.setIfInBounds_toArray, List.set_cons_zero, List.set_cons_succ, i64_w, i32_w]
              rfl
            refine take_ (i := 9) (N := some 65) (v := ?_) (a' := ?_) (bm 15 1023) rfl rfl (by kernel_rfl) (fun _ _ _ h => h) (Or.inl ⟨by rfl, ?_⟩) hHeld ?_ ?_
            rotate_left
            · rintro w' ⟨s0, s1, s2, s3⟩
              go_simp
              with_reducible rfl
            rotate_left
            · simp only [Act.put, List.setIfInBounds_toArray, List.set_cons_zero, List.set_cons_succ, i64_w, i32_w]
              rfl
            refine take_ (i := 10) (N := some 66) (v := ?_) (a' := ?_) (bm 15 2047) rfl rfl (by kernel_rfl) (fun _ _ _ h => h) (Or.inl ⟨by rfl, ?_⟩) hHeld ?_ ?_
            rotate_left
            · rintro w' ⟨s0, s1, s2, s3⟩
              go_simp
              with_reducible rfl
            rotate_left
            · simp only [Act.put, List.setIfInBounds_toArray, List.set_cons_zero, List.set_cons_succ, i64_w, i32_w]
              rfl
            refine one_ (i := 11) (N := some 67) (bm 15 4095) rfl rfl (by kernel_rfl) (by decide) (fun K hK => ?_)
            refine goes_ Try.func13 (by kernel_rfl) rfl #[.agg #[.int .i64 gr, .int .i64 i, .int .i64 d]] (by rfl) rfl rfl (by (try simp only [List.map_toArray, List.map_cons, List.map_nil]); first | done | rfl) ?_
            refine (lockgateref1_Inodes.calls gr i d _ _ HIN.out).mono ?_
            rintro e w6 ⟨rfl, hb6⟩
            have HB6 : Hid (Below w5.heap.size w5 w6) := Lib.hid ((below_drew (Below.refl _ w5)).trans hb6)
            have hS6 := And.intro (pw_cell_below hb6 hHeld.1) (And.intro (pw_cell_below hb6 hHeld.2.1) (And.intro (pw_cell_below hb6 hHeld.2.2.1) (pw_cell_below hb6 hHeld.2.2.2)))
            clear hb6
            refine ⟨_, rfl, hK.out _ _ hS6 (fun hHeld => ?_)⟩
            clear hK K
            refine norm_ (a' := ?_) ?_ ?_
            rotate_left
            · show Act.put _ (some 67) _ = _
              simp only [Act.put, List.setIfInBounds_toArray, List.set_cons_zero, List.set_cons_succ, i64_w, i32_w]
              rfl
            refine pure_ (i := 12) (N := some 68) (v := ?_) (a' := ?_) (bm 15 8191) rfl rfl (by kernel_rfl) (fun _ _ _ h => h) (Or.inl ⟨by rfl, ?_⟩) ?_ ?_
            rotate_left
            · intro w'
              go_simp
              with_reducible rfl
            rotate_left
            · simp only [Act.put, List.setIfInBounds_toArray, List.set_cons_zero, List.set_cons_succ, i64_w, i32_w]
              rfl
            refine pure_ (i := 13) (N := some 69) (v := ?_) (a' := ?_) (bm 15 16383) rfl rfl (by kernel_rfl) (fun _ _ _ h => h) (Or.inl ⟨by rfl, ?_⟩) ?_ ?_
            rotate_left
            · intro w'
              go_simp
              with_reducible rfl
            rotate_left
            · simp only [Act.put, List.setIfInBounds_toArray, List.set_cons_zero, List.set_cons_succ, i64_w, i32_w]
              rfl
            refine pure_ (i := 14) (N := some 13) (v := ?_) (a' := ?_) (bm 15 32767) rfl rfl (by kernel_rfl) (fun _ _ _ h => h) (Or.inl ⟨by rfl, ?_⟩) ?_ ?_
            rotate_left
            · intro w'
              go_simp
              with_reducible rfl
            rotate_left
            · simp only [Act.put, List.setIfInBounds_toArray, List.set_cons_zero, List.set_cons_succ, i64_w, i32_w]
              rfl
            refine done_ (by kernel_rfl) ?_
            clear hHeld hS6
            go_wp2
            clear z0 z1 z2
            go_loopw [13, 14] (fun s jv wq => ∃ j : Nat, j ≤ k ∧ jv = .int .i64 (j : Int) ∧ s = .bool (true && decide (∀ j', j' < j → l.getD j' 0 ≠ b)) ∧ Hid (Below w5.heap.size w5 wq)) (fun _ jv _ => k - (intOf jv).toNat)
            case atStart => exact ⟨0, Nat.zero_le _, rfl, by simp; simpa using hbN, HB6⟩
            case round =>
              obtain ⟨j, hj, rfl, rfl, HV⟩ := hrel
              by_cases hjk : j < k
              · have hji : (j : Int) < (k : Int) := by omega
                have hjl : (j : Int) < (l.length : Int) := by omega
                have hj0 : (0 : Int) ≤ (j : Int) := by omega
                have hstep := decide_lt_succ (P := fun j' => l.getD j' 0 ≠ b) j
                have HSTEP := Lib.hid hstep
                clear hstep
                obtain ⟨s, hs⟩ : ∃ s : Bool, (true && decide (∀ j', j' < j → l.getD j' 0 ≠ b)) = s := ⟨_, rfl⟩
                have HS := Lib.hid hs
                rw [hs]
                clear hs
                cases s with
                | false =>
                  go_wp2
                  refine start_ (n := 13) (S := fun _ => True) (ds := []) #[false, false, false, false, false, false, false, false, false, false, false, false, false] (by kernel_rfl) rfl rfl trivial (fun hHeld => ?_)
                  refine pure_ (i := 0) (N := some 75) (v := ?_) (a' := ?_) (bm 13 1) rfl rfl (by kernel_rfl) (fun _ _ _ h => h) (Or.inl ⟨by rfl, ?_⟩) ?_ ?_
                  rotate_left
                  · intro w'
                    go_simp
                    with_reducible rfl
                  rotate_left
                  · simp only [Act.put, List.setIfInBounds_toArray, List.set_cons_zero, List.set_cons_succ, i64_w, i32_w]
                    rfl
                  refine pure_ (i := 1) (N := some 76) (v := ?_) (a' := ?_) (bm 13 3) rfl rfl (by kernel_rfl) (fun _ _ _ h => h) (Or.inl ⟨by rfl, ?_⟩) ?_ ?_
                  rotate_left
                  · intro w'
                    go_simp
                    with_reducible rfl
                  rotate_left
                  · simp only [Act.put, List.setIfInBounds_toArray, List.set_cons_zero, List.set_cons_succ, i64_w, i32_w]
                    rfl
                  refine pure_ (i := 2) (N := some 77) (v := undef) (a' := ?_) (bm 13 7) rfl rfl (by kernel_rfl) (fun _ _ _ h => h) (Or.inr ⟨by rfl, rfl⟩) ?_ ?_
                  rotate_left
                  · simp only [Act.put, List.setIfInBounds_toArray, List.set_cons_zero, List.set_cons_succ, i64_w, i32_w]
                    rfl
                  refine pure_ (i := 3) (N := some 78) (v := undef) (a' := ?_) (bm 13 15) rfl rfl (by kernel_rfl) (fun _ _ _ h => h) (Or.inr ⟨by rfl, rfl⟩) ?_ ?_
                  rotate_left
                  · simp only [Act.put, List.setIfInBounds_toArray, List.set_cons_zero, List.set_cons_succ, i64_w, i32_w]
                    rfl
                  refine pure_ (i := 4) (N := some 79) (v := undef) (a' := ?_) (bm 13 31) rfl rfl (by kernel_rfl) (fun _ _ _ h => h) (Or.inr ⟨by rfl, rfl⟩) ?_ ?_
                  rotate_left
                  · simp only [Act.put, List.setIfInBounds_toArray, List.set_cons_zero, List.set_cons_succ, i64_w, i32_w]
                    rfl
                  refine pure_ (i := 5) (N := some 80) (v := undef) (a' := ?_) (bm 13 63) rfl rfl (by kernel_rfl) (fun _ _ _ h => h) (Or.inr ⟨by rfl, rfl⟩) ?_ ?_
                  rotate_left
                  · simp only [Act.put, List.setIfInBounds_toArray, List.set_cons_zero, List.set_cons_succ, i64_w, i32_w]
                    rfl
                  refine pure_ (i := 6) (N := some 81) (v := undef) (a' := ?_) (bm 13 127) rfl rfl (by kernel_rfl) (fun _ _ _ h => h) (Or.inr ⟨by rfl, rfl⟩) ?_ ?_
                  rotate_left
                  · simp only [Act.put, List.setIfInBounds_toArray, List.set_cons_zero, List.set_cons_succ, i64_w, i32_w]
                    rfl
                  refine pure_ (i := 7) (N := some 82) (v := undef) (a' := ?_) (bm 13 255) rfl rfl (by kernel_rfl) (fun _ _ _ h => h) (Or.inr ⟨by rfl, rfl⟩) ?_ ?_
                  rotate_left
                  · simp only [Act.put, List.setIfInBounds_toArray, List.set_cons_zero, List.set_cons_succ, i64_w, i32_w]
                    rfl
                  refine pure_ (i := 8) (N := some 83) (v := undef) (a' := ?_) (bm 13 511) rfl rfl (by kernel_rfl) (fun _ _ _ h => h) (Or.inr ⟨by rfl, rfl⟩) ?_ ?_
                  rotate_left
                  · simp only [Act.put, List.setIfInBounds_toArray, List.set_cons_zero, List.set_cons_succ, i64_w, i32_w]
                    rfl
                  refine pure_ (i := 9) (N := some 84) (v := undef) (a' := ?_) (bm 13 1023) rfl rfl (by kernel_rfl) (fun _ _ _ h => h) (Or.inr ⟨by rfl, rfl⟩) ?_ ?_
                  rotate_left
                  · simp only [Act.put, List.setIfInBounds_toArray, List.set_cons_zero, List.set_cons_succ, i64_w, i32_w]
                    rfl
                  refine pure_ (i := 10) (N := some 85) (v := undef) (a' := ?_) (bm 13 2047) rfl rfl (by kernel_rfl) (fun _ _ _ h => h) (Or.inr ⟨by rfl, rfl⟩) ?_ ?_
                  rotate_left
                  · simp only [Act.put, List.setIfInBounds_toArray, List.set_cons_zero, List.set_cons_succ, i64_w, i32_w]
                    rfl
                  refine pure_ (i := 11) (N := some 86) (v := ?_) (a' := ?_) (bm 13 4095) rfl rfl (by kernel_rfl) (fun _ _ _ h => h) (Or.inl ⟨by rfl, ?_⟩) ?_ ?_
                  rotate_left
                  · intro w'
                    go_simp
                    with_reducible rfl
                  rotate_left
                  · simp only [Act.put, List.setIfInBounds_toArray, List.set_cons_zero, List.set_cons_succ, i64_w, i32_w]
                    rfl
                  refine pure_ (i := 12) (N := some 13) (v := ?_) (a' := ?_) (bm 13 8191) rfl rfl (by kernel_rfl) (fun _ _ _ h => h) (Or.inl ⟨by rfl, ?_⟩) ?_ ?_
                  rotate_left
                  · intro w'
                    go_simp
                    with_reducible rfl
                  rotate_left
                  · simp only [Act.put, List.setIfInBounds_toArray, List.set_cons_zero, List.set_cons_succ, i64_w, i32_w]
                    rfl
                  refine done_ (by kernel_rfl) ?_
                  clear hHeld
                  go_wp2
                  go_roundw
                  case rel => exact ⟨j + 1, by omega, by go_num, by rw [HSTEP.out, ← Bool.and_assoc, HS.out]; rfl, Lib.hid (below_drew HV.out)⟩
                  case measure => simp [intOf]; omega
                | true =>
                  go_wp2
                  refine start_ (n := 13) (S := fun w' => w'.cell? (ad.add j) = some (.int .i64 (l.getD j 0)) ∧ w'.cell? (ad.add k) = some (.int .i64 b)) (ds := []) #[false, false, false, false, false, false, false, false, false, false, false, false, false] (by kernel_rfl) rfl rfl ⟨HCL.out wr (HBK5.out.2.1.trans (HV.out.mono HBK5.out.2.1.size)) j (by omega), by have := HCL.out wr (HBK5.out.2.1.trans (HV.out.mono HBK5.out.2.1.size)) k hlt; rw [HB.out] at this; exact this⟩ (fun hHeld => ?_)
                  refine pure_ (i := 0) (N := some 75) (v := ?_) (a' := ?_) (bm 13 1) rfl rfl (by kernel_rfl) (fun _ _ _ h => h) (Or.inl ⟨by rfl, ?_⟩) ?_ ?_
                  rotate_left
                  · intro w'
                    go_simp
                    with_reducible rfl
                  rotate_left
                  · simp only [Act.put, List.setIfInBounds_toArray, List.set_cons_zero, List.set_cons_succ, i64_w, i32_w]
                    rfl
                  refine pure_ (i := 1) (N := some 76) (v := ?_) (a' := ?_) (bm 13 3) rfl rfl (by kernel_rfl) (fun _ _ _ h => h) (Or.inl ⟨by rfl, ?_⟩) ?_ ?_
                  rotate_left
                  · intro w'
                    go_simp
                    with_reducible rfl
                  rotate_left
                  · simp only [Act.put, List.setIfInBounds_toArray, List.set_cons_zero, List.set_cons_succ, i64_w, i32_w]
                    rfl
                  refine pure_ (i := 2) (N := some 77) (v := ?_) (a' := ?_) (bm 13 7) rfl rfl (by kernel_rfl) (fun _ _ _ h => h) (Or.inl ⟨by rfl, ?_⟩) ?_ ?_
                  rotate_left
                  · intro w'
                    go_simp
                    with_reducible rfl
                  rotate_left
                  · simp only [Act.put, List.setIfInBounds_toArray, List.set_cons_zero, List.set_cons_succ, i64_w, i32_w]
                    rfl
                  refine pure_ (i := 3) (N := some 78) (v := ?_) (a' := ?_) (bm 13 15) rfl rfl (by kernel_rfl) (fun _ _ _ h => h) (Or.inl ⟨by rfl, ?_⟩) ?_ ?_
                  rotate_left
                  · intro w'
                    go_simp
                    with_reducible rfl
                  rotate_left
                  · simp only [Act.put, List.setIfInBounds_toArray, List.set_cons_zero, List.set_cons_succ, i64_w, i32_w]
                    rfl
                  refine pure_ (i := 4) (N := some 79) (v := ?_) (a' := ?_) (bm 13 31) rfl rfl (by kernel_rfl) (fun _ _ _ h => h) (Or.inl ⟨by rfl, ?_⟩) ?_ ?_
                  rotate_left
                  · intro w'
                    go_simp
                    with_reducible rfl
                  rotate_left
                  · simp only [Act.put, List.setIfInBounds_toArray, List.set_cons_zero, List.set_cons_succ, i64_w, i32_w]
                    rfl
                  refine take_ (i := 5) (N := some 80) (v := ?_) (a' := ?_) (bm 13 63) rfl rfl (by kernel_rfl) (fun _ _ _ h => h) (Or.inl ⟨by rfl, ?_⟩) hHeld ?_ ?_
                  rotate_left
                  · rintro w' ⟨s0, s1⟩
                    go_simp
                    with_reducible rfl
                  rotate_left
                  · simp only [Act.put, List.setIfInBounds_toArray, List.set_cons_zero, List.set_cons_succ, i64_w, i32_w]
                    rfl
                  refine pure_ (i := 6) (N := some 81) (v := ?_) (a' := ?_) (bm 13 127) rfl rfl (by kernel_rfl) (fun _ _ _ h => h) (Or.inl ⟨by rfl, ?_⟩) ?_ ?_
                  rotate_left
                  · intro w'
                    go_simp
                    with_reducible rfl
                  rotate_left
                  · simp only [Act.put, List.setIfInBounds_toArray, List.set_cons_zero, List.set_cons_succ, i64_w, i32_w]
                    rfl
                  refine pure_ (i := 7) (N := some 82) (v := ?_) (a' := ?_) (bm 13 255) rfl rfl (by kernel_rfl) (fun _ _ _ h => h) (Or.inl ⟨by rfl, ?_⟩) ?_ ?_
                  rotate_left
                  · intro w'
                    go_simp
                    with_reducible rfl
                  rotate_left
                  · simp only [Act.put, List.setIfInBounds_toArray, List.set_cons_zero, List.set_cons_succ, i64_w, i32_w]
                    rfl
                  refine pure_ (i := 8) (N := some 83) (v := ?_) (a' := ?_) (bm 13 511) rfl rfl (by kernel_rfl) (fun _ _ _ h => h) (Or.inl ⟨by rfl, ?_⟩) ?_ ?_
                  rotate_left
                  · intro w'
                    go_simp
                    with_reducible rfl
                  rotate_left
                  · simp only [Act.put, List.setIfInBounds_toArray, List.set_cons_zero, List.set_cons_succ, i64_w, i32_w]
                    rfl
                  refine take_ (i := 9) (N := some 84) (v := ?_) (a' := ?_) (bm 13 1023) rfl rfl (by kernel_rfl) (fun _ _ _ h => h) (Or.inl ⟨by rfl, ?_⟩) hHeld ?_ ?_
                  rotate_left
                  · rintro w' ⟨s0, s1⟩
                    go_simp
                    with_reducible rfl
                  rotate_left
                  · simp only [Act.put, List.setIfInBounds_toArray, List.set_cons_zero, List.set_cons_succ, i64_w, i32_w]
                    rfl
                  refine pure_ (i := 10) (N := some 85) (v := ?_) (a' := ?_) (bm 13 2047) rfl rfl (by kernel_rfl) (fun _ _ _ h => h) (Or.inl ⟨by rfl, ?_⟩) ?_ ?_
                  rotate_left
                  · intro w'
                    go_simp
                    with_reducible rfl
                  rotate_left
                  · simp only [Act.put, List.setIfInBounds_toArray, List.set_cons_zero, List.set_cons_succ, i64_w, i32_w]
                    rfl
                  refine pure_ (i := 11) (N := some 86) (v := ?_) (a' := ?_) (bm 13 4095) rfl rfl (by kernel_rfl) (fun _ _ _ h => h) (Or.inl ⟨by rfl, ?_⟩) ?_ ?_
                  rotate_left
                  · intro w'
                    go_simp
                    with_reducible rfl
                  rotate_left
                  · simp only [Act.put, List.setIfInBounds_toArray, List.set_cons_zero, List.set_cons_succ, i64_w, i32_w]
                    rfl
                  refine pure_ (i := 12) (N := some 13) (v := ?_) (a' := ?_) (bm 13 8191) rfl rfl (by kernel_rfl) (fun _ _ _ h => h) (Or.inl ⟨by rfl, ?_⟩) ?_ ?_
                  rotate_left
                  · intro w'
                    go_simp
                    with_reducible rfl
                  rotate_left
                  · simp only [Act.put, List.setIfInBounds_toArray, List.set_cons_zero, List.set_cons_succ, i64_w, i32_w]
                    rfl
                  refine done_ (by kernel_rfl) ?_
                  clear hHeld
                  go_wp2
                  go_roundw
                  case rel => exact ⟨j + 1, by omega, by go_num, by rw [HSTEP.out, ← Bool.and_assoc, HS.out, Bool.true_and, ← bne_dec]; simp only [List.getD_eq_getElem?_getD], Lib.hid (below_drew HV.out)⟩
                  case measure => simp [intOf]; omega
              · obtain rfl : j = k := by omega
                have hji : ¬ (j : Int) < (j : Int) := by omega
                have hsv : (true && decide (∀ j', j' < j → l.getD j' 0 ≠ b)) = true := by have h := HISB.out; rw [hisv] at h; have h2 := h.symm; rw [Bool.and_eq_true] at h2; rw [h2.2]; rfl
                rw [hsv]
                clear hsv
                have hwv := HCL.out wr (HBK5.out.2.1.trans (HV.out.mono HBK5.out.2.1.size)) j hlt
                rw [HB.out] at hwv
                have HBK6 := Lib.hid (HBK5.out.below HV.out)
                obtain ⟨L, hL⟩ : ∃ L, optI (nextA li p n 0) = L := ⟨_, rfl⟩
                have hx'' := HX'.out
                rw [hL, ← HBM.out, HLJ.out] at hx''
                rw [hL]
                obtain ⟨Fn, hFn⟩ : ∃ F, freeN li = F := ⟨_, rfl⟩
                have hy'' := HY'.out
                rw [hFn, HLJ.out] at hy''
                rw [hFn] at hfle ⊢
                have HX2 := Lib.hid hx''
                have HY2 := Lib.hid hy''
                clear hx'' hy'' hL hFn
                by_cases hl0 : L = 0
                · have HL0 := Lib.hid hl0
                  have tl : (L == 0) = true := by simpa using hl0
                  clear hl0
                  go_wp2
                  go_roundw
                  case rel => exact ⟨j + 1, lj, by omega, by go_num, by rw [HX2.out, if_pos (.inl HL0.out)], by rw [HY2.out]; go_num, Lib.hid ⟨HMK'.out, HBK6.out⟩⟩
                  case measure => simp [intOf]; omega
                · have tl : (L == 0) = false := by simpa using hl0
                  by_cases hbl : b < L
                  · have tl2 : decide (b < L) = true := decide_eq_true hbl
                    go_wp2
                    go_roundw
                    case rel => exact ⟨j + 1, lj, by omega, by go_num, by rw [HX2.out, if_pos (.inr hbl)], by rw [HY2.out]; go_num, Lib.hid ⟨HMK'.out, HBK6.out⟩⟩
                    case measure => simp [intOf]; omega
                  · have tl2 : decide (b < L) = false := decide_eq_false hbl
                    go_wp2
                    go_roundw
                    case rel => exact ⟨j + 1, lj, by omega, by go_num, by rw [HX2.out, if_neg (by rintro (h | h); exact hl0 h; exact hbl h)], by rw [HY2.out]; go_num, Lib.hid ⟨HMK'.out, HBK6.out⟩⟩
                    case measure => simp [intOf]; omega
          | false =>
            by_cases hbv : b = 0
            · have hb0 : b = 0 := hbv
              have hM1 : maySet gr i d n p li ld b 0 false = true := by rw [M1.out, hisv, decide_eq_true hb0]; rfl
              have hli' : (if maySet gr i d n p li ld b 0 false = true then newI n p li b false else li) = li := by rw [hM1]; rw [if_pos rfl]; exact M4.out hisv hb0
              have tb : decide (b ≥ 1) = false := decide_eq_false (by omega)
              have tb' : decide (1 ≤ b) = false := decide_eq_false (by omega)
              have TN0 : Hid ((b == 0) = true) := Lib.hid (by simpa using hb0)
              clear hb0 hbv
              obtain ⟨lj, HLJ⟩ : ∃ lj, Hid (li = lj) := ⟨_, Lib.hid rfl⟩
              have hli2 : (if maySet gr i d n p li ld b 0 false = true then newI n p li b false else li) = lj := hli'.trans HLJ.out
              clear hli'
              have hli' := hli2
              clear hli2
              have hmk' := M2.out
              rw [hli'] at hmk'
              have HMK' := Lib.hid hmk'
              have HLI' := Lib.hid hli'
              have HM1 := Lib.hid hM1
              clear hmk' hli' hM1 M1 M2 M3 M4
              go_wp2_with (first | (go_at_call 17; refine (giveA b 0 HA.out (fun j hj => hj.2) HBK.out.2.2.2).mono ?_; rintro e w5 hs; have he := hs.1; rw [HM1.out] at he; subst he; have hA5 := hs.2.1; rw [HLI'.out] at hA5; have HBK5 := Lib.hid (HBK.out.next hA5 hs.2.2); clear hs hA5))
              refine start_ (n := 15) (S := fun w' => w'.cell? (ad.add k) = some (.int .i64 b)) (ds := []) #[false, false, false, false, false, false, false, false, false, false, false, false, false, false, false] (by kernel_rfl) rfl rfl (by have := HCL.out _ HBK5.out.2.1 k hlt; rw [HB.out] at this; exact this) (fun hHeld => ?_)
              refine pure_ (i := 0) (N := some 56) (v := ?_) (a' := ?_) (bm 15 1) rfl rfl (by kernel_rfl) (fun _ _ _ h => h) (Or.inl ⟨by rfl, ?_⟩) ?_ ?_
              rotate_left
              · intro w'
                go_simp
                with_reducible rfl
              rotate_left
              · simp only [Act.put, List.setIfInBounds_toArray, List.set_cons_zero, List.set_cons_succ, i64_w, i32_w]
                rfl
              refine pure_ (i := 1) (N := some 57) (v := ?_) (a' := ?_) (bm 15 3) rfl rfl (by kernel_rfl) (fun _ _ _ h => h) (Or.inl ⟨by rfl, ?_⟩) ?_ ?_
              rotate_left
              · intro w'
                go_simp
                with_reducible rfl
              rotate_left
              · simp only [Act.put, List.setIfInBounds_toArray, List.set_cons_zero, List.set_cons_succ, i64_w, i32_w]
                rfl
              refine pure_ (i := 2) (N := some 58) (v := ?_) (a' := ?_) (bm 15 7) rfl rfl (by kernel_rfl) (fun _ _ _ h => h) (Or.inl ⟨by rfl, ?_⟩) ?_ ?_
              rotate_left
              · intro w'
                go_simp
                with_reducible rfl
              rotate_left
              · simp only [Act.put, List.setIfInBounds_toArray, List.set_cons_zero, List.set_cons_succ, i64_w, i32_w]
                rfl
              refine take_ (i := 3) (N := some 59) (v := ?_) (a' := ?_) (bm 15 15) rfl rfl (by kernel_rfl) (fun _ _ _ h => h) (Or.inl ⟨by rfl, ?_⟩) hHeld ?_ ?_
              rotate_left
              · rintro w' s0
                go_simp
                with_reducible rfl
              rotate_left
              · simp only [Act.put, List.setIfInBounds_toArray, List.set_cons_zero, List.set_cons_succ, i64_w, i32_w]
                rfl
              refine pure_ (i := 4) (N := some 60) (v := ?_) (a' := ?_) (bm 15 31) rfl rfl (by kernel_rfl) (fun _ _ _ h => h) (Or.inl ⟨by rfl, ?_⟩) ?_ ?_
              rotate_left
              · intro w'
                go_simp
                with_reducible rfl
              rotate_left
              · simp only [Act.put, List.setIfInBounds_toArray, List.set_cons_zero, List.set_cons_succ, i64_w, i32_w]
                rfl
              refine pure_ (i := 5) (N := some 61) (v := ?_) (a' := ?_) (bm 15 63) rfl rfl (by kernel_rfl) (fun _ _ _ h => h) (Or.inl ⟨by rfl, ?_⟩) ?_ ?_
              rotate_left
              · intro w'
                go_simp
                with_reducible rfl
              rotate_left
              · simp only [Act.put, List.setIfInBounds_toArray, List.set_cons_zero, List.set_cons_succ, i64_w, i32_w]
                rfl
              refine pure_ (i := 6) (N := some 62) (v := undef) (a' := ?_) (bm 15 127) rfl rfl (by kernel_rfl) (fun _ _ _ h => h) (Or.inr ⟨by rfl, rfl⟩) ?_ ?_
              rotate_left
              · simp only [Act.put, List.setIfInBounds_toArray, List.set_cons_zero, List.set_cons_succ, i64_w, i32_w]
                rfl
              refine pure_ (i := 7) (N := some 63) (v := undef) (a' := ?_) (bm 15 255) rfl rfl (by kernel_rfl) (fun _ _ _ h => h) (Or.inr ⟨by rfl, rfl⟩) ?_ ?_
              rotate_left
              · simp only [Act.put, List.setIfInBounds_toArray, List.set_cons_zero, List.set_cons_succ, i64_w, i32_w]
                rfl
              refine pure_ (i := 8) (N := some 64) (v := undef) (a' := ?_) (bm 15 511) rfl rfl (by kernel_rfl) (fun _ _ _ h => h) (Or.inr ⟨by rfl, rfl⟩) ?_ ?_
              rotate_left
              · simp only [Act.put, List.setIfInBounds_toArray, List.set_cons_zero, List.set_cons_succ, i64_w, i32_w]
                rfl
              refine pure_ (i := 9) (N := some 65) (v := undef) (a' := ?_) (bm 15 1023) rfl rfl (by kernel_rfl) (fun _ _ _ h => h) (Or.inr ⟨by rfl, rfl⟩) ?_ ?_
              rotate_left
              · simp only [Act.put, List.setIfInBounds_toArray, List.set_cons_zero, List.set_cons_succ, i64_w, i32_w]
                rfl
              refine pure_ (i := 10) (N := some 66) (v := undef) (a' := ?_) (bm 15 2047) rfl rfl (by kernel_rfl) (fun _ _ _ h => h) (Or.inr ⟨by rfl, rfl⟩) ?_ ?_
              rotate_left
              · simp only [Act.put, List.setIfInBounds_toArray, List.set_cons_zero, List.set_cons_succ, i64_w, i32_w]
                rfl
              refine pure_ (i := 11) (N := some 67) (v := undef) (a' := ?_) (bm 15 4095) rfl rfl (by kernel_rfl) (fun _ _ _ h => h) (Or.inr ⟨by rfl, rfl⟩) ?_ ?_
              rotate_left
              · simp only [Act.put, List.setIfInBounds_toArray, List.set_cons_zero, List.set_cons_succ, i64_w, i32_w]
                rfl
              refine pure_ (i := 12) (N := some 68) (v := undef) (a' := ?_) (bm 15 8191) rfl rfl (by kernel_rfl) (fun _ _ _ h => h) (Or.inr ⟨by rfl, rfl⟩) ?_ ?_
              rotate_left
              · simp only [Act.put, List.setIfInBounds_toArray, List.set_cons_zero, List.set_cons_succ, i64_w, i32_w]
                rfl
              refine pure_ (i := 13) (N := some 69) (v := ?_) (a' := ?_) (bm 15 16383) rfl rfl (by kernel_rfl) (fun _ _ _ h => h) (Or.inl ⟨by rfl, ?_⟩) ?_ ?_
              rotate_left
              · intro w'
                go_simp
                with_reducible rfl
              rotate_left
              · simp only [Act.put, List.setIfInBounds_toArray, List.set_cons_zero, List.set_cons_succ, i64_w, i32_w]
                rfl
              refine pure_ (i := 14) (N := some 13) (v := ?_) (a' := ?_) (bm 15 32767) rfl rfl (by kernel_rfl) (fun _ _ _ h => h) (Or.inl ⟨by rfl, ?_⟩) ?_ ?_
              rotate_left
              · intro w'
                go_simp
                with_reducible rfl
              rotate_left
              · simp only [Act.put, List.setIfInBounds_toArray, List.set_cons_zero, List.set_cons_succ, i64_w, i32_w]
                rfl
              refine done_ (by kernel_rfl) ?_
              have HB6 : Hid (Below w5.heap.size w5 w5.drew) := Lib.hid (below_drew (Below.refl _ w5))
              generalize w5.drew = w6 at HB6 ⊢
              clear hHeld
              go_wp2
              clear z0 z1 z2
              go_loopw [13, 14] (fun s jv wq => ∃ j : Nat, j ≤ k ∧ jv = .int .i64 (j : Int) ∧ s = .bool (false && decide (∀ j', j' < j → l.getD j' 0 ≠ b)) ∧ Hid (Below w5.heap.size w5 wq)) (fun _ jv _ => k - (intOf jv).toNat)
              case atStart => exact ⟨0, Nat.zero_le _, rfl, by simp, HB6⟩
              case round =>
                obtain ⟨j, hj, rfl, rfl, HV⟩ := hrel
                by_cases hjk : j < k
                · have hji : (j : Int) < (k : Int) := by omega
                  have hjl : (j : Int) < (l.length : Int) := by omega
                  have hj0 : (0 : Int) ≤ (j : Int) := by omega
                  have hstep := decide_lt_succ (P := fun j' => l.getD j' 0 ≠ b) j
                  have HSTEP := Lib.hid hstep
                  clear hstep
                  obtain ⟨s, hs⟩ : ∃ s : Bool, (false && decide (∀ j', j' < j → l.getD j' 0 ≠ b)) = s := ⟨_, rfl⟩
                  have HS := Lib.hid hs
                  rw [hs]
                  clear hs
                  cases s with
                  | false =>
                    go_wp2
                    refine start_ (n := 13) (S := fun _ => True) (ds := []) #[false, false, false, false, false, false, false, false, false, false, false, false, false] (by kernel_rfl) rfl rfl trivial (fun hHeld => ?_)
                    refine pure_ (i := 0) (N := some 75) (v := ?_) (a' := ?_) (bm 13 1) rfl rfl (by kernel_rfl) (fun _ _ _ h => h) (Or.inl ⟨by rfl, ?_⟩) ?_ ?_
                    rotate_left
                    · intro w'
                      go_simp
                      with_reducible rfl
                    rotate_left
                    · simp only [Act.put, List.setIfInBounds_toArray, List.set_cons_zero, List.set_cons_succ, i64_w, i32_w]
                      rfl
                    refine pure_ (i := 1) (N := some 76) (v := ?_) (a' := ?_) (bm 13 3) rfl rfl (by kernel_rfl) (fun _ _ _ h => h) (Or.inl ⟨by rfl, ?_⟩) ?_ ?_
                    rotate_left
                    · intro w'
                      go_simp
                      with_reducible rfl
                    rotate_left
                    · simp only [Act.put, List.setIfInBounds_toArray, List.set_cons_zero, List.set_cons_succ, i64_w, i32_w]
                      rfl
                    refine pure_ (i := 2) (N := some 77) (v := undef) (a' := ?_) (bm 13 7) rfl rfl (by kernel_rfl) (fun _ _ _ h => h) (Or.inr ⟨by rfl, rfl⟩) ?_ ?_
                    rotate_left
                    · simp only [Act.put, List.setIfInBounds_toArray, List.set_cons_zero, List.set_cons_succ, i64_w, i32_w]
                      rfl
                    refine pure_ (i := 3) (N := some 78) (v := undef) (a' := ?_) (bm 13 15) rfl rfl (by kernel_rfl) (fun _ _ _ h => h) (Or.inr ⟨by rfl, rfl⟩) ?_ ?_
                    rotate_left
                    · simp only [Act.put, List.setIfInBounds_toArray, List.set_cons_zero, List.set_cons_succ, i64_w, i32_w]
                      rfl
                    refine pure_ (i := 4) (N := some 79) (v := undef) (a' := ?_) (bm 13 31) rfl rfl (by kernel_rfl) (fun _ _ _ h => h) (Or.inr ⟨by rfl, rfl⟩) ?_ ?_
                    rotate_left
                    · simp only [Act.put, List.setIfInBounds_toArray, List.set_cons_zero, List.set_cons_succ, i64_w, i32_w]
                      rfl
                    refine pure_ (i := 5) (N := some 80) (v := undef) (a' := ?_) (bm 13 63) rfl rfl (by kernel_rfl) (fun _ _ _ h => h) (Or.inr ⟨by rfl, rfl⟩) ?_ ?_
                    rotate_left
                    · simp only [Act.put, List.setIfInBounds_toArray, List.set_cons_zero, List.set_cons_succ, i64_w, i32_w]
                      rfl
                    refine pure_ (i := 6) (N := some 81) (v := undef) (a' := ?_) (bm 13 127) rfl rfl (by kernel_rfl) (fun _ _ _ h => h) (Or.inr ⟨by rfl, rfl⟩) ?_ ?_
                    rotate_left
                    · simp only [Act.put, List.setIfInBounds_toArray, List.set_cons_zero, List.set_cons_succ, i64_w, i32_w]
                      rfl
                    refine pure_ (i := 7) (N := some 82) (v := undef) (a' := ?_) (bm 13 255) rfl rfl (by kernel_rfl) (fun _ _ _ h => h) (Or.inr ⟨by rfl, rfl⟩) ?_ ?_
                    rotate_left
                    · simp only [Act.put, List.setIfInBounds_toArray, List.set_cons_zero, List.set_cons_succ, i64_w, i32_w]
                      rfl
                    refine pure_ (i := 8) (N := some 83) (v := undef) (a' := ?_) (bm 13 511) rfl rfl (by kernel_rfl) (fun _ _ _ h => h) (Or.inr ⟨by rfl, rfl⟩) ?_ ?_
                    rotate_left
                    · simp only [Act.put, List.setIfInBounds_toArray, List.set_cons_zero, List.set_cons_succ, i64_w, i32_w]
                      rfl
                    refine pure_ (i := 9) (N := some 84) (v := undef) (a' := ?_) (bm 13 1023) rfl rfl (by kernel_rfl) (fun _ _ _ h => h) (Or.inr ⟨by rfl, rfl⟩) ?_ ?_
                    rotate_left
                    · simp only [Act.put, List.setIfInBounds_toArray, List.set_cons_zero, List.set_cons_succ, i64_w, i32_w]
                      rfl
                    refine pure_ (i := 10) (N := some 85) (v := undef) (a' := ?_) (bm 13 2047) rfl rfl (by kernel_rfl) (fun _ _ _ h => h) (Or.inr ⟨by rfl, rfl⟩) ?_ ?_
                    rotate_left
                    · simp only [Act.put, List.setIfInBounds_toArray, List.set_cons_zero, List.set_cons_succ, i64_w, i32_w]
                      rfl
                    refine pure_ (i := 11) (N := some 86) (v := ?_) (a' := ?_) (bm 13 4095) rfl rfl (by kernel_rfl) (fun _ _ _ h => h) (Or.inl ⟨by rfl, ?_⟩) ?_ ?_
                    rotate_left
                    · intro w'
                      go_simp
                      with_reducible rfl
                    rotate_left
                    · simp only [Act.put, List.setIfInBounds_toArray, List.set_cons_zero, List.set_cons_succ, i64_w, i32_w]
                      rfl
                    refine pure_ (i := 12) (N := some 13) (v := ?_) (a' := ?_) (bm 13 8191) rfl rfl (by kernel_rfl) (fun _ _ _ h => h) (Or.inl ⟨by rfl, ?_⟩) ?_ ?_
                    rotate_left
                    · intro w'
                      go_simp
                      with_reducible rfl
                    rotate_left
                    · simp only [Act.put, List.setIfInBounds_toArray, List.set_cons_zero, List.set_cons_succ, i64_w, i32_w]
                      rfl
                    refine done_ (by kernel_rfl) ?_
                    clear hHeld
                    go_wp2
                    go_roundw
                    case rel => exact ⟨j + 1, by omega, by go_num, by rw [HSTEP.out, ← Bool.and_assoc, HS.out]; rfl, Lib.hid (below_drew HV.out)⟩
                    case measure => simp [intOf]; omega
                  | true =>
                    go_wp2
                    refine start_ (n := 13) (S := fun w' => w'.cell? (ad.add j) = some (.int .i64 (l.getD j 0)) ∧ w'.cell? (ad.add k) = some (.int .i64 b)) (ds := []) #[false, false, false, false, false, false, false, false, false, false, false, false, false] (by kernel_rfl) rfl rfl ⟨HCL.out wr (HBK5.out.2.1.trans (HV.out.mono HBK5.out.2.1.size)) j (by omega), by have := HCL.out wr (HBK5.out.2.1.trans (HV.out.mono HBK5.out.2.1.size)) k hlt; rw [HB.out] at this; exact this⟩ (fun hHeld => ?_)
                    refine pure_ (i := 0) (N := some 75) (v := ?_) (a' := ?_) (bm 13 1) rfl rfl (by kernel_rfl) (fun _ _ _ h => h) (Or.inl ⟨by rfl, ?_⟩) ?_ ?_
                    rotate_left
                    · intro w'
                      go_simp
                      with_reducible rfl
                    rotate_left
                    · simp only [Act.put, List.setIfInBounds_toArray, List.set_cons_zero, List.set_cons_succ, i64_w, i32_w]
                      rfl
                    refine pure_ (i := 1) (N := some 76) (v := ?_) (a' := ?_) (bm 13 3) rfl rfl (by kernel_rfl) (fun _ _ _ h => h) (Or.inl ⟨by rfl, ?_⟩) ?_ ?_
                    rotate_left
                    · intro w'
                      go_simp
                      with_reducible rfl
                    rotate_left
                    · simp only [Act.put, List.setIfInBounds_toArray, List.set_cons_zero, List.set_cons_succ, i64_w, i32_w]
                      rfl
                    refine pure_ (i := 2) (N := some 77) (v := ?_) (a' := ?_) (bm 13 7) rfl rfl (by kernel_rfl) (fun _ _ _ h => h) (Or.inl ⟨by rfl, ?_⟩) ?_ ?_
                    rotate_left
                    · intro w'
                      go_simp
                      with_reducible rfl
                    rotate_left
                    · simp only [Act.put, List.setIfInBounds_toArray, List.set_cons_zero, List.set_cons_succ, i64_w, i32_w]
                      rfl
                    refine pure_ (i := 3) (N := some 78) (v := ?_) (a' := ?_) (bm 13 15) rfl rfl (by kernel_rfl) (fun _ _ _ h => h) (Or.inl ⟨by rfl, ?_⟩) ?_ ?_
                    rotate_left
                    · intro w'
                      go_simp
                      with_reducible rfl
                    rotate_left
                    · simp only [Act.put, List.setIfInBounds_toArray, List.set_cons_zero, List.set_cons_succ, i64_w, i32_w]
                      rfl
                    refine pure_ (i := 4) (N := some 79) (v := ?_) (a' := ?_) (bm 13 31) rfl rfl (by kernel_rfl) (fun _ _ _ h => h) (Or.inl ⟨by rfl, ?_⟩) ?_ ?_
                    rotate_left
                    · intro w'
                      go_simp
                      with_reducible rfl
                    rotate_left
                    · simp only [Act.put, List.setIfInBounds_toArray, List.set_cons_zero, List.set_cons_succ, i64_w, i32_w]
                      rfl
                    refine take_ (i := 5) (N := some 80) (v := ?_) (a' := ?_) (bm 13 63) rfl rfl (by kernel_rfl) (fun _ _ _ h => h) (Or.inl ⟨by rfl, ?_⟩) hHeld ?_ ?_
                    rotate_left
                    · rintro w' ⟨s0, s1⟩
                      go_simp
                      with_reducible rfl
                    rotate_left
                    · simp only [Act.put, List.setIfInBounds_toArray, List.set_cons_zero, List.set_cons_succ, i64_w, i32_w]
                      rfl
                    refine pure_ (i := 6) (N := some 81) (v := ?_) (a' := ?_) (bm 13 127) rfl rfl (by kernel_rfl) (fun _ _ _ h => h) (Or.inl ⟨by rfl, ?_⟩) ?_ ?_
                    rotate_left
                    · intro w'
                      go_simp
                      with_reducible rfl
                    rotate_left
                    · simp only [Act.put, List.setIfInBounds_toArray, List.set_cons_zero, List.set_cons_succ, i64_w, i32_w]
                      rfl
                    refine pure_ (i := 7) (N := some 82) (v := ?_) (a' := ?_) (bm 13 255) rfl rfl (by kernel_rfl) (fun _ _ _ h => h) (Or.inl ⟨by rfl, ?_⟩) ?_ ?_
                    rotate_left
                    · intro w'
                      go_simp
                      with_reducible rfl
                    rotate_left
                    · simp only [Act.put, List.setIfInBounds_toArray, List.set_cons_zero, List.set_cons_succ, i64_w, i32_w]
                      rfl
                    refine pure_ (i := 8) (N := some 83) (v := ?_) (a' := ?_) (bm 13 511) rfl rfl (by kernel_rfl) (fun _ _ _ h => h) (Or.inl ⟨by rfl, ?_⟩) ?_ ?_
                    rotate_left
                    · intro w'
                      go_simp
                      with_reducible rfl
                    rotate_left
                    · simp only [Act.put, List.setIfInBounds_toArray, List.set_cons_zero, List.set_cons_succ, i64_w, i32_w]
                      rfl
                    refine take_ (i := 9) (N := some 84) (v := ?_) (a' := ?_) (bm 13 1023) rfl rfl (by kernel_rfl) (fun _ _ _ h => h) (Or.inl ⟨by rfl, ?_⟩) hHeld ?_ ?_
                    rotate_left
                    · rintro w' ⟨s0, s1⟩
                      go_simp
                      with_reducible rfl
                    rotate_left
                    · simp only [Act.put, List.setIfInBounds_toArray, List.set_cons_zero, List.set_cons_succ, i64_w, i32_w]
                      rfl
                    refine pure_ (i := 10) (N := some 85) (v := ?_) (a' := ?_) (bm 13 2047) rfl rfl (by kernel_rfl) (fun _ _ _ h => h) (Or.inl ⟨by rfl, ?_⟩) ?_ ?_
                    rotate_left
                    · intro w'
                      go_simp
                      with_reducible rfl
                    rotate_left
                    · simp only [Act.put, List.setIfInBounds_toArray, List.set_cons_zero, List.set_cons_succ, i64_w, i32_w]
                      rfl
                    refine pure_ (i := 11) (N := some 86) (v := ?_) (a' := ?_) (bm 13 4095) rfl rfl (by kernel_rfl) (fun _ _ _ h => h) (Or.inl ⟨by rfl, ?_⟩) ?_ ?_
                    rotate_left
                    · intro w'
                      go_simp
                      with_reducible rfl
                    rotate_left
                    · simp only [Act.put, List.setIfInBounds_toArray, List.set_cons_zero, List.set_cons_succ, i64_w, i32_w]
                      rfl
                    refine pure_ (i := 12) (N := some 13) (v := ?_) (a' := ?_) (bm 13 8191) rfl rfl (by kernel_rfl) (fun _ _ _ h => h) (Or.inl ⟨by rfl, ?_⟩) ?_ ?_
                    rotate_left
                    · intro w'
                      go_simp
                      with_reducible rfl
                    rotate_left
                    · simp only [Act.put, List.setIfInBounds_toArray, List.set_cons_zero, List.set_cons_succ, i64_w, i32_w]
                      rfl
                    refine done_ (by kernel_rfl) ?_
                    clear hHeld
                    go_wp2
                    go_roundw
                    case rel => exact ⟨j + 1, by omega, by go_num, by rw [HSTEP.out, ← Bool.and_assoc, HS.out, Bool.true_and, ← bne_dec]; simp only [List.getD_eq_getElem?_getD], Lib.hid (below_drew HV.out)⟩
                    case measure => simp [intOf]; omega
                · obtain rfl : j = k := by omega
                  have hji : ¬ (j : Int) < (j : Int) := by omega
                  have hsv : (false && decide (∀ j', j' < j → l.getD j' 0 ≠ b)) = false := rfl
                  rw [hsv]
                  clear hsv
                  have hwv := HCL.out wr (HBK5.out.2.1.trans (HV.out.mono HBK5.out.2.1.size)) j hlt
                  rw [HB.out] at hwv
                  have HBK6 := Lib.hid (HBK5.out.below HV.out)
                  have tN0 := TN0.out
                  go_wp2
                  go_roundw
                  case rel => exact ⟨j + 1, lj, by omega, by go_num, by rw [HLJ.out], by rw [HLJ.out], Lib.hid ⟨HMK'.out, HBK6.out⟩⟩
                  case measure => simp [intOf]; omega
            · by_cases hbv : 1 ≤ b
              · have hb0 : ¬ b = 0 := by omega
                have hM1 : maySet gr i d n p li ld b 0 false = false := by rw [M1.out, hisv, decide_eq_false hb0]; rfl
                have hli' : (if maySet gr i d n p li ld b 0 false = true then newI n p li b false else li) = li := by rw [hM1]; rfl
                have hb1 : 1 ≤ b := hbv
                have tb : decide (b ≥ 1) = true := decide_eq_true hb1
                have tb' : decide (1 ≤ b) = true := decide_eq_true hb1
                obtain ⟨i0, hi0⟩ : ∃ i0, decide (b ≤ ((n * p : Nat) : Int)) = i0 := ⟨_, rfl⟩
                have HI0 : Hid ((i0 && decide (∀ j, j < k → l.getD j 0 ≠ b)) = false) := Lib.hid (by have h := HISB.out; rw [hisv] at h; rw [h]; rw [← hi0]; congr 1; simp [hb1])
                have tN0 : (b == 0) = false := by simpa using hb0
                obtain ⟨lj, HLJ⟩ : ∃ lj, Hid (li = lj) := ⟨_, Lib.hid rfl⟩
                have hli2 : (if maySet gr i d n p li ld b 0 false = true then newI n p li b false else li) = lj := hli'.trans HLJ.out
                clear hli'
                have hli' := hli2
                clear hli2
                have hmk' := M2.out
                rw [hli'] at hmk'
                have HMK' := Lib.hid hmk'
                have HLI' := Lib.hid hli'
                have HM1 := Lib.hid hM1
                clear hmk' hli' hM1 M1 M2 M3 M4
                go_wp2_with (first | (go_at_call 17; refine (giveA b 0 HA.out (fun j hj => hj.2) HBK.out.2.2.2).mono ?_; rintro e w5 hs; have he := hs.1; rw [HM1.out] at he; subst he; have hA5 := hs.2.1; rw [HLI'.out] at hA5; have HBK5 := Lib.hid (HBK.out.next hA5 hs.2.2); clear hs hA5))
                refine start_ (n := 15) (S := fun w' => w'.cell? (ad.add k) = some (.int .i64 b) ∧ w'.cell? ⟨w.heap.size, 0, none⟩ = some (.int .i64 gr) ∧ w'.cell? ⟨w.heap.size, 1, none⟩ = some (.int .i64 i) ∧ w'.cell? ⟨w.heap.size, 2, none⟩ = some (.int .i64 d)) (ds := []) #[false, false, false, false, false, false, false, false, false, false, false, false, false, false, false] (by kernel_rfl) rfl rfl ⟨by have := HCL.out _ HBK5.out.2.1 k hlt; rw [HB.out] at this; exact this, pw_cell_below HBK5.out.2.1 Y0.out, pw_cell_below HBK5.out.2.1 Y1.out, pw_cell_below HBK5.out.2.1 Y2.out⟩ (fun hHeld => ?_)
                refine pure_ (i := 0) (N := some 56) (v := ?_) (a' := ?_) (bm 15 1) rfl rfl (by kernel_rfl) (fun _ _ _ h => h) (Or.inl ⟨by rfl, ?_⟩) ?_ ?_
                rotate_left
                · intro w'
                  go_simp
                  with_reducible rfl
                rotate_left
                · simp only [Act.put, List.setIfInBounds_toArray, List.set_cons_zero, List.set_cons_succ, i64_w, i32_w]
                  rfl
                refine pure_ (i := 1) (N := some 57) (v := ?_) (a' := ?_) (bm 15 3) rfl rfl (by kernel_rfl) (fun _ _ _ h => h) (Or.inl ⟨by rfl, ?_⟩) ?_ ?_
                rotate_left
                · intro w'
                  go_simp
                  with_reducible rfl
                rotate_left
                · simp only [Act.put, List.setIfInBounds_toArray, List.set_cons_zero, List.set_cons_succ, i64_w, i32_w]
                  rfl
                refine pure_ (i := 2) (N := some 58) (v := ?_) (a' := ?_) (bm 15 7) rfl rfl (by kernel_rfl) (fun _ _ _ h => h) (Or.inl ⟨by rfl, ?_⟩) ?_ ?_
                rotate_left
                · intro w'
                  go_simp
                  with_reducible rfl
                rotate_left
                · simp only [Act.put, List.setIfInBounds_toArray, List.set_cons_zero, List.set_cons_succ, i64_w, i32_w]
                  rfl
                refine take_ (i := 3) (N := some 59) (v := ?_) (a' := ?_) (bm 15 15) rfl rfl (by kernel_rfl) (fun _ _ _ h => h) (Or.inl ⟨by rfl, ?_⟩) hHeld ?_ ?_
                rotate_left
                · rintro w' ⟨s0, s1, s2, s3⟩
                  go_simp
                  with_reducible rfl
                rotate_left
                · simp only [Act.put, List.setIfInBounds_toArray, List.set_cons_zero, List.set_cons_succ, i64_w, i32_w]
                  rfl
                refine pure_ (i := 4) (N := some 60) (v := ?_) (a' := ?_) (bm 15 31) rfl rfl (by kernel_rfl) (fun _ _ _ h => h) (Or.inl ⟨by rfl, ?_⟩) ?_ ?_
                rotate_left
                · intro w'
                  go_simp
                  with_reducible rfl
                rotate_left
                · simp only [Act.put, List.setIfInBounds_toArray, List.set_cons_zero, List.set_cons_succ, i64_w, i32_w]
                  rfl
                refine pure_ (i := 5) (N := some 61) (v := ?_) (a' := ?_) (bm 15 63) rfl rfl (by kernel_rfl) (fun _ _ _ h => h) (Or.inl ⟨by rfl, ?_⟩) ?_ ?_
                rotate_left
                · intro w'
                  go_simp
                  with_reducible rfl
                rotate_left
                · simp only [Act.put, List.setIfInBounds_toArray, List.set_cons_zero, List.set_cons_succ, i64_w, i32_w]
                  rfl
                refine pure_ (i := 6) (N := some 62) (v := ?_) (a' := ?_) (bm 15 127) rfl rfl (by kernel_rfl) (fun _ _ _ h => h) (Or.inl ⟨by rfl, ?_⟩) ?_ ?_
                rotate_left
                · intro w'
                  go_simp
                  with_reducible rfl
                rotate_left
                · simp only [Act.put, List.setIfInBounds_toArray, List.set_cons_zero, List.set_cons_succ, i64_w, i32_w]
                  rfl
                refine pure_ (i := 7) (N := some 63) (v := ?_) (a' := ?_) (bm 15 255) rfl rfl (by kernel_rfl) (fun _ _ _ h => h) (Or.inl ⟨by rfl, ?_⟩) ?_ ?_
                rotate_left
                · intro w'
                  go_simp
                  with_reducible rfl
                rotate_left
                · simp only [Act.put, List.setIfInBounds_toArray, List.set_cons_zero, List.set_cons_succ, i64_w, i32_w]
                  rfl
                refine pure_ (i := 8) (N := some 64) (v := ?_) (a' := ?_) (bm 15 511) rfl rfl (by kernel_rfl) (fun _ _ _ h => h) (Or.inl ⟨by rfl, ?_⟩) ?_ ?_
                rotate_left
                · intro w'
                  go_simp
                  with_reducible rfl
                rotate_left
                · simp only [Act.put, List.setIfInBounds_toArray, List.set_cons_zero, List.set_cons_succ, i64_w, i32_w]
                  rfl
                refine take_ (i := 9) (N := some 65) (v := ?_) (a' := ?_) (bm 15 1023) rfl rfl (by kernel_rfl) (fun _ _ _ h => h) (Or.inl ⟨by rfl, ?_⟩) hHeld ?_ ?_
                rotate_left
                · rintro w' ⟨s0, s1, s2, s3⟩
                  go_simp
                  with_reducible rfl
                rotate_left
                · simp only [Act.put, List.setIfInBounds_toArray, List.set_cons_zero, List.set_cons_succ, i64_w, i32_w]
                  rfl
                refine take_ (i := 10) (N := some 66) (v := ?_) (a' := ?_) (bm 15 2047) rfl rfl (by kernel_rfl) (fun _ _ _ h => h) (Or.inl ⟨by rfl, ?_⟩) hHeld ?_ ?_
                rotate_left
                · rintro w' ⟨s0, s1, s2, s3⟩
                  go_simp
                  with_reducible rfl
                rotate_left
                · simp only [Act.put, List.setIfInBounds_toArray, List.set_cons_zero, List.set_cons_succ, i64_w, i32_w]
                  rfl
                refine one_ (i := 11) (N := some 67) (bm 15 4095) rfl rfl (by kernel_rfl) (by decide) (fun K hK => ?_)
                refine goes_ Try.func13 (by kernel_rfl) rfl #[.agg #[.int .i64 gr, .int .i64 i, .int .i64 d]] (by rfl) rfl rfl (by (try simp only [List.map_toArray, List.map_cons, List.map_nil]); first | done | rfl) ?_
                refine (lockgateref1_Inodes.calls gr i d _ _ HIN.out).mono ?_
                rintro e w6 ⟨rfl, hb6⟩
                have HB6 : Hid (Below w5.heap.size w5 w6) := Lib.hid ((below_drew (Below.refl _ w5)).trans hb6)
                have hS6 := And.intro (pw_cell_below hb6 hHeld.1) (And.intro (pw_cell_below hb6 hHeld.2.1) (And.intro (pw_cell_below hb6 hHeld.2.2.1) (pw_cell_below hb6 hHeld.2.2.2)))
                clear hb6
                refine ⟨_, rfl, hK.out _ _ hS6 (fun hHeld => ?_)⟩
                clear hK K
                refine norm_ (a' := ?_) ?_ ?_
                rotate_left
                · show Act.put _ (some 67) _ = _
                  simp only [Act.put, List.setIfInBounds_toArray, List.set_cons_zero, List.set_cons_succ, i64_w, i32_w]
                  rfl
                refine pure_ (i := 12) (N := some 68) (v := ?_) (a' := ?_) (bm 15 8191) rfl rfl (by kernel_rfl) (fun _ _ _ h => h) (Or.inl ⟨by rfl, ?_⟩) ?_ ?_
                rotate_left
                · intro w'
                  go_simp
                  with_reducible rfl
                rotate_left
                · simp only [Act.put, List.setIfInBounds_toArray, List.set_cons_zero, List.set_cons_succ, i64_w, i32_w]
                  rfl
                refine pure_ (i := 13) (N := some 69) (v := ?_) (a' := ?_) (bm 15 16383) rfl rfl (by kernel_rfl) (fun _ _ _ h => h) (Or.inl ⟨by rfl, ?_⟩) ?_ ?_
                rotate_left
                · intro w'
                  go_simp
                  with_reducible rfl
                rotate_left
                · simp only [Act.put, List.setIfInBounds_toArray, List.set_cons_zero, List.set_cons_succ, i64_w, i32_w]
                  rfl
                refine pure_ (i := 14) (N := some 13) (v := ?_) (a' := ?_) (bm 15 32767) rfl rfl (by kernel_rfl) (fun _ _ _ h => h) (Or.inl ⟨by rfl, ?_⟩) ?_ ?_
                rotate_left
                · intro w'
                  go_simp
                  with_reducible rfl
                rotate_left
                · simp only [Act.put, List.setIfInBounds_toArray, List.set_cons_zero, List.set_cons_succ, i64_w, i32_w]
                  rfl
                refine done_ (by kernel_rfl) ?_
                clear hHeld hS6
                go_wp2
                clear z0 z1 z2
                go_loopw [13, 14] (fun s jv wq => ∃ j : Nat, j ≤ k ∧ jv = .int .i64 (j : Int) ∧ s = .bool (i0 && decide (∀ j', j' < j → l.getD j' 0 ≠ b)) ∧ Hid (Below w5.heap.size w5 wq)) (fun _ jv _ => k - (intOf jv).toNat)
                case atStart => exact ⟨0, Nat.zero_le _, rfl, by simp; simpa using hi0, HB6⟩
                case round =>
                  obtain ⟨j, hj, rfl, rfl, HV⟩ := hrel
                  by_cases hjk : j < k
                  · have hji : (j : Int) < (k : Int) := by omega
                    have hjl : (j : Int) < (l.length : Int) := by omega
                    have hj0 : (0 : Int) ≤ (j : Int) := by omega
                    have hstep := decide_lt_succ (P := fun j' => l.getD j' 0 ≠ b) j
                    have HSTEP := Lib.hid hstep
                    clear hstep
                    obtain ⟨s, hs⟩ : ∃ s : Bool, (i0 && decide (∀ j', j' < j → l.getD j' 0 ≠ b)) = s := ⟨_, rfl⟩
                    have HS := Lib.hid hs
                    rw [hs]
                    clear hs
                    cases s with
                    | false =>
                      go_wp2
                      refine start_ (n := 13) (S := fun _ => True) (ds := []) #[false, false, false, false, false, false, false, false, false, false, false, false, false] (by kernel_rfl) rfl rfl trivial (fun hHeld => ?_)
                      refine pure_ (i := 0) (N := some 75) (v := ?_) (a' := ?_) (bm 13 1) rfl rfl (by kernel_rfl) (fun _ _ _ h => h) (Or.inl ⟨by rfl, ?_⟩) ?_ ?_
                      rotate_left
                      · intro w'
                        go_simp
                        with_reducible rfl
                      rotate_left
                      · simp only [Act.put, List.setIfInBounds_toArray, List.set_cons_zero, List.set_cons_succ, i64_w, i32_w]
                        rfl
                      refine pure_ (i := 1) (N := some 76) (v := ?_) (a' := ?_) (bm 13 3) rfl rfl (by kernel_rfl) (fun _ _ _ h => h) (Or.inl ⟨by rfl, ?_⟩) ?_ ?_
                      rotate_left
                      · intro w'
                        go_simp
                        with_reducible rfl
                      rotate_left
                      · simp only [Act.put, List.setIfInBounds_toArray, List.set_cons_zero, List.set_cons_succ, i64_w, i32_w]
                        rfl
                      refine pure_ (i := 2) (N := some 77) (v := undef) (a' := ?_) (bm 13 7) rfl rfl (by kernel_rfl) (fun _ _ _ h => h) (Or.inr ⟨by rfl, rfl⟩) ?_ ?_
                      rotate_left
                      · simp only [Act.put, List.setIfInBounds_toArray, List.set_cons_zero, List.set_cons_succ, i64_w, i32_w]
                        rfl
                      refine pure_ (i := 3) (N := some 78) (v := undef) (a' := ?_) (bm 13 15) rfl rfl (by kernel_rfl) (fun _ _ _ h => h) (Or.inr ⟨by rfl, rfl⟩) ?_ ?_
                      rotate_left
                      · simp only [Act.put, List.setIfInBounds_toArray, List.set_cons_zero, List.set_cons_succ, i64_w, i32_w]
                        rfl
                      refine pure_ (i := 4) (N := some 79) (v := undef) (a' := ?_) (bm 13 31) rfl rfl (by kernel_rfl) (fun _ _ _ h => h) (Or.inr ⟨by rfl, rfl⟩) ?_ ?_
                      rotate_left
                      · simp only [Act.put, List.setIfInBounds_toArray, List.set_cons_zero, List.set_cons_succ, i64_w, i32_w]
                        rfl
                      refine pure_ (i := 5) (N := some 80) (v := undef) (a' := ?_) (bm 13 63) rfl rfl (by kernel_rfl) (fun _ _ _ h => h) (Or.inr ⟨by rfl, rfl⟩) ?_ ?_
                      rotate_left
                      · simp only [Act.put, List.setIfInBounds_toArray, List.set_cons_zero, List.set_cons_succ, i64_w, i32_w]
                        rfl
                      refine pure_ (i := 6) (N := some 81) (v := undef) (a' := ?_) (bm 13 127) rfl rfl (by kernel_rfl) (fun _ _ _ h => h) (Or.inr ⟨by rfl, rfl⟩) ?_ ?_
                      rotate_left
                      · simp only [Act.put, List.setIfInBounds_toArray, List.set_cons_zero, List.set_cons_succ, i64_w, i32_w]
                        rfl
                      refine pure_ (i := 7) (N := some 82) (v := undef) (a' := ?_) (bm 13 255) rfl rfl (by kernel_rfl) (fun _ _ _ h => h) (Or.inr ⟨by rfl, rfl⟩) ?_ ?_
                      rotate_left
                      · simp only [Act.put, List.setIfInBounds_toArray, List.set_cons_zero, List.set_cons_succ, i64_w, i32_w]
                        rfl
                      refine pure_ (i := 8) (N := some 83) (v := undef) (a' := ?_) (bm 13 511) rfl rfl (by kernel_rfl) (fun _ _ _ h => h) (Or.inr ⟨by rfl, rfl⟩) ?_ ?_
                      rotate_left
                      · simp only [Act.put, List.setIfInBounds_toArray, List.set_cons_zero, List.set_cons_succ, i64_w, i32_w]
                        rfl
                      refine pure_ (i := 9) (N := some 84) (v := undef) (a' := ?_) (bm 13 1023) rfl rfl (by kernel_rfl) (fun _ _ _ h => h) (Or.inr ⟨by rfl, rfl⟩) ?_ ?_
                      rotate_left
                      · simp only [Act.put, List.setIfInBounds_toArray, List.set_cons_zero, List.set_cons_succ, i64_w, i32_w]
                        rfl
                      refine pure_ (i := 10) (N := some 85) (v := undef) (a' := ?_) (bm 13 2047) rfl rfl (by kernel_rfl) (fun _ _ _ h => h) (Or.inr ⟨by rfl, rfl⟩) ?_ ?_
                      rotate_left
                      · simp only [Act.put, List.setIfInBounds_toArray, List.set_cons_zero, List.set_cons_succ, i64_w, i32_w]
                        rfl
                      refine pure_ (i := 11) (N := some 86) (v := ?_) (a' := ?_) (bm 13 4095) rfl rfl (by kernel_rfl) (fun _ _ _ h => h) (Or.inl ⟨by rfl, ?_⟩) ?_ ?_
                      rotate_left
                      · intro w'
                        go_simp
                        with_reducible rfl
                      rotate_left
                      · simp only [Act.put, List.setIfInBounds_toArray, List.set_cons_zero, List.set_cons_succ, i64_w, i32_w]
                        rfl
                      refine pure_ (i := 12) (N := some 13) (v := ?_) (a' := ?_) (bm 13 8191) rfl rfl (by kernel_rfl) (fun _ _ _ h => h) (Or.inl ⟨by rfl, ?_⟩) ?_ ?_
                      rotate_left
                      · intro w'
                        go_simp
                        with_reducible rfl
                      rotate_left
                      · simp only [Act.put, List.setIfInBounds_toArray, List.set_cons_zero, List.set_cons_succ, i64_w, i32_w]
                        rfl
                      refine done_ (by kernel_rfl) ?_
                      clear hHeld
                      go_wp2
                      go_roundw
                      case rel => exact ⟨j + 1, by omega, by go_num, by rw [HSTEP.out, ← Bool.and_assoc, HS.out]; rfl, Lib.hid (below_drew HV.out)⟩
                      case measure => simp [intOf]; omega
                    | true =>
                      go_wp2
                      refine start_ (n := 13) (S := fun w' => w'.cell? (ad.add j) = some (.int .i64 (l.getD j 0)) ∧ w'.cell? (ad.add k) = some (.int .i64 b)) (ds := []) #[false, false, false, false, false, false, false, false, false, false, false, false, false] (by kernel_rfl) rfl rfl ⟨HCL.out wr (HBK5.out.2.1.trans (HV.out.mono HBK5.out.2.1.size)) j (by omega), by have := HCL.out wr (HBK5.out.2.1.trans (HV.out.mono HBK5.out.2.1.size)) k hlt; rw [HB.out] at this; exact this⟩ (fun hHeld => ?_)
                      refine pure_ (i := 0) (N := some 75) (v := ?_) (a' := ?_) (bm 13 1) rfl rfl (by kernel_rfl) (fun _ _ _ h => h) (Or.inl ⟨by rfl, ?_⟩) ?_ ?_
                      rotate_left
                      · intro w'
                        go_simp
                        with_reducible rfl
                      rotate_left
                      · simp only [Act.put, List.setIfInBounds_toArray, List.set_cons_zero, List.set_cons_succ, i64_w, i32_w]
                        rfl
                      refine pure_ (i := 1) (N := some 76) (v := ?_) (a' := ?_) (bm 13 3) rfl rfl (by kernel_rfl) (fun _ _ _ h => h) (Or.inl ⟨by rfl, ?_⟩) ?_ ?_
                      rotate_left
                      · intro w'
                        go_simp
                        with_reducible rfl
                      rotate_left
                      · simp only [Act.put, List.setIfInBounds_toArray, List.set_cons_zero, List.set_cons_succ, i64_w, i32_w]
                        rfl
                      refine pure_ (i := 2) (N := some 77) (v := ?_) (a' := ?_) (bm 13 7) rfl rfl (by kernel_rfl) (fun _ _ _ h => h) (Or.inl ⟨by rfl, ?_⟩) ?_ ?_
                      rotate_left
                      · intro w'
                        go_simp
                        with_reducible rfl
                      rotate_left
                      · simp only [Act.put, List.setIfInBounds_toArray, List.set_cons_zero, List.set_cons_succ, i64_w, i32_w]
                        rfl
                      refine pure_ (i := 3) (N := some 78) (v := ?_) (a' := ?_) (bm 13 15) rfl rfl (by kernel_rfl) (fun _ _ _ h => h) (Or.inl ⟨by rfl, ?_⟩) ?_ ?_
                      rotate_left
                      · intro w'
                        go_simp
                        with_reducible rfl
                      rotate_left
                      · simp only [Act.put, List.setIfInBounds_toArray, List.set_cons_zero, List.set_cons_succ, i64_w, i32_w]
                        rfl
                      refine pure_ (i := 4) (N := some 79) (v := ?_) (a' := ?_) (bm 13 31) rfl rfl (by kernel_rfl) (fun _ _ _ h => h) (Or.inl ⟨by rfl, ?_⟩) ?_ ?_
                      rotate_left
                      · intro w'
                        go_simp
                        with_reducible rfl
                      rotate_left
                      · simp only [Act.put, List.setIfInBounds_toArray, List.set_cons_zero, List.set_cons_succ, i64_w, i32_w]
                        rfl
                      refine take_ (i := 5) (N := some 80) (v := ?_) (a' := ?_) (bm 13 63) rfl rfl (by kernel_rfl) (fun _ _ _ h => h) (Or.inl ⟨by rfl, ?_⟩) hHeld ?_ ?_
                      rotate_left
                      · rintro w' ⟨s0, s1⟩
                        go_simp
                        with_reducible rfl
                      rotate_left
                      · simp only [Act.put, List.setIfInBounds_toArray, List.set_cons_zero, List.set_cons_succ, i64_w, i32_w]
                        rfl
                      refine pure_ (i := 6) (N := some 81) (v := ?_) (a' := ?_) (bm 13 127) rfl rfl (by kernel_rfl) (fun _ _ _ h => h) (Or.inl ⟨by rfl, ?_⟩) ?_ ?_
                      rotate_left
                      · intro w'
                        go_simp
                        with_reducible rfl
                      rotate_left
                      · simp only [Act.put, List.setIfInBounds_toArray, List.set_cons_zero, List.set_cons_succ, i64_w, i32_w]
                        rfl
                      refine pure_ (i := 7) (N := some 82) (v := ?_) (a' := ?_) (bm 13 255) rfl rfl (by kernel_rfl) (fun _ _ _ h => h) (Or.inl ⟨by rfl, ?_⟩) ?_ ?_
                      rotate_left
                      · intro w'
                        go_simp
                        with_reducible rfl
                      rotate_left
                      · simp only [Act.put, List.setIfInBounds_toArray, List.set_cons_zero, List.set_cons_succ, i64_w, i32_w]
                        rfl
                      refine pure_ (i := 8) (N := some 83) (v := ?_) (a' := ?_) (bm 13 511) rfl rfl (by kernel_rfl) (fun _ _ _ h => h) (Or.inl ⟨by rfl, ?_⟩) ?_ ?_
                      rotate_left
                      · intro w'
                        go_simp
                        with_reducible rfl
                      rotate_left
                      · simp only [Act.put, List.setIfInBounds_toArray, List.set_cons_zero, List.set_cons_succ, i64_w, i32_w]
                        rfl
                      refine take_ (i := 9) (N := some 84) (v := ?_) (a' := ?_) (bm 13 1023) rfl rfl (by kernel_rfl) (fun _ _ _ h => h) (Or.inl ⟨by rfl, ?_⟩) hHeld ?_ ?_
                      rotate_left
                      · rintro w' ⟨s0, s1⟩
                        go_simp
                        with_reducible rfl
                      rotate_left
                      · simp only [Act.put, List.setIfInBounds_toArray, List.set_cons_zero, List.set_cons_succ, i64_w, i32_w]
                        rfl
                      refine pure_ (i := 10) (N := some 85) (v := ?_) (a' := ?_) (bm 13 2047) rfl rfl (by kernel_rfl) (fun _ _ _ h => h) (Or.inl ⟨by rfl, ?_⟩) ?_ ?_
                      rotate_left
                      · intro w'
                        go_simp
                        with_reducible rfl
                      rotate_left
                      · simp only [Act.put, List.setIfInBounds_toArray, List.set_cons_zero, List.set_cons_succ, i64_w, i32_w]
                        rfl
                      refine pure_ (i := 11) (N := some 86) (v := ?_) (a' := ?_) (bm 13 4095) rfl rfl (by kernel_rfl) (fun _ _ _ h => h) (Or.inl ⟨by rfl, ?_⟩) ?_ ?_
                      rotate_left
                      · intro w'
                        go_simp
                        with_reducible rfl
                      rotate_left
                      · simp only [Act.put, List.setIfInBounds_toArray, List.set_cons_zero, List.set_cons_succ, i64_w, i32_w]
                        rfl
                      refine pure_ (i := 12) (N := some 13) (v := ?_) (a' := ?_) (bm 13 8191) rfl rfl (by kernel_rfl) (fun _ _ _ h => h) (Or.inl ⟨by rfl, ?_⟩) ?_ ?_
                      rotate_left
                      · intro w'
                        go_simp
                        with_reducible rfl
                      rotate_left
                      · simp only [Act.put, List.setIfInBounds_toArray, List.set_cons_zero, List.set_cons_succ, i64_w, i32_w]
                        rfl
                      refine done_ (by kernel_rfl) ?_
                      clear hHeld
                      go_wp2
                      go_roundw
                      case rel => exact ⟨j + 1, by omega, by go_num, by rw [HSTEP.out, ← Bool.and_assoc, HS.out, Bool.true_and, ← bne_dec]; simp only [List.getD_eq_getElem?_getD], Lib.hid (below_drew HV.out)⟩
                      case measure => simp [intOf]; omega
                  · obtain rfl : j = k := by omega
                    have hji : ¬ (j : Int) < (j : Int) := by omega
                    have hsv : (i0 && decide (∀ j', j' < j → l.getD j' 0 ≠ b)) = false := HI0.out
                    rw [hsv]
                    clear hsv
                    have hwv := HCL.out wr (HBK5.out.2.1.trans (HV.out.mono HBK5.out.2.1.size)) j hlt
                    rw [HB.out] at hwv
                    have HBK6 := Lib.hid (HBK5.out.below HV.out)
                    go_wp2
                    go_roundw
                    case rel => exact ⟨j + 1, lj, by omega, by go_num, by rw [HLJ.out], by rw [HLJ.out], Lib.hid ⟨HMK'.out, HBK6.out⟩⟩
                    case measure => simp [intOf]; omega
              · have hb0 : ¬ b = 0 := by omega
                have hM1 : maySet gr i d n p li ld b 0 false = false := by rw [M1.out, hisv, decide_eq_false hb0]; rfl
                have hli' : (if maySet gr i d n p li ld b 0 false = true then newI n p li b false else li) = li := by rw [hM1]; rfl
                have tb : decide (b ≥ 1) = false := decide_eq_false (by omega)
                have tb' : decide (1 ≤ b) = false := decide_eq_false (by omega)
                have tN0 : (b == 0) = false := by simpa using hb0
                obtain ⟨lj, HLJ⟩ : ∃ lj, Hid (li = lj) := ⟨_, Lib.hid rfl⟩
                have hli2 : (if maySet gr i d n p li ld b 0 false = true then newI n p li b false else li) = lj := hli'.trans HLJ.out
                clear hli'
                have hli' := hli2
                clear hli2
                have hmk' := M2.out
                rw [hli'] at hmk'
                have HMK' := Lib.hid hmk'
                have HLI' := Lib.hid hli'
                have HM1 := Lib.hid hM1
                clear hmk' hli' hM1 M1 M2 M3 M4
                go_wp2_with (first | (go_at_call 17; refine (giveA b 0 HA.out (fun j hj => hj.2) HBK.out.2.2.2).mono ?_; rintro e w5 hs; have he := hs.1; rw [HM1.out] at he; subst he; have hA5 := hs.2.1; rw [HLI'.out] at hA5; have HBK5 := Lib.hid (HBK.out.next hA5 hs.2.2); clear hs hA5))
                refine start_ (n := 15) (S := fun w' => w'.cell? (ad.add k) = some (.int .i64 b)) (ds := []) #[false, false, false, false, false, false, false, false, false, false, false, false, false, false, false] (by kernel_rfl) rfl rfl (by have := HCL.out _ HBK5.out.2.1 k hlt; rw [HB.out] at this; exact this) (fun hHeld => ?_)
                refine pure_ (i := 0) (N := some 56) (v := ?_) (a' := ?_) (bm 15 1) rfl rfl (by kernel_rfl) (fun _ _ _ h => h) (Or.inl ⟨by rfl, ?_⟩) ?_ ?_
                rotate_left
                · intro w'
                  go_simp
                  with_reducible rfl
                rotate_left
                · simp only [Act.put, List.setIfInBounds_toArray, List.set_cons_zero, List.set_cons_succ, i64_w, i32_w]
                  rfl
                refine pure_ (i := 1) (N := some 57) (v := ?_) (a' := ?_) (bm 15 3) rfl rfl (by kernel_rfl) (fun _ _ _ h => h) (Or.inl ⟨by rfl, ?_⟩) ?_ ?_
                rotate_left
                · intro w'
                  go_simp
                  with_reducible rfl
                rotate_left
                · simp only [Act.put, List.setIfInBounds_toArray, List.set_cons_zero, List.set_cons_succ, i64_w, i32_w]
                  rfl
                refine pure_ (i := 2) (N := some 58) (v := ?_) (a' := ?_) (bm 15 7) rfl rfl (by kernel_rfl) (fun _ _ _ h => h) (Or.inl ⟨by rfl, ?_⟩) ?_ ?_
                rotate_left
                · intro w'
                  go_simp
                  with_reducible rfl
                rotate_left
                · simp only [Act.put, List.setIfInBounds_toArray, List.set_cons_zero, List.set_cons_succ, i64_w, i32_w]
                  rfl
                refine take_ (i := 3) (N := some 59) (v := ?_) (a' := ?_) (bm 15 15) rfl rfl (by kernel_rfl) (fun _ _ _ h => h) (Or.inl ⟨by rfl, ?_⟩) hHeld ?_ ?_
                rotate_left
                · rintro w' s0
                  go_simp
                  with_reducible rfl
                rotate_left
                · simp only [Act.put, List.setIfInBounds_toArray, List.set_cons_zero, List.set_cons_succ, i64_w, i32_w]
                  rfl
                refine pure_ (i := 4) (N := some 60) (v := ?_) (a' := ?_) (bm 15 31) rfl rfl (by kernel_rfl) (fun _ _ _ h => h) (Or.inl ⟨by rfl, ?_⟩) ?_ ?_
                rotate_left
                · intro w'
                  go_simp
                  with_reducible rfl
                rotate_left
                · simp only [Act.put, List.setIfInBounds_toArray, List.set_cons_zero, List.set_cons_succ, i64_w, i32_w]
                  rfl
                refine pure_ (i := 5) (N := some 61) (v := ?_) (a' := ?_) (bm 15 63) rfl rfl (by kernel_rfl) (fun _ _ _ h => h) (Or.inl ⟨by rfl, ?_⟩) ?_ ?_
                rotate_left
                · intro w'
                  go_simp
                  with_reducible rfl
                rotate_left
                · simp only [Act.put, List.setIfInBounds_toArray, List.set_cons_zero, List.set_cons_succ, i64_w, i32_w]
                  rfl
                refine pure_ (i := 6) (N := some 62) (v := undef) (a' := ?_) (bm 15 127) rfl rfl (by kernel_rfl) (fun _ _ _ h => h) (Or.inr ⟨by rfl, rfl⟩) ?_ ?_
                rotate_left
                · simp only [Act.put, List.setIfInBounds_toArray, List.set_cons_zero, List.set_cons_succ, i64_w, i32_w]
                  rfl
                refine pure_ (i := 7) (N := some 63) (v := undef) (a' := ?_) (bm 15 255) rfl rfl (by kernel_rfl) (fun _ _ _ h => h) (Or.inr ⟨by rfl, rfl⟩) ?_ ?_
                rotate_left
                · simp only [Act.put, List.setIfInBounds_toArray, List.set_cons_zero, List.set_cons_succ, i64_w, i32_w]
                  rfl
                refine pure_ (i := 8) (N := some 64) (v := undef) (a' := ?_) (bm 15 511) rfl rfl (by kernel_rfl) (fun _ _ _ h => h) (Or.inr ⟨by rfl, rfl⟩) ?_ ?_
                rotate_left
                · simp only [Act.put, List.setIfInBounds_toArray, List.set_cons_zero, List.set_cons_succ, i64_w, i32_w]
                  rfl
                refine pure_ (i := 9) (N := some 65) (v := undef) (a' := ?_) (bm 15 1023) rfl rfl (by kernel_rfl) (fun _ _ _ h => h) (Or.inr ⟨by rfl, rfl⟩) ?_ ?_
                rotate_left
                · simp only [Act.put, List.setIfInBounds_toArray, List.set_cons_zero, List.set_cons_succ, i64_w, i32_w]
                  rfl
                refine pure_ (i := 10) (N := some 66) (v := undef) (a' := ?_) (bm 15 2047) rfl rfl (by kernel_rfl) (fun _ _ _ h => h) (Or.inr ⟨by rfl, rfl⟩) ?_ ?_
                rotate_left
                · simp only [Act.put, List.setIfInBounds_toArray, List.set_cons_zero, List.set_cons_succ, i64_w, i32_w]
                  rfl
                refine pure_ (i := 11) (N := some 67) (v := undef) (a' := ?_) (bm 15 4095) rfl rfl (by kernel_rfl) (fun _ _ _ h => h) (Or.inr ⟨by rfl, rfl⟩) ?_ ?_
                rotate_left
                · simp only [Act.put, List.setIfInBounds_toArray, List.set_cons_zero, List.set_cons_succ, i64_w, i32_w]
                  rfl
                refine pure_ (i := 12) (N := some 68) (v := undef) (a' := ?_) (bm 15 8191) rfl rfl (by kernel_rfl) (fun _ _ _ h => h) (Or.inr ⟨by rfl, rfl⟩) ?_ ?_
                rotate_left
                · simp only [Act.put, List.setIfInBounds_toArray, List.set_cons_zero, List.set_cons_succ, i64_w, i32_w]
                  rfl
                refine pure_ (i := 13) (N := some 69) (v := ?_) (a' := ?_) (bm 15 16383) rfl rfl (by kernel_rfl) (fun _ _ _ h => h) (Or.inl ⟨by rfl, ?_⟩) ?_ ?_
                rotate_left
                · intro w'
                  go_simp
                  with_reducible rfl
                rotate_left
                · simp only [Act.put, List.setIfInBounds_toArray, List.set_cons_zero, List.set_cons_succ, i64_w, i32_w]
                  rfl
                refine pure_ (i := 14) (N := some 13) (v := ?_) (a' := ?_) (bm 15 32767) rfl rfl (by kernel_rfl) (fun _ _ _ h => h) (Or.inl ⟨by rfl, ?_⟩) ?_ ?_
                rotate_left
                · intro w'
                  go_simp
                  with_reducible rfl
                rotate_left
                · simp only [Act.put, List.setIfInBounds_toArray, List.set_cons_zero, List.set_cons_succ, i64_w, i32_w]
                  rfl
                refine done_ (by kernel_rfl) ?_
                have HB6 : Hid (Below w5.heap.size w5 w5.drew) := Lib.hid (below_drew (Below.refl _ w5))
                generalize w5.drew = w6 at HB6 ⊢
                clear hHeld
                go_wp2
                clear z0 z1 z2
                go_loopw [13, 14] (fun s jv wq => ∃ j : Nat, j ≤ k ∧ jv = .int .i64 (j : Int) ∧ s = .bool (false && decide (∀ j', j' < j → l.getD j' 0 ≠ b)) ∧ Hid (Below w5.heap.size w5 wq)) (fun _ jv _ => k - (intOf jv).toNat)
                case atStart => exact ⟨0, Nat.zero_le _, rfl, by simp, HB6⟩
                case round =>
                  obtain ⟨j, hj, rfl, rfl, HV⟩ := hrel
                  by_cases hjk : j < k
                  · have hji : (j : Int) < (k : Int) := by omega
                    have hjl : (j : Int) < (l.length : Int) := by omega
                    have hj0 : (0 : Int) ≤ (j : Int) := by omega
                    have hstep := decide_lt_succ (P := fun j' => l.getD j' 0 ≠ b) j
                    have HSTEP := Lib.hid hstep
                    clear hstep
                    obtain ⟨s, hs⟩ : ∃ s : Bool, (false && decide (∀ j', j' < j → l.getD j' 0 ≠ b)) = s := ⟨_, rfl⟩
                    have HS := Lib.hid hs
                    rw [hs]
                    clear hs
                    cases s with
                    | false =>
                      go_wp2
                      refine start_ (n := 13) (S := fun _ => True) (ds := []) #[false, false, false, false, false, false, false, false, false, false, false, false, false] (by kernel_rfl) rfl rfl trivial (fun hHeld => ?_)
                      refine pure_ (i := 0) (N := some 75) (v := ?_) (a' := ?_) (bm 13 1) rfl rfl (by kernel_rfl) (fun _ _ _ h => h) (Or.inl ⟨by rfl, ?_⟩) ?_ ?_
                      rotate_left
                      · intro w'
                        go_simp
                        with_reducible rfl
                      rotate_left
                      · simp only [Act.put, List.setIfInBounds_toArray, List.set_cons_zero, List.set_cons_succ, i64_w, i32_w]
                        rfl
                      refine pure_ (i := 1) (N := some 76) (v := ?_) (a' := ?_) (bm 13 3) rfl rfl (by kernel_rfl) (fun _ _ _ h => h) (Or.inl ⟨by rfl, ?_⟩) ?_ ?_
                      rotate_left
                      · intro w'
                        go_simp
                        with_reducible rfl
                      rotate_left
                      · simp only [Act.put, List.setIfInBounds_toArray, List.set_cons_zero, List.set_cons_succ, i64_w, i32_w]
                        rfl
                      refine pure_ (i := 2) (N := some 77) (v := undef) (a' := ?_) (bm 13 7) rfl rfl (by kernel_rfl) (fun _ _ _ h => h) (Or.inr ⟨by rfl, rfl⟩) ?_ ?_
                      rotate_left
                      · simp only [Act.put, List.setIfInBounds_toArray, List.set_cons_zero, List.set_cons_succ, i64_w, i32_w]
                        rfl
                      refine pure_ (i := 3) (N := some 78) (v := undef) (a' := ?_) (bm 13 15) rfl rfl (by kernel_rfl) (fun _ _ _ h => h) (Or.inr ⟨by rfl, rfl⟩) ?_ ?_
                      rotate_left
                      · simp only [Act.put, List.setIfInBounds_toArray, List.set_cons_zero, List.set_cons_succ, i64_w, i32_w]
                        rfl
                      refine pure_ (i := 4) (N := some 79) (v := undef) (a' := ?_) (bm 13 31) rfl rfl (by kernel_rfl) (fun _ _ _ h => h) (Or.inr ⟨by rfl, rfl⟩) ?_ ?_
                      rotate_left
                      · simp only [Act.put, List.setIfInBounds_toArray, List.set_cons_zero, List.set_cons_succ, i64_w, i32_w]
                        rfl
                      refine pure_ (i := 5) (N := some 80) (v := undef) (a' := ?_) (bm 13 63) rfl rfl (by kernel_rfl) (fun _ _ _ h => h) (Or.inr ⟨by rfl, rfl⟩) ?_ ?_
                      rotate_left
                      · simp only [Act.put, List.setIfInBounds_toArray, List.set_cons_zero, List.set_cons_succ, i64_w, i32_w]
                        rfl
                      refine pure_ (i := 6) (N := some 81) (v := undef) (a' := ?_) (bm 13 127) rfl rfl (by kernel_rfl) (fun _ _ _ h => h) (Or.inr ⟨by rfl, rfl⟩) ?_ ?_
                      rotate_left
                      · simp only [Act.put, List.setIfInBounds_toArray, List.set_cons_zero, List.set_cons_succ, i64_w, i32_w]
                        rfl
                      refine pure_ (i := 7) (N := some 82) (v := undef) (a' := ?_) (bm 13 255) rfl rfl (by kernel_rfl) (fun _ _ _ h => h) (Or.inr ⟨by rfl, rfl⟩) ?_ ?_
                      rotate_left
                      · simp only [Act.put, List.setIfInBounds_toArray, List.set_cons_zero, List.set_cons_succ, i64_w, i32_w]
                        rfl
                      refine pure_ (i := 8) (N := some 83) (v := undef) (a' := ?_) (bm 13 511) rfl rfl (by kernel_rfl) (fun _ _ _ h => h) (Or.inr ⟨by rfl, rfl⟩) ?_ ?_
                      rotate_left
                      · simp only [Act.put, List.setIfInBounds_toArray, List.set_cons_zero, List.set_cons_succ, i64_w, i32_w]
                        rfl
                      refine pure_ (i := 9) (N := some 84) (v := undef) (a' := ?_) (bm 13 1023) rfl rfl (by kernel_rfl) (fun _ _ _ h => h) (Or.inr ⟨by rfl, rfl⟩) ?_ ?_
                      rotate_left
                      · simp only [Act.put, List.setIfInBounds_toArray, List.set_cons_zero, List.set_cons_succ, i64_w, i32_w]
                        rfl
                      refine pure_ (i := 10) (N := some 85) (v := undef) (a' := ?_) (bm 13 2047) rfl rfl (by kernel_rfl) (fun _ _ _ h => h) (Or.inr ⟨by rfl, rfl⟩) ?_ ?_
                      rotate_left
                      · simp only [Act.put, List.setIfInBounds_toArray, List.set_cons_zero, List.set_cons_succ, i64_w, i32_w]
                        rfl
                      refine pure_ (i := 11) (N := some 86) (v := ?_) (a' := ?_) (bm 13 4095) rfl rfl (by kernel_rfl) (fun _ _ _ h => h) (Or.inl ⟨by rfl, ?_⟩) ?_ ?_
                      rotate_left
                      · intro w'
                        go_simp
                        with_reducible rfl
                      rotate_left
                      · simp only [Act.put, List.setIfInBounds_toArray, List.set_cons_zero, List.set_cons_succ, i64_w, i32_w]
                        rfl
                      refine pure_ (i := 12) (N := some 13) (v := ?_) (a' := ?_) (bm 13 8191) rfl rfl (by kernel_rfl) (fun _ _ _ h => h) (Or.inl ⟨by rfl, ?_⟩) ?_ ?_
                      rotate_left
                      · intro w'
                        go_simp
                        with_reducible rfl
                      rotate_left
                      · simp only [Act.put, List.setIfInBounds_toArray, List.set_cons_zero, List.set_cons_succ, i64_w, i32_w]
                        rfl
                      refine done_ (by kernel_rfl) ?_
                      clear hHeld
                      go_wp2
                      go_roundw
                      case rel => exact ⟨j + 1, by omega, by go_num, by rw [HSTEP.out, ← Bool.and_assoc, HS.out]; rfl, Lib.hid (below_drew HV.out)⟩
                      case measure => simp [intOf]; omega
                    | true =>
                      go_wp2
                      refine start_ (n := 13) (S := fun w' => w'.cell? (ad.add j) = some (.int .i64 (l.getD j 0)) ∧ w'.cell? (ad.add k) = some (.int .i64 b)) (ds := []) #[false, false, false, false, false, false, false, false, false, false, false, false, false] (by kernel_rfl) rfl rfl ⟨HCL.out wr (HBK5.out.2.1.trans (HV.out.mono HBK5.out.2.1.size)) j (by omega), by have := HCL.out wr (HBK5.out.2.1.trans (HV.out.mono HBK5.out.2.1.size)) k hlt; rw [HB.out] at this; exact this⟩ (fun hHeld => ?_)
                      refine pure_ (i := 0) (N := some 75) (v := ?_) (a' := ?_) (bm 13 1) rfl rfl (by kernel_rfl) (fun _ _ _ h => h) (Or.inl ⟨by rfl, ?_⟩) ?_ ?_
                      rotate_left
                      · intro w'
                        go_simp
                        with_reducible rfl
                      rotate_left
                      · simp only [Act.put, List.setIfInBounds_toArray, List.set_cons_zero, List.set_cons_succ, i64_w, i32_w]
                        rfl
                      refine pure_ (i := 1) (N := some 76) (v := ?_) (a' := ?_) (bm 13 3) rfl rfl (by kernel_rfl) (fun _ _ _ h => h) (Or.inl ⟨by rfl, ?_⟩) ?_ ?_
                      rotate_left
                      · intro w'
                        go_simp
                        with_reducible rfl
                      rotate_left
                      · simp only [Act.put, List.setIfInBounds_toArray, List.set_cons_zero, List.set_cons_succ, i64_w, i32_w]
                        rfl
                      refine pure_ (i := 2) (N := some 77) (v := ?_) (a' := ?_) (bm 13 7) rfl rfl (by kernel_rfl) (fun _ _ _ h => h) (Or.inl ⟨by rfl, ?_⟩) ?_ ?_
                      rotate_left
                      · intro w'
                        go_simp
                        with_reducible rfl
                      rotate_left
                      · simp only [Act.put, List.setIfInBounds_toArray, List.set_cons_zero, List.set_cons_succ, i64_w, i32_w]
                        rfl
                      refine pure_ (i := 3) (N := some 78) (v := ?_) (a' := ?_) (bm 13 15) rfl rfl (by kernel_rfl) (fun _ _ _ h => h) (Or.inl ⟨by rfl, ?_⟩) ?_ ?_
                      rotate_left
                      · intro w'
                        go_simp
                        with_reducible rfl
                      rotate_left
                      · simp only [Act.put, List.setIfInBounds_toArray, List.set_cons_zero, List.set_cons_succ, i64_w, i32_w]
                        rfl
                      refine pure_ (i := 4) (N := some 79) (v := ?_) (a' := ?_) (bm 13 31) rfl rfl (by kernel_rfl) (fun _ _ _ h => h) (Or.inl ⟨by rfl, ?_⟩) ?_ ?_
                      rotate_left
                      · intro w'
                        go_simp
                        with_reducible rfl
                      rotate_left
                      · simp only [Act.put, List.setIfInBounds_toArray, List.set_cons_zero, List.set_cons_succ, i64_w, i32_w]
                        rfl
                      refine take_ (i := 5) (N := some 80) (v := ?_) (a' := ?_) (bm 13 63) rfl rfl (by kernel_rfl) (fun _ _ _ h => h) (Or.inl ⟨by rfl, ?_⟩) hHeld ?_ ?_
                      rotate_left
                      · rintro w' ⟨s0, s1⟩
                        go_simp
                        with_reducible rfl
                      rotate_left
                      · simp only [Act.put, List.setIfInBounds_toArray, List.set_cons_zero, List.set_cons_succ, i64_w, i32_w]
                        rfl
                      refine pure_ (i := 6) (N := some 81) (v := ?_) (a' := ?_) (bm 13 127) rfl rfl (by kernel_rfl) (fun _ _ _ h => h) (Or.inl ⟨by rfl, ?_⟩) ?_ ?_
                      rotate_left
                      · intro w'
                        go_simp
                        with_reducible rfl
                      rotate_left
                      · simp only [Act.put, List.setIfInBounds_toArray, List.set_cons_zero, List.set_cons_succ, i64_w, i32_w]
                        rfl
                      refine pure_ (i := 7) (N := some 82) (v := ?_) (a' := ?_) (bm 13 255) rfl rfl (by kernel_rfl) (fun _ _ _ h => h) (Or.inl ⟨by rfl, ?_⟩) ?_ ?_
                      rotate_left
                      · intro w'
                        go_simp
                        with_reducible rfl
                      rotate_left
                      · simp only [Act.put, List.setIfInBounds_toArray, List.set_cons_zero, List.set_cons_succ, i64_w, i32_w]
                        rfl
                      refine pure_ (i := 8) (N := some 83) (v := ?_) (a' := ?_) (bm 13 511) rfl rfl (by kernel_rfl) (fun _ _ _ h => h) (Or.inl ⟨by rfl, ?_⟩) ?_ ?_
                      rotate_left
                      · intro w'
                        go_simp
                        with_reducible rfl
                      rotate_left
                      · simp only [Act.put, List.setIfInBounds_toArray, List.set_cons_zero, List.set_cons_succ, i64_w, i32_w]
                        rfl
                      refine take_ (i := 9) (N := some 84) (v := ?_) (a' := ?_) (bm 13 1023) rfl rfl (by kernel_rfl) (fun _ _ _ h => h) (Or.inl ⟨by rfl, ?_⟩) hHeld ?_ ?_
                      rotate_left
                      · rintro w' ⟨s0, s1⟩
                        go_simp
                        with_reducible rfl
                      rotate_left
                      · simp only [Act.put, List.setIfInBounds_toArray, List.set_cons_zero, List.set_cons_succ, i64_w, i32_w]
                        rfl
                      refine pure_ (i := 10) (N := some 85) (v := ?_) (a' := ?_) (bm 13 2047) rfl rfl (by kernel_rfl) (fun _ _ _ h => h) (Or.inl ⟨by rfl, ?_⟩) ?_ ?_
                      rotate_left
                      · intro w'
                        go_simp
                        with_reducible rfl
                      rotate_left
                      · simp only [Act.put, List.setIfInBounds_toArray, List.set_cons_zero, List.set_cons_succ, i64_w, i32_w]
                        rfl
                      refine pure_ (i := 11) (N := some 86) (v := ?_) (a' := ?_) (bm 13 4095) rfl rfl (by kernel_rfl) (fun _ _ _ h => h) (Or.inl ⟨by rfl, ?_⟩) ?_ ?_
                      rotate_left
                      · intro w'
                        go_simp
                        with_reducible rfl
                      rotate_left
                      · simp only [Act.put, List.setIfInBounds_toArray, List.set_cons_zero, List.set_cons_succ, i64_w, i32_w]
                        rfl
                      refine pure_ (i := 12) (N := some 13) (v := ?_) (a' := ?_) (bm 13 8191) rfl rfl (by kernel_rfl) (fun _ _ _ h => h) (Or.inl ⟨by rfl, ?_⟩) ?_ ?_
                      rotate_left
                      · intro w'
                        go_simp
                        with_reducible rfl
                      rotate_left
                      · simp only [Act.put, List.setIfInBounds_toArray, List.set_cons_zero, List.set_cons_succ, i64_w, i32_w]
                        rfl
                      refine done_ (by kernel_rfl) ?_
                      clear hHeld
                      go_wp2
                      go_roundw
                      case rel => exact ⟨j + 1, by omega, by go_num, by rw [HSTEP.out, ← Bool.and_assoc, HS.out, Bool.true_and, ← bne_dec]; simp only [List.getD_eq_getElem?_getD], Lib.hid (below_drew HV.out)⟩
                      case measure => simp [intOf]; omega
                  · obtain rfl : j = k := by omega
                    have hji : ¬ (j : Int) < (j : Int) := by omega
                    have hsv : (false && decide (∀ j', j' < j → l.getD j' 0 ≠ b)) = false := rfl
                    rw [hsv]
                    clear hsv
                    have hwv := HCL.out wr (HBK5.out.2.1.trans (HV.out.mono HBK5.out.2.1.size)) j hlt
                    rw [HB.out] at hwv
                    have HBK6 := Lib.hid (HBK5.out.below HV.out)
                    go_wp2
                    go_roundw
                    case rel => exact ⟨j + 1, lj, by omega, by go_num, by rw [HLJ.out], by rw [HLJ.out], Lib.hid ⟨HMK'.out, HBK6.out⟩⟩
                    case measure => simp [intOf]; omega
        · obtain rfl : k = l.length := by omega
          have hki : ¬ (l.length : Int) < (l.length : Int) := by omega
          have hsome : (nextA li p n 0).isSome = decide (((freeN li : Nat) : Int) > 0) := by
            rcases next0_spec li p n with ⟨h1, h2⟩ | ⟨m, hm, h1, h2, _⟩
            · have h3 : freeN li = 0 := by
                unfold freeN
                rw [List.countP_eq_zero]
                intro b hb
                obtain ⟨m, hm, rfl⟩ := List.getElem_of_mem hb
                have := h2 m (by rw [← HLN.out]; exact hm)
                rw [List.getD_eq_getElem?_getD, List.getElem?_eq_getElem hm] at this
                simpa using this
              rw [h1, h3]
              rfl
            · have h3 : 0 < freeN li := by
                unfold freeN
                rw [List.countP_pos_iff]
                have hml : m < li.length := by rw [HLN.out]; exact hm
                refine ⟨li[m], List.getElem_mem hml, ?_⟩
                rw [List.getD_eq_getElem?_getD, List.getElem?_eq_getElem hml] at h2
                simpa using h2
              rw [h1, decide_eq_true (by omega)]
              rfl
          have HSOME := Lib.hid hsome
          clear hsome
          go_wp2_with (first | (go_at_call 16; refine (freeA HA.out).mono ?_; rintro e w5 ⟨rfl, hb⟩; have HBK5 := Lib.hid (HBK.out.below hb); clear hb) | (go_at_call 9; obtain ⟨ld5, hA5⟩ := HBK5.out.1; refine (inodeA 0 hA5 (fun j hj => hj.2) HBK5.out.2.2.2).mono ?_; rintro e w6 ⟨rfl, hA6, ho⟩; rw [HSOME.out]; have HBK6 := Lib.hid (HBK5.out.next hA6 ho); clear hA6 ho hA5))
          go_ret
          exact ⟨by simp, HXW.out.trans (HBK6.out.2.1.mono HXW.out.size)⟩

set_option maxRecDepth 100000 in
set_option maxHeartbeats 2000000 in
theorem back_other (gr i d : Int) (A : Option Addr) (c : Nat) (l : List Int) (w : World) (h : ¬ Fine gr i d ∨ 20 < l.length) :
    Calls Try.prog 5 #[.agg #[.int .i64 gr, .int .i64 i, .int .i64 d], .slice A l.length c] w fun e w' => e = .returned (.bool true) ∧ Below w.heap.size w w' := by
  obtain ⟨wx, hwx⟩ : ∃ wx, w.alloc (.cells #[.int .i64 gr, .int .i64 i, .int .i64 d] 24) = wx := ⟨_, rfl⟩
  have hx0 : wx.heap[w.heap.size]? = some (.cells #[.int .i64 gr, .int .i64 i, .int .i64 d] 24 (0, 0)) := by rw [← hwx]; exact blk_new w _
  have HXW : Hid (Below w.heap.size w wx) := Lib.hid (by rw [← hwx]; exact (Below.refl _ w).alloc (Nat.le_refl _) _)
  have y0 : wx.cell? ⟨w.heap.size, 0, none⟩ = some (.int .i64 gr) := (blk_cell hx0 0).trans rfl
  have y1 : wx.cell? ⟨w.heap.size, 1, none⟩ = some (.int .i64 i) := (blk_cell hx0 1).trans rfl
  have y2 : wx.cell? ⟨w.heap.size, 2, none⟩ = some (.int .i64 d) := (blk_cell hx0 2).trans rfl
  have Y0 := Lib.hid y0
  have Y1 := Lib.hid y1
  have Y2 := Lib.hid y2
  clear hx0 y0 y1 y2
  by_cases hf : Fine gr i d
  · have hl : 20 < l.length := h.resolve_left (fun h => h hf)
    have HGD := Lib.hid (good_fine hf)
    have hll : decide ((l.length : Int) > 20) = true := decide_eq_true (by omega)
    have hll2 : 20 < (l.length : Int) := by omega
    clear h hf hl
    go_enter Try.func5, Try.ntmps5
    go_wp2_with (first | (go_at_call 7; refine (alive_calls _).mono ?_; rintro e w1 ⟨rfl, hb⟩; have HB1 := Lib.hid hb; have z0 := pw_cell_below hb Y0.out; have z1 := pw_cell_below hb Y1.out; have z2 := pw_cell_below hb Y2.out; clear hb) | (go_at_call 12; refine (lockgateref1_Good.calls gr i d _ _ HGD.out).mono ?_; rintro e w2 ⟨rfl, hb⟩; have HB2 := Lib.hid (HB1.out.trans (hb.mono HB1.out.size)); clear hb))
    go_ret
    exact ⟨rfl, HXW.out.trans (HB2.out.mono HXW.out.size)⟩
  · have HGD := Lib.hid (good_not hf)
    clear h hf
    go_enter Try.func5, Try.ntmps5
    go_wp2_with (first | (go_at_call 7; refine (alive_calls _).mono ?_; rintro e w1 ⟨rfl, hb⟩; have HB1 := Lib.hid hb; have z0 := pw_cell_below hb Y0.out; have z1 := pw_cell_below hb Y1.out; have z2 := pw_cell_below hb Y2.out; clear hb) | (go_at_call 12; refine (lockgateref1_Good.calls gr i d _ _ HGD.out).mono ?_; rintro e w2 ⟨rfl, hb⟩; have HB2 := Lib.hid (HB1.out.trans (hb.mono HB1.out.size)); clear hb))
    go_ret
    exact ⟨rfl, HXW.out.trans (HB2.out.mono HXW.out.size)⟩
theorem back_row (gr i d : Int) (A : Option Addr) (c : Nat) (l : List Int) (w : World) (hC : Kd.C (Kd.int .i64) w A l.length l) (hc : l.length ≤ c) (_ : (Lit.int .i64 gr).wf = true) (_ : (Lit.int .i64 i).wf = true) (_ : (Lit.int .i64 d).wf = true) (_ : l.length ≤ maxLen ∧ ∀ y ∈ l, (Lit.int .i64 y).wf = true) :
    Calls Try.prog 5 #[.agg #[.int .i64 gr, .int .i64 i, .int .i64 d], .slice A l.length c] w fun e w' => e = .returned (.bool true) ∧ Below w.heap.size w w' := by
  by_cases h : Fine gr i d ∧ l.length ≤ 20
  · obtain ⟨h1, h2⟩ := h
    obtain ⟨f1, f2, f3, f4, f5, f6⟩ := h1
    exact back_main gr i d gr.toNat (i * 16).toNat d.toNat A c l w ⟨f1, f2, f3, f4, f5, f6⟩ (by omega) (by omega) (by omega) hC hc h2
  · refine back_other gr i d A c l w ?_
    by_cases hf : Fine gr i d
    · exact .inr (by have : ¬ l.length ≤ 20 := fun h2 => h ⟨hf, h2⟩; omega)
    · exact .inl hf
end Go.Proofs.Ytppjeikkodjjhaa.Given
