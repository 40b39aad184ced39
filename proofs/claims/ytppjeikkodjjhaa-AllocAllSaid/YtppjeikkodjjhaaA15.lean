/- AllocAll answers true. -/
import Derived.Test.YtppjeikkodjjhaaG1b
import Derived.Test.YtppjeikkodjjhaaA7
import Derived.Test.YtppjeikkodjjhaaA12
namespace Go.Proofs.Ytppjeikkodjjhaa.Given
open Go.RowKit Go.Shelf Go.Proofs.YtppjeikkodjjhaaW.PrintWords Go.Proofs.YtppjeikkodjjhaaW.PrintLast Go.Proofs.YtppjeikkodjjhaaW.PrintMore Go.Proofs.YtppjeikkodjjhaaBase Go.Proofs.Ytppjeikkodjjhaa.PGeo Go.Proofs.Ytppjeikkodjjhaa.PGet Go.Proofs.Ytppjeikkodjjhaa.PWith
set_option linter.unusedVariables false
set_option linter.unusedSimpArgs false

theorem freeN_take {l : List Bool} {v : Nat} (hv : v < l.length) (hf : l.getD v false = false) : freeN (l.set v true) + 1 = freeN l := by
  unfold freeN
  rw [List.countP_set hv]
  have h : l[v] = false := by rw [List.getD_eq_getElem?_getD, List.getElem?_eq_getElem hv] at hf; simpa using hf
  have hp : 0 < l.countP (fun b => !b) := by
    rw [List.countP_pos_iff]
    exact ⟨l[v], List.getElem_mem hv, by rw [h]; rfl⟩
  simp [h]
  omega
theorem next_exists {l : List Bool} {p n : Nat} (from0 : Int) (hl : l.length = n * p) (hf : 0 < freeN l) : ∃ v, nextA l p n from0 = some v ∧ v < n * p ∧ l.getD v false = false := by
  cases h : nextA l p n from0 with
  | none =>
    have h2 := (nextA_none_iff hl).1 h
    unfold freeN at hf
    rw [List.countP_pos_iff] at hf
    obtain ⟨b, hb, hb2⟩ := hf
    obtain ⟨m, hm, rfl⟩ := List.getElem_of_mem hb
    have := h2 m (by omega)
    rw [List.getD_eq_getElem?_getD, List.getElem?_eq_getElem hm] at this
    have h3 : l[m] = true := by simpa using this
    rw [h3] at hb2
    cases hb2
  | some v => exact ⟨v, rfl, nextA_free h⟩
theorem next_none_of {l : List Bool} {p n : Nat} (from0 : Int) (hl : l.length = n * p) (hf : freeN l = 0) : nextA l p n from0 = none := by
  rw [nextA_none_iff hl]
  intro k hk
  unfold freeN at hf
  rw [List.countP_eq_zero] at hf
  have := hf (l[k]'(by omega)) (List.getElem_mem _)
  rw [List.getD_eq_getElem?_getD, List.getElem?_eq_getElem (by omega)]
  simpa using this
theorem freeN_false (m : Nat) : freeN (List.replicate m false) = m := by
  unfold freeN
  rw [List.countP_replicate]
  rfl
/-- the place of a data block that a data block's block is -/
theorem dOf_data {gr i d : Int} {n q : Nat} (h : Fine gr i d) (hn : gr = (n : Int)) (hq : d = (q : Int)) {v : Nat} (hv : v < n * q) : dOf gr i d (dataAt i q v) = ((v : Int), true) := by
  have hf := h
  obtain ⟨h1, h2, h3, h4, h5, h6⟩ := h
  have hq0 : 0 < q := by omega
  have hvq : v / q < n := (Nat.div_lt_iff_lt_mul hq0).2 hv
  have hmod := Nat.mod_lt v hq0
  have hdm : q * (v / q) + v % q = v := Nat.div_add_mod v q
  unfold dataAt
  obtain ⟨a, ha⟩ : ∃ a, v / q = a := ⟨_, rfl⟩
  obtain ⟨r, hr⟩ : ∃ b, v % q = b := ⟨_, rfl⟩
  rw [ha, hr] at hdm
  rw [ha] at hvq ⊢
  rw [hr] at hmod ⊢
  obtain ⟨s, hs⟩ : ∃ s : Int, 1 + i + (q : Int) = s := ⟨_, rfl⟩
  have hs0 : 0 < s := by omega
  have ht0 : 0 ≤ 1 + i + (r : Int) := by omega
  have hts : 1 + i + (r : Int) < s := by omega
  have m0 : 0 ≤ (a : Int) * s := Int.mul_nonneg (by omega) (by omega)
  obtain ⟨b, hb⟩ : ∃ b : Nat, (b : Int) = (1 + i + (r : Int)) + s * (a : Int) := ⟨((1 + i + (r : Int)) + s * (a : Int)).toNat, by rw [Int.mul_comm s]; omega⟩
  have e := dOf_fine hf hn hq b
  rw [hs] at e ⊢
  have hm : (b : Int) % s = 1 + i + (r : Int) := by rw [hb, Int.add_mul_emod_self_left, Int.emod_eq_of_lt ht0 hts]
  have hd : (b : Int) / s = (a : Int) := by rw [hb, Int.add_mul_ediv_left _ _ (by omega), Int.ediv_eq_zero_of_lt ht0 hts, Int.zero_add]
  have hlt : (b : Int) < (n : Int) * s := by
    have m1 : ((a : Int) + 1) * s ≤ (n : Int) * s := Int.mul_le_mul_of_nonneg_right (by omega) (by omega)
    rw [Int.add_mul, Int.one_mul] at m1
    rw [hb, Int.mul_comm s]
    omega
  rw [hm, hd, if_pos ⟨hlt, by omega⟩] at e
  have e2 : 1 + (a : Int) * s + 1 + i + (r : Int) = (b : Int) + 1 := by rw [hb, Int.mul_comm s]; omega
  rw [e2, e]
  congr 1
  have : ((q * a + r : Nat) : Int) = (v : Int) := by rw [hdm]
  rw [Int.natCast_add, Int.natCast_mul, Int.mul_comm] at this
  omega
theorem rdOf_is (gr i d block : Int) : lockgateref1_DataOf.f 1 gr i d block = some (dOf gr i d block) := by
  obtain ⟨r, h1, h2⟩ := dataOf_same gr i d block 0
  rw [dOf_is] at h1
  rw [h2, ← h1]
theorem rinodes_is {gr i d : Int} {n p : Nat} (h : Fine gr i d) (hn : gr = (n : Int)) (hp : i * 16 = (p : Int)) : lockgateref1_Inodes.f gr i d = some ((n * p : Nat) : Int) := by
  obtain ⟨r, h1, h2⟩ := inodes_same gr i d
  rw [inodes_fine h hn hp] at h1
  rw [h2, ← h1]
theorem rblocks_is {gr i d : Int} {n q : Nat} (h : Fine gr i d) (hn : gr = (n : Int)) (hq : d = (q : Int)) : lockgateref1_Blocks.f gr i d = some ((n * q : Nat) : Int) := by
  obtain ⟨h1, h2, h3, h4, h5, h6⟩ := h
  unfold lockgateref1_Blocks.f
  rw [good_fine ⟨h1, h2, h3, h4, h5, h6⟩, Option.bind_some, if_pos rfl]
  obtain ⟨m0, m1⟩ := mul_small (a := gr) (b := d) (A := 8) (B := 1000) (by omega) (by omega) (by omega) (by omega)
  rw [w64_id (by omega) (by omega), hn, hq, Int.natCast_mul]

/-! ### a row of bools in a block -/
def BR (W : World) (B : Nat) (xs : List Bool) : Prop := ∃ cs : Array Value, W.heap[B]? = some (.cells cs 4 (0, 0)) ∧ cs.toList = xs.map Value.bool
section
variable {W W1 : World} {B : Nat} {xs : List Bool}
theorem BR.lt (h : BR W B xs) : B < W.heap.size := by obtain ⟨cs, h1, _⟩ := h; exact blk_lt h1
theorem BR.cell (h : BR W B xs) {j : Nat} (hj : j < xs.length) : W.cell? ⟨B, j, none⟩ = some (.bool (xs.getD j false)) := by
  obtain ⟨cs, h1, h2⟩ := h
  rw [blk_cell h1, ← Array.getElem?_toList, h2, List.getElem?_map, List.getElem?_eq_getElem hj, List.getD_eq_getElem?_getD, List.getElem?_eq_getElem hj]
  rfl
theorem BR.frozen (h : BR W B xs) (j : Nat) : W.frozen? ⟨B, j, none⟩ = false := by obtain ⟨cs, h1, _⟩ := h; exact blk_frozen h1 j
theorem BR.set (h : BR W B xs) (j : Nat) (b : Bool) : BR (W.setCell ⟨B, j, none⟩ (.bool b)) B (xs.set j b) := by
  obtain ⟨cs, h1, h2⟩ := h
  exact ⟨_, blk_set h1 j (.bool b), by rw [Array.toList_setIfInBounds, h2, List.map_set]⟩
theorem BR.move (h : BR W B xs) (hm : W1.heap[B]? = W.heap[B]?) : BR W1 B xs := by obtain ⟨cs, h1, h2⟩ := h; exact ⟨cs, hm.trans h1, h2⟩
theorem BR.below (h : BR W B xs) (hb : Below W.heap.size W W1) : BR W1 B xs := h.move (hb.block B h.lt)
theorem BR.off {ok : Nat → Prop} (h : BR W B xs) (ho : Off ok W W1) (hn : ¬ ok B) : BR W1 B xs := h.move (ho.block B h.lt hn)
end
theorem info4 : (Try.prog.info? 4).map (fun i => (i.zero, i.size, i.bytes)) = some (some (.bool false), 1, 1) := by kernel_rfl
theorem made_bool (W : World) (m : Nat) (z : Int) (hz : z = m) (hm : m < 1000000) :
    ∃ W', (Instr.makeSlice 33 (.int .i64 z) (.int .i64 z)).run Try.prog W = .ok (.slice (some ⟨W.heap.size, 0, none⟩) m m) W' ∧ BR W' W.heap.size (List.replicate m false) ∧ Below W.heap.size W W' ∧ W'.heap.size = W.heap.size + 1 := by
  subst hz
  have h1 := print_make_int (P := Try.prog) 33 4 (.bool false) 1 Try.underlying33 info4 rfl (by decide) (m : Int) (by omega) (by omega) W
  rw [Int.toNat_natCast] at h1
  refine ⟨_, h1, ⟨_, blk_new W _, ?_⟩, below_alloc (Below.refl _ _) _, by simp⟩
  apply List.ext_getElem
  · simp [madeCells]
  · intro j h2 h3
    simp [madeCells, Nat.mod_one]
/-- the allocator with these taken, newer than N1; ex: blocks that are none of it -/
def BkE (wx : World) (N1 g : Nat) (gr i d : Int) (n p q : Nat) (ex : Nat → Prop) (li ld : List Bool) (W : World) : Prop :=
  IsAA N1 (fun j => N1 ≤ j ∧ j < W.heap.size ∧ ¬ ex j) W g gr i d n p q li ld ∧ Below wx.heap.size wx W ∧ (wx.heap.size ≤ N1 ∧ N1 ≤ W.heap.size) ∧ ∀ j, ex j → N1 ≤ j ∧ j < W.heap.size
section
variable {wx W W1 : World} {N1 g : Nat} {gr i d : Int} {n p q : Nat} {ex : Nat → Prop} {li ld li' ld' : List Bool}
theorem BkE.next (h : BkE wx N1 g gr i d n p q ex li ld W) (hA : IsAA N1 (fun k => ((N1 ≤ k ∧ k < W.heap.size ∧ ¬ ex k) ∨ W.heap.size ≤ k) ∧ k < W1.heap.size) W1 g gr i d n p q li' ld') (ho : Off (fun j => N1 ≤ j ∧ j < W.heap.size ∧ ¬ ex j) W W1) : BkE wx N1 g gr i d n p q ex li' ld' W1 := by
  obtain ⟨_, h2, h3, h4⟩ := h
  exact ⟨hA.mono (fun k hk => hk.1.elim (fun h => ⟨h.1, hk.2, h.2.2⟩) (fun h => ⟨by omega, hk.2, fun he => by have := (h4 k he).2; omega⟩)), Off.keepB h2 ho (fun k hk => by omega) h2.size, ⟨h3.1, Nat.le_trans h3.2 ho.size⟩, fun j hj => ⟨(h4 j hj).1, Nat.lt_of_lt_of_le (h4 j hj).2 ho.size⟩⟩
theorem BkE.below (h : BkE wx N1 g gr i d n p q ex li ld W) (hb : Below W.heap.size W W1) : BkE wx N1 g gr i d n p q ex li ld W1 := by
  obtain ⟨h1, h2, h3, h4⟩ := h
  exact ⟨(h1.below hb).mono (fun k hk => ⟨hk.1, Nat.lt_of_lt_of_le hk.2.1 hb.size, hk.2.2⟩), h2.trans (hb.mono h2.size), ⟨h3.1, Nat.le_trans h3.2 hb.size⟩, fun j hj => ⟨(h4 j hj).1, Nat.lt_of_lt_of_le (h4 j hj).2 hb.size⟩⟩
theorem BkE.more (h : BkE wx N1 g gr i d n p q ex li ld W) (hb : Below W.heap.size W W1) (hz : W1.heap.size = W.heap.size + 1) : BkE wx N1 g gr i d n p q (fun j => ex j ∨ j = W.heap.size) li ld W1 := by
  obtain ⟨h1, h2, h3, h4⟩ := h
  exact ⟨(h1.below hb).mono (fun k hk => ⟨hk.1, Nat.lt_of_lt_of_le hk.2.1 hb.size, fun he => he.elim hk.2.2 (fun e => by have := hk.2.1; omega)⟩), h2.trans (hb.mono h2.size), ⟨h3.1, Nat.le_trans h3.2 hb.size⟩,
    fun j hj => hj.elim (fun h => ⟨(h4 j h).1, Nat.lt_of_lt_of_le (h4 j h).2 hb.size⟩) (fun e => by omega)⟩
theorem BkE.set (h : BkE wx N1 g gr i d n p q ex li ld W) {B j : Nat} (hB : ex B) (v : Value) : BkE wx N1 g gr i d n p q ex li ld (W.setCell ⟨B, j, none⟩ v) := by
  obtain ⟨⟨gs, h0, h0'⟩, h2, h3, h4⟩ := h
  have hb := h4 B hB
  refine ⟨⟨gs, ?_, h0'⟩, h2.setCell (by simp only; omega) _, by rw [World.size_setCell]; exact h3, by rw [World.size_setCell]; exact h4⟩
  rw [World.size_setCell]
  exact h0.move (fun k hk => Below.heap_setCell _ _ _ _ (fun e => hk.2.2 (by rw [show k = B from e]; exact hB)))
end
theorem C_int {w : World} {A : Option Addr} {l : List Int} (h : Kd.C (Kd.int .i64) w A l.length l) (hne : 0 < l.length) : ∃ ad, A = some ad ∧ ∀ j, j < l.length → w.cell? (ad.add j) = some (.int .i64 (l.getD j 0)) := by
  obtain ⟨ad, e, hc⟩ := C_cells h hne
  refine ⟨ad, e, fun j hj => hc j _ ?_⟩
  rw [nums, List.getElem?_map, List.getElem?_eq_getElem hj, List.getD_eq_getElem?_getD, List.getElem?_eq_getElem hj]
  rfl
theorem mod_facts (k m : Nat) (hm : 0 < m) : ((k : Int) % (m : Int) = ((k % m : Nat) : Int)) ∧ (Int.tmod (k : Int) (m : Int) = ((k % m : Nat) : Int)) ∧ k % m < m :=
  ⟨by rw [Int.natCast_emod], by rw [Int.tmod_eq_emod_of_nonneg (by omega), Int.natCast_emod], Nat.mod_lt _ hm⟩

set_option maxRecDepth 100000 in
set_option maxHeartbeats 4000000 in
theorem all_main (gr i d : Int) (n p q : Nat) (A : Option Addr) (c : Nat) (l : List Int) (w : World) (hfine : Fine gr i d) (hn : gr = (n : Int)) (hp : i * 16 = (p : Int)) (hq : d = (q : Int)) (hpr : gr * d ≤ 300)
    (hC : Kd.C (Kd.int .i64) w A l.length l) (hc : l.length ≤ c) (hl0 : 0 < l.length) (hl : l.length ≤ 100) :
    Calls Try.prog 4 #[.agg #[.int .i64 gr, .int .i64 i, .int .i64 d], .slice A l.length c] w fun e w' => e = .returned (.bool true) ∧ Below w.heap.size w w' := by
  have HGD := Lib.hid (good_fine hfine)
  have HIN := Lib.hid (rinodes_is hfine hn hp)
  have HBN := Lib.hid (rblocks_is hfine hn hq)
  have HDO : Hid (∀ v, v < n * q → dOf gr i d (dataAt i q v) = ((v : Int), true)) := Lib.hid (fun v hv => dOf_data hfine hn hq hv)
  have hg1 : gN gr i d = n := gN_fine hfine hn
  have hg2 : (i * 16).toNat = p := by omega
  have hg3 : d.toNat = q := by omega
  have HG1 := Lib.hid hg1
  have HG2 := Lib.hid hg2
  have HG3 := Lib.hid hg3
  obtain ⟨f1, f2, f3, f4, f5, f6⟩ := hfine
  have hn8 : n ≤ 8 := by omega
  have hn1 : 1 ≤ n := by omega
  have hp64 : p ≤ 64 := by omega
  have hq1 : q ≤ 1000 := by omega
  have hnp : n * p ≤ 8 * 64 := Nat.mul_le_mul hn8 hp64
  have hnq : n * q ≤ 8 * 1000 := Nat.mul_le_mul hn8 hq1
  have hpr0 : 0 ≤ gr * d := Int.mul_nonneg (by omega) (by omega)
  have tpr : decide (gr * d > 300) = false := decide_eq_false (by omega)
  have tl0 : ((l.length : Int) == 0) = false := beq_eq_false_iff_ne.mpr (by omega)
  have tl1 : decide ((l.length : Int) > 100) = false := decide_eq_false (by omega)
  have hlz : ¬ (l.length = 0) := by omega
  obtain ⟨ad, hAd, hcell⟩ := C_int hC hl0
  subst hAd
  have HCW : Hid (∀ j, j < l.length → w.cell? (ad.add j) = some (.int .i64 (l.getD j 0))) := Lib.hid hcell
  clear hcell hC
  obtain ⟨wx, hwx⟩ : ∃ wx, w.alloc (.cells #[.int .i64 gr, .int .i64 i, .int .i64 d] 24) = wx := ⟨_, rfl⟩
  have hx0 : wx.heap[w.heap.size]? = some (.cells #[.int .i64 gr, .int .i64 i, .int .i64 d] 24 (0, 0)) := by rw [← hwx]; exact blk_new w _
  have HXW : Hid (Below w.heap.size w wx) := Lib.hid (by rw [← hwx]; exact (Below.refl _ w).alloc (Nat.le_refl _) _)
  have y0 : wx.cell? ⟨w.heap.size, 0, none⟩ = some (.int .i64 gr) := (blk_cell hx0 0).trans rfl
  have y1 : wx.cell? ⟨w.heap.size, 1, none⟩ = some (.int .i64 i) := (blk_cell hx0 1).trans rfl
  have y2 : wx.cell? ⟨w.heap.size, 2, none⟩ = some (.int .i64 d) := (blk_cell hx0 2).trans rfl
  have Y0 := Lib.hid y0
  have Y1 := Lib.hid y1
  have Y2 := Lib.hid y2
  have HCL : Hid (∀ W, Below wx.heap.size wx W → ∀ j, j < l.length → W.cell? (ad.add j) = some (.int .i64 (l.getD j 0))) := Lib.hid (fun W hW j hj => pw_cell_below ((HXW.out.trans (hW.mono HXW.out.size))) (HCW.out j hj))
  clear hg1 hg2 hg3 hn hp hq f1 f2 f3 f4 f5 f6 hx0 y0 y1 y2
  go_enter Try.func4, Try.ntmps4
  go_wp2_with (first | (go_at_call 7; refine (alive_calls _).mono ?_; rintro e w1 ⟨rfl, hb⟩; have HB1 := Lib.hid hb; have z0 := pw_cell_below hb Y0.out; have z1 := pw_cell_below hb Y1.out; have z2 := pw_cell_below hb Y2.out; clear hb) | (go_at_call 12; refine (lockgateref1_Good.calls gr i d _ _ HGD.out).mono ?_; rintro e w2 ⟨rfl, hb⟩; have HB2 := Lib.hid (HB1.out.trans (hb.mono HB1.out.size)); have z0 := pw_cell_below HB2.out Y0.out; have z1 := pw_cell_below HB2.out Y1.out; have z2 := pw_cell_below HB2.out Y2.out; clear hb) | (go_at_call 8; refine (newA gr i d _).mono ?_; rintro e w3 ⟨g, rfl, hA, hb⟩; rw [HG1.out, HG2.out, HG3.out] at hA; have HST : Hid (BkE wx w2.heap.size g gr i d n p q (fun _ => False) (List.replicate (n * p) false) (List.replicate (n * q) false) w3) := Lib.hid ⟨hA.mono (fun k hk => ⟨hk.1, hk.2, id⟩), HB2.out.trans (hb.mono HB2.out.size), ⟨HB2.out.size, hb.size⟩, fun j hj => hj.elim⟩; have z0 := pw_cell_below HST.out.2.1 Y0.out; have z1 := pw_cell_below HST.out.2.1 Y1.out; have z2 := pw_cell_below HST.out.2.1 Y2.out; clear hb hA) | (go_at_call 13; refine (lockgateref1_Inodes.calls gr i d _ _ HIN.out).mono ?_; rintro e w4 ⟨rfl, hb⟩; have HST4 := Lib.hid (HST.out.below hb); obtain ⟨w5, hmk, hbr, hb5, hz5⟩ := made_bool w4 (n * p + 1) ((n : Int) * (p : Int) + 1) (by simp) (by omega); have HST5 := Lib.hid (HST4.out.more hb5 hz5); have HBR5 := Lib.hid hbr; clear hb hbr hb5 hz5))
  have hst : freeN (List.replicate (n * p) false) + 0 = n * p ∧ BR w5 w4.heap.size (false :: List.replicate (n * p) false) ∧ BkE wx w2.heap.size g gr i d n p q (fun j => False ∨ j = w4.heap.size) (List.replicate (n * p) false) (List.replicate (n * q) false) w5 := ⟨by rw [freeN_false]; rfl, HBR5.out, HST5.out⟩
  have HS := Lib.hid hst
  clear hst HST HST4 HST5 HBR5 z0 z1 z2 hmk
  go_loopw [9] (fun iv wr => ∃ (k : Nat) (li : List Bool), k ≤ n * p ∧ iv = .int .i64 ((k : Int) + 1) ∧ Hid (freeN li + k = n * p ∧ BR wr w4.heap.size (false :: li) ∧ BkE wx w2.heap.size g gr i d n p q (fun j => False ∨ j = w4.heap.size) li (List.replicate (n * q) false) wr)) (fun iv _ => n * p + 1 - (intOf iv).toNat)
  case atStart => exact ⟨0, _, Nat.zero_le _, rfl, HS⟩
  case round =>
    clear HS
    obtain ⟨k, li, hk, rfl, HS⟩ := hrel
    obtain ⟨hfr, hbr, hbk⟩ := HS.out
    have hll := hbk.1.li_length
    by_cases hlt : k < n * p
    · obtain ⟨m1, m2, m3⟩ := mod_facts (k + 1) l.length hl0
      rw [show (((k + 1 : Nat)) : Int) = (k : Int) + 1 by omega] at m1 m2
      obtain ⟨j, hj⟩ : ∃ j, (k + 1) % l.length = j := ⟨_, rfl⟩
      rw [hj] at m1 m2 m3
      have hcl := HCL.out _ hbk.2.1 j m3
      obtain ⟨f0, hf0⟩ : ∃ f0, l.getD j 0 = f0 := ⟨_, rfl⟩
      rw [hf0] at hcl
      obtain ⟨v, hv1, hv2, hv3⟩ := next_exists f0 hll (by omega)
      have hbl : (false :: li).length = n * p + 1 := by rw [List.length_cons, hll]
      have hfree := freeN_take (by rw [hll]; exact hv2) hv3
      have HV1 := Lib.hid hv1
      have HFR := Lib.hid (show freeN (li.set v true) + (k + 1) = n * p by omega)
      have HBR := Lib.hid hbr
      have HBK := Lib.hid hbk
      have HV3 := Lib.hid hv3
      have HBL := Lib.hid hbl
      have hki : (k : Int) + 1 < ((n * p : Nat) : Int) + 1 := by omega
      have hki2 : (k : Int) + 1 < ((n * p + 1 : Nat) : Int) := by omega
      have hvi : (v : Int) + 1 < ((n * p + 1 : Nat) : Int) := by omega
      have hvi0 : (0 : Int) ≤ (v : Int) := by omega
      have hji : (j : Int) < (l.length : Int) := by omega
      have hji0 : (0 : Int) ≤ (j : Int) := by omega
      have tv1 : decide ((v : Int) + 1 < 1) = false := decide_eq_false (by omega)
      have tv2 : decide ((v : Int) + 1 ≥ ((n * p + 1 : Nat) : Int)) = false := decide_eq_false (by omega)
      clear hfr hbr hbk hv1 hfree hj hf0 HS hll hv3 hbl m3
      go_wp2_with (first | (go_at_call 9; refine (inodeA f0 HBK.out.1 (fun j hj => hj.2.1) HBK.out.2.2.1.2).mono ?_; rintro e w6 ⟨rfl, hA6, ho⟩; rw [HV1.out] at hA6 ⊢; dsimp only [optI, setO, Option.isSome] at hA6 ⊢; have HBK6 := Lib.hid (HBK.out.next hA6 ho); have hbr6 := HBR.out.off ho (fun h => h.2.2 (.inr rfl)); have s1 := hbr6.cell (j := v + 1) (by rw [HBL.out]; omega); rw [List.getD_cons_succ, HV3.out] at s1; have s2 := hbr6.frozen (v + 1); have HBR6 := Lib.hid hbr6; clear hA6 ho hbr6))
      have hbf := HBK6.out.set (B := w4.heap.size) (j := v + 1) (.inr rfl) (.bool true)
      have HBF := Lib.hid hbf
      have hbr7 := HBR6.out.set (v + 1) true
      rw [List.set_cons_succ] at hbr7
      have HBR7 := Lib.hid hbr7
      clear hbf hbr7
      go_roundw
      case rel => exact ⟨k + 1, li.set v true, by omega, by go_num, Lib.hid ⟨HFR.out, HBR7.out, HBF.out⟩⟩
      case measure => simp [intOf]; omega
    · obtain rfl : k = n * p := by omega
      have hki : ¬ ((n * p : Nat) : Int) + 1 < ((n * p : Nat) : Int) + 1 := by omega
      have hki2 : ¬ ((n * p : Nat) : Int) + 1 < ((n * p + 1 : Nat) : Int) := by omega
      have hfr0 : freeN li = 0 := by omega
      have HF0 := Lib.hid hfr0
      have HBK := Lib.hid hbk
      have HLL := Lib.hid hll
      have hbl : (false :: li).length = n * p + 1 := by rw [List.length_cons, hll]
      have z0 := pw_cell_below hbk.2.1 Y0.out
      have z1 := pw_cell_below hbk.2.1 Y1.out
      have z2 := pw_cell_below hbk.2.1 Y2.out
      clear hfr hbr hbk hll HS hfr0 hbl
      go_wp2_with (first | (go_at_call 14; refine (lockgateref1_Blocks.calls gr i d _ _ HBN.out).mono ?_; rintro e w6 ⟨rfl, hb⟩; have hst6 := HBK.out.below hb; obtain ⟨w7, hmk, hbr7, hb7, hz7⟩ := made_bool w6 (n * q) ((n : Int) * (q : Int)) (by simp) (by omega); have HST7 := Lib.hid (hst6.more hb7 hz7); have HBR7 := Lib.hid hbr7; clear hb hbr7 hb7 hz7 hst6))
      have HS2 : Hid (freeN (List.replicate (n * q) false) + 0 = n * q ∧ BR w7 w6.heap.size (List.replicate (n * q) false) ∧ BkE wx w2.heap.size g gr i d n p q (fun j => (False ∨ j = w4.heap.size) ∨ j = w6.heap.size) li (List.replicate (n * q) false) w7) := Lib.hid ⟨by rw [freeN_false]; rfl, HBR7.out, HST7.out⟩
      clear z0 z1 z2 HBK HST7 HBR7 hmk
      go_loopw [13] (fun iv wr => ∃ (k : Nat) (ld : List Bool), k ≤ n * q ∧ iv = .int .i64 (k : Int) ∧ Hid (freeN ld + k = n * q ∧ BR wr w6.heap.size ld ∧ BkE wx w2.heap.size g gr i d n p q (fun j => (False ∨ j = w4.heap.size) ∨ j = w6.heap.size) li ld wr)) (fun iv _ => n * q - (intOf iv).toNat)
      case atStart => exact ⟨0, _, Nat.zero_le _, rfl, HS2⟩
      case round =>
        clear HS2 hki hki2 hlt hk
        obtain ⟨k, ld, hk, rfl, HS⟩ := hrel
        obtain ⟨hfr, hbr, hbk⟩ := HS.out
        have hll := hbk.1.ld_length
        by_cases hlt : k < n * q
        · obtain ⟨m1, m2, m3⟩ := mod_facts k l.length hl0
          obtain ⟨j, hj⟩ : ∃ j, k % l.length = j := ⟨_, rfl⟩
          rw [hj] at m1 m2 m3
          have hcl := HCL.out _ hbk.2.1 j m3
          obtain ⟨f0, hf0⟩ : ∃ f0, l.getD j 0 = f0 := ⟨_, rfl⟩
          rw [hf0] at hcl
          obtain ⟨v, hv1, hv2, hv3⟩ := next_exists f0 hll (by omega)
          have hfree := freeN_take (by rw [hll]; exact hv2) hv3
          obtain ⟨y, hy⟩ : ∃ y, dataAt i q v = y := ⟨_, rfl⟩
          have hdt : lockgateref1_DataOf.f 1 gr i d y = some ((v : Int), true) := by rw [rdOf_is, ← hy, HDO.out v hv2]
          have HDT := Lib.hid hdt
          have HY := Lib.hid hy
          have HV1 := Lib.hid hv1
          have HFR := Lib.hid (show freeN (ld.set v true) + (k + 1) = n * q by omega)
          have HBR := Lib.hid hbr
          have HBK := Lib.hid hbk
          have HV3 := Lib.hid hv3
          have HLD := Lib.hid hll
          have hki : (k : Int) < ((n * q : Nat) : Int) := by omega
          have hvi : (v : Int) < ((n * q : Nat) : Int) := by omega
          have hvi0 : (0 : Int) ≤ (v : Int) := by omega
          have hji : (j : Int) < (l.length : Int) := by omega
          have hji0 : (0 : Int) ≤ (j : Int) := by omega
          clear hfr hbr hbk hv1 hfree hj hf0 HS hll hv3 m3 hy hdt
          go_wp2_with (first | (go_at_call 10; refine (blockA f0 HBK.out.1 (fun j hj => hj.2.1) HBK.out.2.2.1.2).mono ?_; rintro e w8 ⟨rfl, hA8, ho⟩; rw [HV1.out] at hA8 ⊢; dsimp only [optD, setO, Option.isSome] at hA8 ⊢; rw [HY.out]; have HBK8 := Lib.hid (HBK.out.next hA8 ho); have HBR8 := Lib.hid (HBR.out.off ho (fun h => h.2.2 (.inr rfl))); have z0 := pw_cell_below HBK8.out.2.1 Y0.out; have z1 := pw_cell_below HBK8.out.2.1 Y1.out; have z2 := pw_cell_below HBK8.out.2.1 Y2.out; clear hA8 ho) | (go_at_call 15; refine (lockgateref1_DataOf.calls 1 gr i d _ _ _ _ HDT.out).mono ?_; rintro e w9 ⟨rfl, hb⟩; have HBK9 := Lib.hid (HBK8.out.below hb); have hbr9 := HBR8.out.below hb; have s1 := hbr9.cell (j := v) (by rw [HLD.out]; exact hv2); rw [HV3.out] at s1; have s2 := hbr9.frozen v; have HBR9 := Lib.hid hbr9; clear hb hbr9))
          have HBF := Lib.hid (HBK9.out.set (B := w6.heap.size) (j := v) (.inr rfl) (.bool true))
          have HBR7 := Lib.hid (HBR9.out.set v true)
          go_roundw
          case rel => exact ⟨k + 1, ld.set v true, by omega, by go_num, Lib.hid ⟨HFR.out, HBR7.out, HBF.out⟩⟩
          case measure => simp [intOf]; omega
        · obtain rfl : k = n * q := by omega
          have hki : ¬ ((n * q : Nat) : Int) < ((n * q : Nat) : Int) := by omega
          have hfr0 : freeN ld = 0 := by omega
          have hx1 := next_none_of 0 HLL.out HF0.out
          have hx2 := next_none_of 0 hll hfr0
          have HX1 := Lib.hid hx1
          have HX2 := Lib.hid hx2
          have HF1 := Lib.hid hfr0
          have HBK := Lib.hid hbk
          clear hfr hbr hbk hll HS hfr0 hx1 hx2
          go_wp2_with (first | (go_at_call 9; refine (inodeA 0 HBK.out.1 (fun j hj => hj.2.1) HBK.out.2.2.1.2).mono ?_; rintro e w8 ⟨rfl, hA8, ho⟩; rw [HX1.out] at hA8 ⊢; dsimp only [optI, setO, Option.isSome] at hA8 ⊢; have HBK8 := Lib.hid (HBK.out.next hA8 ho); clear hA8 ho) | (go_at_call 10; refine (blockA 0 HBK8.out.1 (fun j hj => hj.2.1) HBK8.out.2.2.1.2).mono ?_; rintro e w9 ⟨rfl, hA9, ho⟩; rw [HX2.out] at hA9 ⊢; dsimp only [optD, setO, Option.isSome] at hA9 ⊢; have HBK9 := Lib.hid (HBK8.out.next hA9 ho); clear hA9 ho) | (go_at_call 16; refine (freeA HBK9.out.1).mono ?_; rintro e w10 ⟨rfl, hb⟩; rw [HF0.out, HF1.out]; have HBK10 := Lib.hid (HBK9.out.below hb); clear hb))
          go_ret
          exact ⟨by first | rfl | simp, HXW.out.trans (HBK10.out.2.1.mono HXW.out.size)⟩

set_option maxRecDepth 100000 in
set_option maxHeartbeats 2000000 in
theorem all_other (gr i d : Int) (A : Option Addr) (c : Nat) (l : List Int) (w : World) (h : ¬ Fine gr i d ∨ (Fine gr i d ∧ 300 < gr * d) ∨ (Fine gr i d ∧ ¬ 300 < gr * d ∧ l.length = 0) ∨ (Fine gr i d ∧ ¬ 300 < gr * d ∧ 100 < l.length)) :
    Calls Try.prog 4 #[.agg #[.int .i64 gr, .int .i64 i, .int .i64 d], .slice A l.length c] w fun e w' => e = .returned (.bool true) ∧ Below w.heap.size w w' := by
  obtain ⟨wx, hwx⟩ : ∃ wx, w.alloc (.cells #[.int .i64 gr, .int .i64 i, .int .i64 d] 24) = wx := ⟨_, rfl⟩
  have hx0 : wx.heap[w.heap.size]? = some (.cells #[.int .i64 gr, .int .i64 i, .int .i64 d] 24 (0, 0)) := by rw [← hwx]; exact blk_new w _
  have HXW : Hid (Below w.heap.size w wx) := Lib.hid (by rw [← hwx]; exact (Below.refl _ w).alloc (Nat.le_refl _) _)
  have y0 : wx.cell? ⟨w.heap.size, 0, none⟩ = some (.int .i64 gr) := (blk_cell hx0 0).trans rfl
  have y1 : wx.cell? ⟨w.heap.size, 1, none⟩ = some (.int .i64 i) := (blk_cell hx0 1).trans rfl
  have y2 : wx.cell? ⟨w.heap.size, 2, none⟩ = some (.int .i64 d) := (blk_cell hx0 2).trans rfl
  have Y0 := Lib.hid y0
  have Y1 := Lib.hid y1
  have Y2 := Lib.hid y2
  clear hx0 y0 y1 y2
  rcases h with hf | ⟨hf, hx⟩ | ⟨hf, hx, hx2⟩ | ⟨hf, hx, hx2⟩
  · have HGD := Lib.hid (good_not hf)
    clear hf
    go_enter Try.func4, Try.ntmps4
    go_wp2_with (first | (go_at_call 7; refine (alive_calls _).mono ?_; rintro e w1 ⟨rfl, hb⟩; have HB1 := Lib.hid hb; have z0 := pw_cell_below hb Y0.out; have z1 := pw_cell_below hb Y1.out; have z2 := pw_cell_below hb Y2.out; clear hb) | (go_at_call 12; refine (lockgateref1_Good.calls gr i d _ _ HGD.out).mono ?_; rintro e w2 ⟨rfl, hb⟩; have HB2 := Lib.hid (HB1.out.trans (hb.mono HB1.out.size)); have z0 := pw_cell_below HB2.out Y0.out; have z1 := pw_cell_below HB2.out Y1.out; have z2 := pw_cell_below HB2.out Y2.out; clear hb))
    go_ret
    exact ⟨rfl, HXW.out.trans (HB2.out.mono HXW.out.size)⟩
  · have HGD := Lib.hid (good_fine hf)
    have hpr0 : 0 ≤ gr * d := Int.mul_nonneg (by have := hf.1; omega) (by have := hf.2.2.2.2.1; omega)
    have hpr1 : gr * d ≤ 8 * 1000 := Int.mul_le_mul (by have := hf.2.1; omega) (by have := hf.2.2.2.2.2; omega) (by have := hf.2.2.2.2.1; omega) (by omega)
    have tpr : decide (gr * d > 300) = true := decide_eq_true (by omega)
    clear hf
    go_enter Try.func4, Try.ntmps4
    go_wp2_with (first | (go_at_call 7; refine (alive_calls _).mono ?_; rintro e w1 ⟨rfl, hb⟩; have HB1 := Lib.hid hb; have z0 := pw_cell_below hb Y0.out; have z1 := pw_cell_below hb Y1.out; have z2 := pw_cell_below hb Y2.out; clear hb) | (go_at_call 12; refine (lockgateref1_Good.calls gr i d _ _ HGD.out).mono ?_; rintro e w2 ⟨rfl, hb⟩; have HB2 := Lib.hid (HB1.out.trans (hb.mono HB1.out.size)); have z0 := pw_cell_below HB2.out Y0.out; have z1 := pw_cell_below HB2.out Y1.out; have z2 := pw_cell_below HB2.out Y2.out; clear hb))
    go_ret
    exact ⟨rfl, HXW.out.trans (HB2.out.mono HXW.out.size)⟩
  · have HGD := Lib.hid (good_fine hf)
    have hpr0 : 0 ≤ gr * d := Int.mul_nonneg (by have := hf.1; omega) (by have := hf.2.2.2.2.1; omega)
    have hpr1 : gr * d ≤ 8 * 1000 := Int.mul_le_mul (by have := hf.2.1; omega) (by have := hf.2.2.2.2.2; omega) (by have := hf.2.2.2.2.1; omega) (by omega)
    have tpr : decide (gr * d > 300) = false := decide_eq_false (by omega)
    have tl0 : ((l.length : Int) == 0) = true := beq_iff_eq.mpr (by omega)
    clear hf
    go_enter Try.func4, Try.ntmps4
    go_wp2_with (first | (go_at_call 7; refine (alive_calls _).mono ?_; rintro e w1 ⟨rfl, hb⟩; have HB1 := Lib.hid hb; have z0 := pw_cell_below hb Y0.out; have z1 := pw_cell_below hb Y1.out; have z2 := pw_cell_below hb Y2.out; clear hb) | (go_at_call 12; refine (lockgateref1_Good.calls gr i d _ _ HGD.out).mono ?_; rintro e w2 ⟨rfl, hb⟩; have HB2 := Lib.hid (HB1.out.trans (hb.mono HB1.out.size)); have z0 := pw_cell_below HB2.out Y0.out; have z1 := pw_cell_below HB2.out Y1.out; have z2 := pw_cell_below HB2.out Y2.out; clear hb))
    go_ret
    exact ⟨rfl, HXW.out.trans (HB2.out.mono HXW.out.size)⟩
  · have HGD := Lib.hid (good_fine hf)
    have hpr0 : 0 ≤ gr * d := Int.mul_nonneg (by have := hf.1; omega) (by have := hf.2.2.2.2.1; omega)
    have hpr1 : gr * d ≤ 8 * 1000 := Int.mul_le_mul (by have := hf.2.1; omega) (by have := hf.2.2.2.2.2; omega) (by have := hf.2.2.2.2.1; omega) (by omega)
    have tpr : decide (gr * d > 300) = false := decide_eq_false (by omega)
    have tl0 : ((l.length : Int) == 0) = false := beq_eq_false_iff_ne.mpr (by omega)
    have tl1 : decide ((l.length : Int) > 100) = true := decide_eq_true (by omega)
    clear hf
    go_enter Try.func4, Try.ntmps4
    go_wp2_with (first | (go_at_call 7; refine (alive_calls _).mono ?_; rintro e w1 ⟨rfl, hb⟩; have HB1 := Lib.hid hb; have z0 := pw_cell_below hb Y0.out; have z1 := pw_cell_below hb Y1.out; have z2 := pw_cell_below hb Y2.out; clear hb) | (go_at_call 12; refine (lockgateref1_Good.calls gr i d _ _ HGD.out).mono ?_; rintro e w2 ⟨rfl, hb⟩; have HB2 := Lib.hid (HB1.out.trans (hb.mono HB1.out.size)); have z0 := pw_cell_below HB2.out Y0.out; have z1 := pw_cell_below HB2.out Y1.out; have z2 := pw_cell_below HB2.out Y2.out; clear hb))
    go_ret
    exact ⟨rfl, HXW.out.trans (HB2.out.mono HXW.out.size)⟩
theorem all_row (gr i d : Int) (A : Option Addr) (c : Nat) (l : List Int) (w : World) (hC : Kd.C (Kd.int .i64) w A l.length l) (hc : l.length ≤ c) (_ : (Lit.int .i64 gr).wf = true) (_ : (Lit.int .i64 i).wf = true) (_ : (Lit.int .i64 d).wf = true) (_ : l.length ≤ maxLen ∧ ∀ y ∈ l, (Lit.int .i64 y).wf = true) :
    Calls Try.prog 4 #[.agg #[.int .i64 gr, .int .i64 i, .int .i64 d], .slice A l.length c] w fun e w' => e = .returned (.bool true) ∧ Below w.heap.size w w' := by
  by_cases hf : Fine gr i d
  · by_cases hx : 300 < gr * d
    · exact all_other gr i d A c l w (.inr (.inl ⟨hf, hx⟩))
    · by_cases h0 : l.length = 0
      · exact all_other gr i d A c l w (.inr (.inr (.inl ⟨hf, hx, h0⟩)))
      · by_cases h1 : 100 < l.length
        · exact all_other gr i d A c l w (.inr (.inr (.inr ⟨hf, hx, h1⟩)))
        · obtain ⟨f1, f2, f3, f4, f5, f6⟩ := hf
          exact all_main gr i d gr.toNat (i * 16).toNat d.toNat A c l w ⟨f1, f2, f3, f4, f5, f6⟩ (by omega) (by omega) (by omega) (by omega) hC hc (by omega) (by omega)
  · exact all_other gr i d A c l w (.inl hf)
end Go.Proofs.Ytppjeikkodjjhaa.Given
