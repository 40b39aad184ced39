/- slices.Clone of bytes, and patch.Apply: what each answers, for every argument. -/
import Derived.Test.YtemachlhoanngaaCopyR
import Derived.Test.YtemachlhoanngaaKinds
import Derived.Test.YtemachlhoanngaaPPFnsx1
import Derived.Test.YtemachlhoanngaaPPFnsx3
import Derived.Lib.Hide
import Derived.Shelf.Abstract
import Derived.Shelf.RegionOpen
import Derived.TacticsInMore
import Derived.LoopNIn
import Derived.LoopIn
import Derived.BigRegionIn
import Derived.Stop.RegionWithIn
namespace Go.Proofs.Ytemachlhoanngaa.Given
open Go.RowKit Go.Shelf Go.Proofs.YtemachlhoanngaaW.PrintWords Go.Proofs.YtemachlhoanngaaW.PrintLast Go.Proofs.YtemachlhoanngaaBase Go.Proofs.Ytemachlhoanngaa.PPFns
set_option linter.unusedVariables false
set_option linter.unusedSimpArgs false
attribute [local go_sem] Oper.semAt_some

theorem info5 : (Try.prog.info? 5).map (fun i => (i.zero, i.size, i.bytes)) = some (some (.int .u8 0), 1, 1) := by kernel_rfl
def slices_Clone_byte_byte.f (l0 : List Int) : Option (List Int) := if l0.length < 140737488351232 then some l0 else none

set_option maxRecDepth 100000 in
set_option maxHeartbeats 1000000 in
theorem slices_Clone_byte_byte.calls (A0 : Option Addr) (c0 : Nat) (l0 : List Int) (r : List Int) (w : World) (hr0 : Kd.C (Kd.int .u8) w A0 l0.length l0) (hc0 : l0.length ≤ c0) (h : slices_Clone_byte_byte.f l0 = some r) :
    Calls Try.prog 22 #[.slice A0 l0.length c0] w fun e w' => ∃ v0_ : Value, e = .returned (v0_) ∧ Kd.R (Kd.int .u8) 5 w' w.heap.size (fun _ => True) v0_ r ∧ Below w.heap.size w w' := by
  unfold slices_Clone_byte_byte.f at h
  split at h
  case isFalse => cases h
  rename_i hlen
  obtain rfl := Option.some.inj h
  have heq := fun (w : World) (a : Option Addr) (n c : Nat) => Lib.run_eql_slice_nil (P := Try.prog) w 22 5 a n c 0 0 Try.underlying22
  cases A0 with
  | none =>
    have hl : l0 = [] := by
      have := hr0.2.2
      cases l0 with
      | nil => rfl
      | cons x l => obtain ⟨ad, e, _⟩ := this (by simp); cases e
    subst hl
    clear hr0 h hc0
    go_enter Try.func22, Try.ntmps22
    go_wp2
    go_ret
    exact ⟨_, rfl, Kd.R_nil _ _ _ _ _, Below.refl _ _⟩
  | some ad =>
    have HC := Lib.hid hr0
    clear hr0 h
    have HO : Hid (Kd.R (Kd.int .u8) 5 (w.alloc (.cells #[] 5)) w.heap.size (fun _ => True) (.slice (some ⟨w.heap.size, 0, none⟩) 0 0) []) := Lib.hid (R_of_block (xs := []) (blk_new w (.cells #[] 5)) (Nat.le_refl _) trivial (by simp))
    go_enter Try.func22, Try.ntmps22
    go_wp2_with (at_builtin; refine Kd.R_append_rows (Kd.int .u8) (w0 := w) w.heap.size rfl (.tmp 5) (.tmp 6) 22 5 (.int .u8 0) 1 rfl Try.underlying22 info5 rfl (by decide) (by omega) (.slice (some ⟨w.heap.size, 0, none⟩) 0 0) [] l0 _ _ c0 (fun _ => True) (fun _ => False) rfl rfl HO.out (Kd.C_alloc HC.out _) (fun _ _ h => h) (fun _ h => h.elim) (fun _ _ => trivial) ((Below.refl _ w).alloc (Nat.le_refl _) _) (by simp) (by simp; omega) ?_; intro v1 w1 hown hb1 hg hat)
    obtain ⟨A1, c1, rfl⟩ := Kd.R_slice hown
    go_wp2
    go_ret
    exact ⟨_, rfl, by simpa using hown, hb1⟩

/-! ### one change -/
/-- bytes with a change made -/
def stepP (b : List Int) (p : S24) : List Int :=
  if p.f1 ≥ b.length ∨ (p.f1 < 0 ∧ p.f1 + p.f2.length ≤ 0) then b
  else if p.f1 < 0 then splice b 0 ((p.f2.drop (-p.f1).toNat).take b.length)
  else splice b p.f1.toNat (p.f2.take (b.length - p.f1.toNat))
theorem stepP_length (b : List Int) (p : S24) : (stepP b p).length = b.length := by
  unfold stepP splice
  split
  · rfl
  split
  · simp; omega
  · simp; omega
def okP (p : S24) : Bool := decide (-9223372036854775808 ≤ p.f1 ∧ p.f1 ≤ 9223372036854775807 ∧ p.f2.length ≤ 140737488351232)

theorem w64 (x : Int) (h : -9223372036854775808 ≤ x ∧ x ≤ 9223372036854775807) : wrap64 x = x := by unfold wrap64; omega
/-- what span tells, and what is copied then -/
theorem span_tells (b : List Int) (p : S24) (hp : okP p = true) (hb : b.length ≤ 140737488351232) : ∃ (f t s : Nat), patch_span.f 3 p.f0 p.f1 p.f2 b.length = some ((f : Int), (t : Int), (s : Int)) ∧ f ≤ t ∧ t ≤ b.length ∧ s ≤ p.f2.length ∧ t - f ≤ p.f2.length - s ∧ stepP b p = splice b f ((p.f2.drop s).take (t - f)) := by
  unfold okP at hp
  have hp := of_decide_eq_true hp
  have h0 : ∀ x : Int, splice b 0 ((p.f2.drop 0).take (0 - 0)) = b := fun _ => by simp [splice]
  unfold patch_span.f stepP
  by_cases c1 : p.f1 ≥ b.length
  · rw [if_pos c1, if_pos (.inl c1)]
    exact ⟨0, 0, 0, rfl, by omega, by omega, by omega, by omega, (h0 0).symm⟩
  rw [if_neg c1]
  by_cases c2 : p.f1 < 0
  · rw [if_pos c2, w64 _ (by omega)]
    by_cases c3 : p.f1 + p.f2.length ≤ 0
    · rw [decide_eq_true c3, if_pos (.inr ⟨c2, c3⟩)]
      exact ⟨0, 0, 0, rfl, by omega, by omega, by omega, by omega, (h0 0).symm⟩
    · rw [decide_eq_false c3, if_neg (by omega), if_pos c2]
      simp only [patch_span.j0, Bool.false_eq_true, if_false]
      rw [if_pos c2, w64 (-p.f1) (by omega), w64 ((p.f2.length : Int) - -p.f1) (by omega), w64 ((b.length : Int) - 0) (by omega)]
      refine ⟨0, min (p.f2.length - (-p.f1).toNat) b.length, (-p.f1).toNat, ?_, by omega, by omega, by omega, by omega, ?_⟩
      · unfold mn
        split
        · rw [w64 _ (by omega)]
          exact congrArg some (Prod.ext (by simp only; omega) (Prod.ext (by simp only; omega) (by simp only; omega)))
        · rw [w64 _ (by omega)]
          exact congrArg some (Prod.ext (by simp only; omega) (Prod.ext (by simp only; omega) (by simp only; omega)))
      · congr 1
        rw [List.take_eq_take_min, List.length_drop]
        congr 1
        omega
  · rw [if_neg c2, if_neg (by omega), if_neg c2]
    simp only [patch_span.j0, Bool.false_eq_true, if_false]
    rw [if_neg c2, w64 ((p.f2.length : Int) - 0) (by omega), w64 ((b.length : Int) - p.f1) (by omega)]
    refine ⟨p.f1.toNat, p.f1.toNat + min p.f2.length (b.length - p.f1.toNat), 0, ?_, by omega, by omega, by omega, by omega, ?_⟩
    · unfold mn
      split
      · rw [w64 _ (by omega)]
        exact congrArg some (Prod.ext (by simp only; omega) (Prod.ext (by simp only; omega) (by simp only; omega)))
      · rw [w64 _ (by omega)]
        exact congrArg some (Prod.ext (by simp only; omega) (Prod.ext (by simp only; omega) (by simp only; omega)))
    · congr 1
      rw [List.take_eq_take_min, List.drop_zero]
      congr 1
      omega
/-! ### what is out -/
theorem index_tells (l : List Int) (a : Int) (hl : l.length ≤ 140737488351232) : ∀ (d j k : Nat), j + d = l.length → d < k → (∀ i, i < j → l.getD i 0 ≠ a) → ∃ r, slices_Index_int_int.l0 k l a (l.length : Int) j = some r ∧ decide (r ≥ 0) = decide (a ∈ l) := by
  intro d
  induction d with
  | zero =>
    intro j k hj hk hno
    obtain ⟨k, rfl⟩ : ∃ m, k = m + 1 := ⟨k - 1, by omega⟩
    refine ⟨-1, ?_, ?_⟩
    · simp only [slices_Index_int_int.l0]
      rw [if_neg (by omega)]
    · rw [decide_eq_false (by omega)]
      refine (decide_eq_false fun hm => ?_).symm
      obtain ⟨i, hi, e⟩ := List.mem_iff_getElem.1 hm
      refine hno i (by omega) ?_
      rw [List.getD_eq_getElem?_getD, List.getElem?_eq_getElem hi]
      exact e
  | succ d ih =>
    intro j k hj hk hno
    obtain ⟨k, rfl⟩ : ∃ m, k = m + 1 := ⟨k - 1, by omega⟩
    simp only [slices_Index_int_int.l0]
    rw [if_pos (by omega), if_pos (by omega), if_pos (by omega)]
    by_cases c : a = rd l j
    · rw [if_pos c]
      refine ⟨_, rfl, ?_⟩
      rw [decide_eq_true (by omega)]
      refine (decide_eq_true ?_).symm
      rw [c]
      simp only [rd, Int.toNat_natCast]
      rw [List.getD_eq_getElem?_getD, List.getElem?_eq_getElem (by omega)]
      exact List.getElem_mem _
    · rw [if_neg c, w64 _ (by omega)]
      have := ih (j + 1) k (by omega) (by omega) (fun i hi => by
        by_cases e : i = j
        · subst e
          intro h
          exact c (by simp only [rd, Int.toNat_natCast]; exact h.symm)
        · exact hno i (by omega))
      rw [show ((j : Int) + 1) = ((j + 1 : Nat) : Int) by omega]
      exact this
theorem contains_tells (l : List Int) (a : Int) (hl : l.length ≤ 140737488351232) : slices_Contains_int_int.f (l.length + 1) l a = some (decide (a ∈ l)) := by
  obtain ⟨r, h1, h2⟩ := index_tells l a hl l.length 0 (l.length + 1) (by omega) (by omega) (fun i hi => by omega)
  unfold slices_Contains_int_int.f slices_Index_int_int.f
  rw [show (0 : Int) = ((0 : Nat) : Int) from rfl, h1, Option.bind_some]
  exact congrArg some h2

/-! ### the iterator -/
def isOut (l1 : List S24) (l2 : List Int) (i : Nat) : Bool := decide ((rd_T24 l1 i).f0 ∈ l2)
def keptIdx (l1 : List S24) (l2 : List Int) (k : Nat) : List Nat := (List.range k).filter (fun i => !isOut l1 l2 i)
abbrev KEl (w : World) (l1 : List S24) : Type := { q : Nat × Option Addr × Nat // q.1 < l1.length ∧ (rd_T24 l1 q.1).f2.length ≤ q.2.2 ∧ (Kd.int .u8).C w q.2.1 (rd_T24 l1 q.1).f2.length (rd_T24 l1 q.1).f2 }
abbrev aggP (l1 : List S24) (i : Nat) (A : Option Addr) (c : Nat) : Value := .agg #[.int .i64 (rd_T24 l1 i).f0, .int .i64 (rd_T24 l1 i).f1, .slice A (rd_T24 l1 i).f2.length c]
abbrev encP {w : World} (l1 : List S24) (q : KEl w l1) : Array Value := #[aggP l1 q.1.1 q.1.2.1 q.1.2.2]
theorem abides_drewN {β : Type} {B : Nat} {J : β → World → Prop} (h : AbidesFrom B J) {s : β} {W : World} (hs : J s W) (k : Nat) : J s (W.drewN k) :=
  h s W _ none hs ⟨rfl, rfl, rfl, Nat.le_refl _, fun _ _ _ => rfl⟩ (fun r e => by cases e)
theorem abides_alloc {β : Type} {B : Nat} {J : β → World → Prop} (h : AbidesFrom B J) {s : β} {W : World} (hs : J s W) (o : Obj) : J s (W.alloc o) :=
  h s W _ none hs (World.grownBy_alloc W o none) (fun r e => by cases e)

structure KeptG (Bl Bo c1 c2 : Nat) (A1 A2 : Option Addr) (l1 : List S24) (l2 : List Int) (w0 : World) (G : World → Prop) (Kp : World → World → Prop) : Prop where
  l : ∀ W, G W → W.cell? ⟨Bl, 0, none⟩ = some (.slice A1 l1.length c1)
  o : ∀ W, G W → W.cell? ⟨Bo, 0, none⟩ = some (.slice A2 l2.length c2)
  b : ∀ W, G W → Below w0.heap.size w0 W
  d : ∀ W k, G W → G (W.drewN k)
  a : ∀ W x, G W → G (W.alloc x)
  keep : ∀ A B, G A → Kp A B → G B

set_option maxRecDepth 100000 in
set_option maxHeartbeats 2000000 in
theorem kept1_in (m : Nat) (hm : 1 ≤ m) (lr Bl Bo c1 c2 : Nat) (A1 A2 : Option Addr) (l1 : List S24) (l2 : List Int) (w0 : World)
    (hC1 : Kd.C k24 w0 A1 l1.length l1) (hC2 : Kd.C (Kd.int .i64) w0 A2 l2.length l2) (hc1 : l1.length ≤ c1) (hc2 : l2.length ≤ c2) (hl1 : l1.length ≤ 140737488351232) (hl2 : l2.length ≤ 140737488351232)
    (G : World → Prop) (Kp : World → World → Prop) (hG : KeptG Bl Bo c1 c2 A1 A2 l1 l2 w0 G Kp)
    (J Jx : List (KEl w0 l1) → World → Prop)
    (hY : ∀ pre x W, J pre W → pre.length < l1.length → YieldAt Fence.wide (m - 1) Try.prog lr (encP l1 x) W fun e W' =>
      (e = .returned (.bool true) ∧ J (pre ++ [x]) W' ∧ Kp W W') ∨ (e = .returned (.bool false) ∧ Jx (pre ++ [x]) W'))
    (W : World) (hGW : G W) (hJ : AbidesFrom W.heap.size J) (h0 : J [] W) :
    CallsIn Fence.wide m Try.prog 28 #[.func (.yield lr) #[] #[], .pointer (some ⟨Bl, 0, none⟩), .pointer (some ⟨Bo, 0, none⟩)] W fun e W' => (∃ v, e = .returned v) ∧
      ((∃ ys, ys.map (fun q => q.1.1) = keptIdx l1 l2 l1.length ∧ J ys W') ∨ (∃ pre, True ∧ Jx pre W')) := by
  refine callsIn_of_wp Try.func28 rfl trivial ?_ rfl
  simp only [Try.ntmps28, List.size_toArray, List.length_cons, List.length_nil, Nat.reduceAdd, Nat.reduceSub, Array.replicate_succ, Array.replicate_zero, List.push_toArray, List.append_toArray, List.nil_append, List.cons_append]
  have hBl := hG.l W hGW
  have HC1 := Lib.hid hC1
  have HC2 := Lib.hid hC2
  clear hC1 hC2
  gi_wp2
  gi_loopw [8] (fun i wr => ∃ (k : Nat) (pre : List (KEl w0 l1)), k ≤ l1.length ∧ i = .int .i64 (k : Int) ∧ Hid (pre.map (fun q => q.1.1) = keptIdx l1 l2 k) ∧ J pre wr ∧ G wr) (fun i _ => l1.length - (intOf i).toNat)
  case atStart =>
    exact ⟨0, [], by omega, rfl, Lib.hid rfl, h0, hGW⟩
  case round =>
    obtain ⟨k, pre, hk, rfl, HP, hJs, hnx⟩ := hrel
    by_cases hlt : k < l1.length
    · obtain ⟨ad, Aq, cq, e', _, _, k2', hlq, hCq⟩ := at_T24 HC1.out k (by omega) (by omega)
      obtain ⟨ad', Ap, cp, e'', k0, k1, k2, hlp, hCp⟩ := at_T24 (Kd.C_below HC1.out (hG.b wr hnx)) k (by omega) (by omega)
      obtain rfl : ad = ad' := by rw [e'] at e''; injection e''
      have hsame := (pw_cell_below (hG.b wr hnx) k2').symm.trans k2
      obtain ⟨rfl, rfl⟩ : Aq = Ap ∧ cq = cp := by
        have := Option.some.inj hsame
        injection this with h1 h2 h3
        exact ⟨h1, h3⟩
      subst e'
      simp only [Int.toNat_natCast] at k0 k1 k2
      have hpl : pre.length < l1.length := by
        have := congrArg List.length HP.out
        rw [List.length_map] at this
        have h2 : (keptIdx l1 l2 k).length ≤ k := Nat.le_trans (List.length_filter_le _ _) (by simp)
        omega
      have HX := Lib.hid (⟨hlt, hlq, hCq⟩ : k < l1.length ∧ (rd_T24 l1 k).f2.length ≤ cq ∧ (Kd.int .u8).C w0 Aq (rd_T24 l1 k).f2.length (rd_T24 l1 k).f2)
      have HO2 := Lib.hid (Kd.C_alloc (Kd.C_below HC2.out (hG.b wr hnx)) (.cells #[.int .i64 (rd_T24 l1 k).f0, .int .i64 (rd_T24 l1 k).f1, .slice Aq (rd_T24 l1 k).f2.length cq] 24))
      have hbo := hG.o wr hnx
      have hblo : Bo < wr.heap.size := World.block_lt_of_cell? _ _ hbo
      have hsnoc : keptIdx l1 l2 (k + 1) = keptIdx l1 l2 k ++ (if isOut l1 l2 k = true then [] else [k]) := by
        unfold keptIdx
        rw [List.range_succ, List.filter_append]
        congr 1
        cases h : isOut l1 l2 k <;> simp [h]
      have HSN := Lib.hid hsnoc
      have hcont := contains_tells l2 (rd_T24 l1 k).f0 hl2
      clear hsame k2' e'' hlp hCp hlq hCq hsnoc
      by_cases hout : (rd_T24 l1 k).f0 ∈ l2
      · rw [decide_eq_true hout] at hcont
        have HCO := Lib.hid hcont
        have HOUT := Lib.hid hout
        have hlt' : (k : Int) < (l1.length : Int) := by omega
        clear hcont hout
        gi_wp2_with (refine ⟨trivial, ?_⟩; gi_at_call 25; refine (callsIn_wide.2 (slices_Contains_int_int.calls (l2.length + 1) A2 c2 l2 _ true _ HO2.out hc2 HCO.out)).mono ?_; rintro e w' ⟨rfl, hd⟩; obtain ⟨nd, rfl⟩ := hd.out)
        iterate 4 (try (refine ⟨(by intro f hf; cases hf), ?_⟩; gi_wp2))
        go_roundw
        case rel =>
          refine ⟨k + 1, pre, by omega, by first | (congr 1; done) | (congr 1; omega), Lib.hid ?_, abides_drewN hJ (abides_alloc hJ hJs _) _, hG.d _ _ (hG.a _ _ hnx)⟩
          rw [HSN.out, HP.out, if_pos (by unfold isOut; exact decide_eq_true HOUT.out), List.append_nil]
        case measure => simp [intOf]; omega
      · rw [decide_eq_false hout] at hcont
        have HCO := Lib.hid hcont
        have HOUT := Lib.hid hout
        have hlt' : (k : Int) < (l1.length : Int) := by omega
        clear hcont hout
        gi_wp2_with (refine ⟨trivial, ?_⟩; gi_at_call 25; refine (callsIn_wide.2 (slices_Contains_int_int.calls (l2.length + 1) A2 c2 l2 _ false _ HO2.out hc2 HCO.out)).mono ?_; rintro e w' ⟨rfl, hd⟩; obtain ⟨nd, rfl⟩ := hd.out; obtain ⟨fn, tmps, assign, body, hy, hR⟩ := hY pre ⟨(k, Aq, cq), HX.out⟩ _ (abides_drewN hJ (abides_alloc hJ hJs (.cells #[.int .i64 (rd_T24 l1 k).f0, .int .i64 (rd_T24 l1 k).f1, .slice Aq (rd_T24 l1 k).f2.length cq] 24)) nd) hpl; dsimp only [encP] at hy; have HR := Lib.hid hR; clear hR)
        refine HR.out.mono ?_
        rintro e W3 (⟨rfl, hJ3, hk3⟩ | ⟨rfl, hJx3⟩)
        · clear hy
          gi_wp2
          go_roundw
          case rel =>
            refine ⟨k + 1, pre ++ [⟨(k, Aq, cq), HX.out⟩], by omega, by first | (congr 1; done) | (congr 1; omega), Lib.hid ?_, hJ3, hG.keep _ _ (hG.d _ _ (hG.a _ _ hnx)) hk3⟩
            rw [HSN.out, List.map_append, HP.out, if_neg (by unfold isOut; rw [decide_eq_false HOUT.out]; simp)]
            rfl
          case measure => simp [intOf]; omega
        · clear hy
          gi_wp2
          refine bodyPost_ret (results_none rfl _ _ _) rfl ?_
          exact ⟨⟨_, rfl⟩, .inr ⟨_, trivial, hJx3⟩⟩
    · obtain rfl : k = l1.length := by omega
      gi_wp2
      all_goals
        go_end0
        exact ⟨⟨_, rfl⟩, .inl ⟨pre, HP.out, hJs⟩⟩
end Go.Proofs.Ytemachlhoanngaa.Given
