/- (*Disk).Write as one contract; slices.Clone of a log; (*Disk).Log. -/
import Derived.Test.YthcafgjcgikgpaaE7
import Derived.LoopTactic
import Derived.Deep.LoopGhost
namespace Go.Proofs.Ythcafgjcgikgpaa.Given
open Go.RowKit Go.Shelf Go.Proofs.YthcafgjcgikgpaaW.PrintWords Go.Proofs.YthcafgjcgikgpaaW.PrintLast Go.Proofs.YthcafgjcgikgpaaW.PrintMore Go.Proofs.YthcafgjcgikgpaaBase
set_option linter.unusedVariables false
set_option linter.unusedSimpArgs false

theorem write_calls (g : Nat) (base : Nat) (ok okx : Nat → Prop) (s : DS) (k : Int) (Ax : Option Addr) (cx : Nat) (x : List Int) (w : World)
    (h : IsD base ok w g s.b s.l s.cut s.dead) (hok : ∀ k, ok k → k < w.heap.size) (hbs : base ≤ w.heap.size) (hF : Kd.F (Kd.int .u8) w okx Ax x.length x) (hcx : x.length ≤ cx) (hap : ∀ k, okx k → ¬ ok k)
    (hn : s.b.length < 1000000000) (hl : s.l.length < 1000000000) (hcut : s.cut ≤ 9223372036854775807) (hcut0 : -1 ≤ s.cut) :
    Calls Try.prog 21 #[.pointer (some ⟨g, 0, none⟩), .int .i64 k, .slice Ax x.length cx] w fun e w' => e = .returned (.bool (writeD k x s).2) ∧
      IsD base (fun k => ok k ∨ w.heap.size ≤ k) w' g (writeD k x s).1.b (writeD k x s).1.l (writeD k x s).1.cut (writeD k x s).1.dead ∧ Off ok w w' := by
  by_cases hc : (!s.dead && decide (0 ≤ k ∧ k < ((s.b.length / 1024 : Nat) : Int))) = true ∧ x.length = 1024
  · obtain ⟨hc1, hx⟩ := hc
    have hw : writeD k x s = runW k.toNat x [0, 1] s := by unfold writeD; rw [if_pos ⟨hc1, hx⟩]
    simp only [Bool.and_eq_true, Bool.not_eq_true', decide_eq_true_eq] at hc1
    obtain ⟨hd, h0, h1⟩ := hc1
    have hs : { s with dead := false } = s := by rw [← hd]
    have hk : (k.toNat : Int) = k := by omega
    rw [hd] at h
    rw [hx] at hF hcx ⊢
    have := write_yes g base ok okx s k.toNat Ax cx x w h hok hbs hF hcx hap hx hn hl hcut hcut0 (by omega)
    rw [hs, hk, ← hw] at this
    exact this
  · have hw : writeD k x s = (s, false) := by unfold writeD; rw [if_neg hc]
    rw [hw]
    obtain ⟨vb, vl, hI, hbok, hR, hS⟩ := h
    obtain ⟨A, c, rfl⟩ := Kd.R_slice hR
    refine (write_no g A c s.b vl s.cut k s.dead Ax x.length cx w hI (by omega) ?_).mono ?_
    · by_cases hx : x.length = 1024
      · left
        cases ht : (!s.dead && decide (0 ≤ k ∧ k < ((s.b.length / 1024 : Nat) : Int))) with
        | false => rfl
        | true => exact absurd ⟨ht, hx⟩ hc
      · exact .inr hx
    · rintro e w' ⟨rfl, hb⟩
      refine ⟨rfl, ?_, Off.of_below hb ok⟩
      exact IsD.mono (IsD.below (W := w) (⟨_, vl, hI, hbok, hR, hS⟩ : IsD base ok w g s.b s.l s.cut s.dead) hb) (fun k hk => .inl hk)

set_option maxRecDepth 100000 in
set_option maxHeartbeats 1000000 in
theorem cloneW_calls (A0 : Option Addr) (c0 : Nat) (l0 : List S31) (okl : Nat → Prop) (w : World) (hF : Kd.F k31 w okl A0 l0.length l0) (hc0 : l0.length ≤ c0) (hlen : l0.length < 4000000000) (hokl : ∀ k, okl k → k < w.heap.size) :
    Calls Try.prog 35 #[.slice A0 l0.length c0] w fun e w' => ∃ v0_ : Value, e = .returned (v0_) ∧ Kd.N k31 73 w' w.heap.size (fun k => okl k ∨ w.heap.size ≤ k) v0_ l0 ∧ Below w.heap.size w w' := by
  have heq := fun (w : World) (a : Option Addr) (n c : Nat) => Lib.run_eql_slice_nil (P := Try.prog) w 52 73 a n c 0 0 Try.underlying52
  have HOKL := Lib.hid hokl
  clear hokl
  cases A0 with
  | none =>
    have hl : l0 = [] := by
      have := (Kd.F_now hF).2.2
      cases l0 with
      | nil => rfl
      | cons x l => obtain ⟨ad, e, _⟩ := this (by simp); cases e
    subst hl
    clear hF hc0
    go_enter Try.func35, Try.ntmps35
    go_wp2
    go_ret
    exact ⟨_, rfl, Kd.N_nil _ _ _ _ _, Below.refl _ _⟩
  | some ad =>
    have HC := Lib.hid hF
    clear hF
    have HO : Hid (Kd.N k31 73 (w.alloc (.cells #[] 73)) w.heap.size (fun k => okl k ∨ w.heap.size ≤ k) (.slice (some ⟨w.heap.size, 0, none⟩) 0 0) []) := by
      refine Lib.hid ⟨fun k e => .inr (by simp only [Value.ownBlock, Option.some.injEq] at e; omega), [], rfl, ⟨fun k hk => hk.symm, [], ⟨rfl, .inr ⟨w.heap.size, 0, #[], rfl, Nat.le_refl _, blk_new w (.cells #[] 73), Nat.le_refl _, Nat.zero_le _, rfl, rfl⟩⟩, Reps.none _ _⟩, fun j x c hx => by simp at hx⟩
    go_enter Try.func35, Try.ntmps35
    go_wp2_with (at_builtin; refine Kd.N_append_rows k31 (w0 := w) w.heap.size rfl (.tmp 5) (.tmp 6) 52 73 (.agg #[.int .i64 0, .slice none 0 0]) 32 rfl Try.underlying52 info31 rfl (by decide) (by omega) (.slice (some ⟨w.heap.size, 0, none⟩) 0 0) [] l0 _ _ c0 (fun k => okl k ∨ w.heap.size ≤ k) okl rfl rfl HO.out (Kd.F_alloc HC.out _) (fun k hk => ⟨.inl hk, fun e => by cases e; exact Nat.lt_irrefl _ (HOKL.out _ hk)⟩) (fun k hk => .inr (by simp at hk; omega)) ((Below.refl _ w).alloc (Nat.le_refl _) _) (by simp) (by simp; omega) ?_; intro v1 w1 hown hb1 hg hat)
    obtain ⟨A1, c1, rfl⟩ := Kd.N_slice hown
    go_wp2
    go_ret
    exact ⟨_, rfl, by simpa using hown, hb1⟩

/-- an element's two cells, and its row of bytes -/
theorem fk31 {W : World} {ok : Nat → Prop} {x : S31} {c : List Value} (h : Kd.FK k31 W ok x c) : ∃ A1 c1, c = [.int .i64 x.f0, .slice A1 x.f1.length c1] ∧ x.f1.length ≤ c1 ∧ Kd.C (Kd.int .u8) W A1 x.f1.length x.f1 := k31_open (Kd.FK_now h)

set_option maxRecDepth 100000 in
set_option maxHeartbeats 1000000 in
theorem log_calls (g : Nat) (vb : Value) (A : Option Addr) (c : Nat) (l : List S31) (cut : Int) (dead : Bool) (okl : Nat → Prop) (w : World) (h : IsB w g vb (.slice A l.length c) cut dead) (hF : Kd.F k31 w okl A l.length l) (hc : l.length ≤ c) (hl : l.length < 4000000000)
    (hokl : ∀ k, okl k → k < w.heap.size) (hb : ∀ x ∈ l, x.f1.length < 140737488351232) :
    Calls Try.prog 26 #[.pointer (some ⟨g, 0, none⟩)] w fun e w' => ∃ v0_ : Value, e = .returned (v0_) ∧ Kd.N k31 73 w' w.heap.size (fun k => okl k ∨ w.heap.size ≤ k) v0_ l ∧ Below w.heap.size w w' := by
  have b1 := h.c1
  have HF := Lib.hid hF
  have HOKL := Lib.hid hokl
  have HBL := Lib.hid hb
  clear h hF hokl hb
  go_enter Try.func26, Try.ntmps26
  go_wp2_with (first | (go_at_call 35; refine (cloneW_calls A c l okl _ HF.out hc hl HOKL.out).mono ?_; rintro e w1 ⟨v1, rfl, hN, hb⟩; obtain ⟨A1, c1, rfl⟩ := Kd.N_slice hN; have HN := Lib.hid hN; have HB := Lib.hid hb; clear hN hb))
  go_loopw [12, 4] (fun i j wr => ∃ m : Nat, m ≤ l.length ∧ i = .int .i64 (m : Int) ∧ Hid (Kd.N k31 73 wr w.heap.size (fun k => okl k ∨ w.heap.size ≤ k) (.slice A1 l.length c1) l) ∧ Hid (Below w.heap.size w wr)) (fun i _ _ => l.length - (intOf i).toNat)
  case atStart => exact ⟨0, Nat.zero_le _, rfl, HN, HB⟩
  case round =>
    obtain ⟨m, hm, rfl, HN2, HB2⟩ := hrel
    by_cases hlt : m < l.length
    · have hlti : (m : Int) < (l.length : Int) := by omega
      obtain ⟨G, cap, hv, hG0, hG1, hG2⟩ := Kd.N_form HN2.out (by omega)
      injection hv with hv1 _ hv2
      subst hv1 hv2
      obtain ⟨ce, hcl, hFK, hcc, hfr⟩ := Kd.N_elem HN2.out z31 (m : Int) (by omega) hlti
      rw [Int.toNat_natCast] at hFK hcc hfr
      obtain ⟨y, hy⟩ : ∃ y, l.getD m z31 = y := ⟨_, rfl⟩
      rw [hy] at hFK
      have hmem : y ∈ l := by
        rw [← hy, List.getD_eq_getElem?_getD, List.getElem?_eq_getElem hlt, Option.getD_some]
        exact List.getElem_mem _
      have hset : l.set m y = l := by
        rw [← hy, List.getD_eq_getElem?_getD, List.getElem?_eq_getElem hlt, Option.getD_some]
        exact List.set_getElem_self hlt
      obtain ⟨A3, c3, rfl, hl3, hC3⟩ := fk31 hFK
      have k1 : wr.cell? ⟨G, m * 2 + 1, none⟩ = some (.slice A3 y.f1.length c3) := hcc 1 _ rfl
      have HC3 := Lib.hid hC3
      have hyl := HBL.out y hmem
      have HSET := Lib.hid hset
      have HFR := Lib.hid hfr
      have HCC := Lib.hid hcc
      clear hFK hcc hfr hy hmem hset hC3
      go_wp2_with (first | (go_at_call 31; refine (clone_calls A3 c3 y.f1 _ HC3.out hl3 hyl).mono ?_; rintro e w2 ⟨v2, rfl, hR, hb⟩; obtain ⟨A4, c4, rfl⟩ := Kd.R_slice hR; have k2 := (hb.cell (World.block_lt_of_cell? wr _ k1)).trans k1; have f2 := (hb.frozen (p := ⟨G, m * 2 + 1, none⟩) hG1).trans (HFR.out 1); have HR := Lib.hid hR; have HB3 := Lib.hid hb; clear hR hb))
      have hN3 := Kd.N_seg (Kd.N_below HN2.out HB3.out) (m : Int) (by omega) hlti (c := [.int .i64 y.f0, .slice A3 y.f1.length c3]) (seg := [.slice A4 y.f1.length c4]) (j := 1) (okp := fun k => wr.heap.size ≤ k) (x' := y) rfl
        (fun j u hu => by rw [Int.toNat_natCast]; exact (HB3.out.cell (World.block_lt_of_cell? wr _ (HCC.out j u hu))).trans (HCC.out j u hu)) (by show 1 + 1 ≤ 2; decide)
        (Kd.FK_of_M (base := wr.heap.size) (k31_mkM w2 _ _ y (Kd.R_mono (Kd.R_bound HR.out) (fun k hk => hk.2.1)))) (fun k hk => ⟨.inr (by have := HB2.out.size; omega), by omega⟩)
      rw [Int.toNat_natCast, HSET.out] at hN3
      go_roundw
      case rel => exact ⟨m + 1, by omega, by go_num, Lib.hid hN3.1, Lib.hid (((HB2.out.trans (HB3.out.mono HB2.out.size))).setCell (by simp; omega) _)⟩
      case measure => simp [intOf]; omega
    · obtain rfl : m = l.length := by omega
      go_wp2
      go_ret
      exact ⟨_, rfl, HN2.out, HB2.out⟩
end Go.Proofs.Ythcafgjcgikgpaa.Given
