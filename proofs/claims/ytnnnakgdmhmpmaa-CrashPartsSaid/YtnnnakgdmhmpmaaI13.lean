/- CrashParts: the walk. -/
import Derived.Test.YtnnnakgdmhmpmaaI12
import Derived.Deep.DeepCutAuto
import Derived.Deep.CutBlock
namespace Go.Proofs.Ytnnnakgdmhmpmaa.Given
open Go.RowKit Go.Proofs.YtnnnakgdmhmpmaaW.PrintWords Go.Proofs.YtnnnakgdmhmpmaaW.PrintLast Go.Proofs.YtnnnakgdmhmpmaaW.PrintMore Go.Proofs.YtnnnakgdmhmpmaaBase
set_option linter.unusedVariables false
set_option linter.unusedSimpArgs false

theorem WS.lower {base base' : Nat} {w : World} {g : Nat} {N : List NS} {Q : List PS} (h : WS base w g N Q) (hb : base' ≤ base) : WS base' w g N Q := by
  obtain ⟨bn, bp, N', Q', hI, h1, h2⟩ := h
  exact ⟨bn, bp, N', Q', hI.lower hb, h1, h2⟩
theorem C29_two {w : World} {b : Nat} {fz : Nat × Nat} {x y : S29} {A4 A5 B4 B5 : Option Addr} {c4 c5 d4 d5 : Nat} (hb : w.heap[b]? = some (.cells #[.int .i64 x.f0, .int .i64 x.f1, .int .i64 x.f2, .int .i64 x.f3, .slice A4 x.f4.length c4, .slice A5 x.f5.length c5, .int .i64 y.f0, .int .i64 y.f1, .int .i64 y.f2, .int .i64 y.f3, .slice B4 y.f4.length d4, .slice B5 y.f5.length d5] 29 fz)) (hN : Node w x A4 c4 A5 c5) (hM : Node w y B4 d4 B5 d5) :
    Kd.C k29 w (some ⟨b, 0, none⟩) [x, y].length [x, y] := by
  refine ⟨rfl, by simp, fun _ => ⟨_, rfl, fun j p hj => ?_⟩⟩
  have hc := fun i => cell_of_row w b i _ 29 fz hb
  match j, hj with
  | 0, hj =>
    simp only [List.getElem?_cons_zero, Option.some.injEq] at hj
    subst hj
    refine ⟨_, rfl, k29_mk hN, fun i u hu => ?_⟩
    rw [add_plain, hc]
    have hi : i < 6 := (List.getElem?_eq_some_iff.1 hu).1
    show _ = some u
    rw [← hu]
    match i, hi with
    | 0, _ => rfl
    | 1, _ => rfl
    | 2, _ => rfl
    | 3, _ => rfl
    | 4, _ => rfl
    | 5, _ => rfl
  | 1, hj =>
    simp only [List.getElem?_cons_succ, List.getElem?_cons_zero, Option.some.injEq] at hj
    subst hj
    refine ⟨_, rfl, k29_mk hM, fun i u hu => ?_⟩
    rw [add_plain, hc]
    have hi : i < 6 := (List.getElem?_eq_some_iff.1 hu).1
    show _ = some u
    rw [← hu]
    match i, hi with
    | 0, _ => rfl
    | 1, _ => rfl
    | 2, _ => rfl
    | 3, _ => rfl
    | 4, _ => rfl
    | 5, _ => rfl
theorem C39_one {w : World} {b : Nat} {fz : Nat × Nat} {x : S39} {A : Option Addr} {c : Nat} (hb : w.heap[b]? = some (.cells #[.int .i64 x.f0, .slice A x.f1.length c] 39 fz)) (hl : x.f1.length ≤ c) (hC : Kd.C (Kd.int .u8) w A x.f1.length x.f1) : Kd.C k39 w (some ⟨b, 0, none⟩) [x].length [x] := by
  refine ⟨rfl, by simp, fun _ => ⟨_, rfl, fun j p hj => ?_⟩⟩
  have hc := fun i => cell_of_row w b i _ 39 fz hb
  match j, hj with
  | 0, hj =>
    simp only [List.getElem?_cons_zero, Option.some.injEq] at hj
    subst hj
    refine ⟨_, rfl, k39_mk w x hl hC, fun i u hu => ?_⟩
    rw [Nat.zero_mul, Nat.zero_add, add_plain, hc]
    simpa using hu
theorem C8_one {w : World} {b : Nat} {fz : Nat × Nat} {x : Int} (hb : w.heap[b]? = some (.cells #[.int .u8 x] 5 fz)) : Kd.C (Kd.int .u8) w (some ⟨b, 0, none⟩) [x].length [x] := by
  refine Kd.C_of_reads (d := (0 : Int)) ⟨rfl, by simp, fun _ => ⟨_, rfl, fun j hj => ?_⟩⟩
  obtain rfl : j = 0 := by simp at hj; exact hj
  rw [add_plain, cell_of_row w b 0 _ 5 fz hb]
  rfl
/-- a directory and a file, without blocks -/
def nE : List S29 := [⟨1, 2, 0, 0, [], []⟩, ⟨2, 1, 0, 0, [], []⟩]
def cE : Array Value := #[.int .i64 1, .int .i64 2, .int .i64 0, .int .i64 0, .slice none 0 0, .slice none 0 0, .int .i64 2, .int .i64 1, .int .i64 0, .int .i64 0, .slice none 0 0, .slice none 0 0]
theorem new_nE_calls (b : Nat) {c : Nat} {w : World} (hb : w.heap[b]? = some (.cells #[.int .i64 1, .int .i64 2, .int .i64 0, .int .i64 0, .slice none 0 0, .slice none 0 0, .int .i64 2, .int .i64 1, .int .i64 0, .int .i64 0, .slice none 0 0, .slice none 0 0] 29 (0, 0))) :
    Calls Try.prog 7 #[.slice (some ⟨b, 0, none⟩) 2 c] w fun e w' => ∃ g, e = .returned (.pointer (some ⟨g, 0, none⟩)) ∧ WS w.heap.size w' g [] [] ∧ Below w.heap.size w w' := by
  have hC : Kd.C k29 w (some ⟨b, 0, none⟩) nE.length nE := C29_two (x := ⟨1, 2, 0, 0, [], []⟩) (y := ⟨2, 1, 0, 0, [], []⟩) hb (node_nD w _ rfl rfl) (node_nD w _ rfl rfl)
  have hf : ∀ n ∈ nE, NodeFit n := by
    intro n hn
    unfold nE at hn
    simp only [List.mem_cons, List.not_mem_nil, or_false] at hn
    rcases hn with rfl | rfl
    · exact ⟨(by unfold I64; decide : I64 1), by simp, by simp⟩
    · exact ⟨(by unfold I64; decide : I64 2), by simp, by simp⟩
  refine (new_calls (c := c) hC hf).mono ?_
  rintro e w' ⟨g, rfl, hW, hb⟩
  have e1 : syncS (nE.foldl nodeN []) = [] := by simp [nE, nodeN, syncS]
  have e2 : nE.foldl nodeQ [] = [] := by simp [nE, nodeQ]
  rw [e1, e2] at hW
  exact ⟨g, rfl, hW, hb⟩
theorem part_one {base : Nat} {w : World} {g b c : Nat} {N : List NS} {Q : List PS} (h : WS base w g N Q) {i a x : Int} (hd : I64 i) (hs : I64 a) (hC : Kd.C (Kd.int .u8) w (some ⟨b, 0, none⟩) [x].length [x]) (_ : True) :
    Calls Try.prog 11 #[.pointer (some ⟨g, 0, none⟩), .int .i64 i, .int .i64 a, .slice (some ⟨b, 0, none⟩) 1 c] w fun e w' => e = .returned (.tuple #[]) ∧ WS base w' g N (partS Q i a (blk [x])) ∧ Below base w w' ∧ KeepC w w' := part_calls h hd hs hC (by simp)
theorem u8_of_wf {n : Int} (h : (Lit.int .u8 n).wf = true) : 0 ≤ n ∧ n ≤ 255 := by
  have h1 : IntKind.u8.min = 0 := by decide
  have h2 : IntKind.u8.max = 255 := by decide
  simp only [Lit.wf, h1, h2, Bool.and_eq_true, decide_eq_true_eq] at h
  exact h

theorem ok_two {base : Nat} {w : World} {g b c : Nat} {N : List NS} {Q : List PS} (h : WS base w g N Q) {x y : S29} (hC : Kd.C k29 w (some ⟨b, 0, none⟩) [x, y].length [x, y]) (hf : NodeFit x ∧ NodeFit y) (hN : ∀ x ∈ N, x.ever.length ≤ 9223372036854775807 ∧ I64 x.dir ∧ x.nm.size ≤ maxLen) :
    Calls Try.prog 10 #[.pointer (some ⟨g, 0, none⟩), .slice (some ⟨b, 0, none⟩) 2 c] w (MayP N Q [x, y] w) := ok_calls h hC (fun n hn => by
      simp only [List.mem_cons, List.not_mem_nil, or_false] at hn
      rcases hn with rfl | rfl
      · exact hf.1
      · exact hf.2) hN
theorem fit_nB {pos f : Int} (hp : I64 pos) : NodeFit ⟨1, 2, 0, 0, [], []⟩ ∧ NodeFit ⟨2, 1, 0, 0, [⟨pos, headB f⟩], []⟩ := by
  refine ⟨⟨(by unfold I64; decide : I64 1), by simp, by simp⟩, ⟨(by unfold I64; decide : I64 2), by simp, fun p hp' => ?_⟩⟩
  rw [List.mem_singleton] at hp'
  subst hp'
  exact hp
theorem C_nB {wd : World} {bb : Nat} {pos f : Int} (hC : Kd.C (Kd.int .u8) wd (some ⟨bb, 0, none⟩) (headB f).length (headB f)) :
    Kd.C k29 ((wd.alloc (.cells #[.int .i64 pos, .slice (some ⟨bb, 0, none⟩) 1024 1024] 39)).alloc (.cells #[.int .i64 1, .int .i64 2, .int .i64 0, .int .i64 0, .slice none 0 0, .slice none 0 0, .int .i64 2, .int .i64 1, .int .i64 0, .int .i64 0, .slice (some ⟨wd.heap.size, 0, none⟩) 1 1, .slice none 0 0] 29)) (some ⟨wd.heap.size + 1, 0, none⟩) (nB pos f).length (nB pos f) := by
  have hb1 := blk_new wd (.cells #[.int .i64 pos, .slice (some ⟨bb, 0, none⟩) 1024 1024] 39)
  have hb2 := blk_new (wd.alloc (.cells #[.int .i64 pos, .slice (some ⟨bb, 0, none⟩) 1024 1024] 39)) (.cells #[.int .i64 1, .int .i64 2, .int .i64 0, .int .i64 0, .slice none 0 0, .slice none 0 0, .int .i64 2, .int .i64 1, .int .i64 0, .int .i64 0, .slice (some ⟨wd.heap.size, 0, none⟩) 1 1, .slice none 0 0] 29)
  rw [World.size_alloc] at hb2
  have hbb := below_alloc (below_alloc (Below.refl wd.heap.size wd) (.cells #[.int .i64 pos, .slice (some ⟨bb, 0, none⟩) 1024 1024] 39)) (.cells #[.int .i64 1, .int .i64 2, .int .i64 0, .int .i64 0, .slice none 0 0, .slice none 0 0, .int .i64 2, .int .i64 1, .int .i64 0, .int .i64 0, .slice (some ⟨wd.heap.size, 0, none⟩) 1 1, .slice none 0 0] 29)
  have hC2 := Kd.C_below hC hbb
  have hb1' := blk_alloc hb1 (.cells #[.int .i64 1, .int .i64 2, .int .i64 0, .int .i64 0, .slice none 0 0, .slice none 0 0, .int .i64 2, .int .i64 1, .int .i64 0, .int .i64 0, .slice (some ⟨wd.heap.size, 0, none⟩) 1 1, .slice none 0 0] 29)
  refine C29_two (x := ⟨1, 2, 0, 0, [], []⟩) (y := ⟨2, 1, 0, 0, [⟨pos, headB f⟩], []⟩) hb2 (node_nD _ _ rfl rfl) ⟨by simp, by simp, ?_, Kd.C_nil _ _⟩
  refine C39_one (fz := (0, 0)) (x := ⟨pos, headB f⟩) (c := 1024) ?_ (by simp only [headB_len]; exact Nat.le_refl _) hC2
  simp only [headB_len]
  exact hb1'

set_option maxRecDepth 100000 in
set_option maxHeartbeats 4000000 in
theorem parts_row (A : Option Addr) (c : Nat) (l : List Int) (b : Bool) (f : Int) (w : World) (hC : Kd.C (Kd.int .u8) w A l.length l) (hc : l.length ≤ c) (hl : l.length ≤ maxLen ∧ ∀ y ∈ l, (Lit.int .u8 y).wf = true) (hf : (Lit.int .u8 f).wf = true) :
    Calls Try.prog 4 #[.slice A l.length c, .bool b, .int .u8 f] w fun e w' => e = .returned (.bool true) ∧ Below w.heap.size w w' := by
  have hlm := hl.1
  unfold maxLen at hlm
  by_cases h1 : 50 < l.length
  · have h1i : (50 : Int) < (l.length : Int) := by omega
    clear hC hl
    go_enter Try.func4, Try.ntmps4
    go_wp2_with (go_at_call 6; (with_reducible refine (alive_calls _).mono ?_); rintro e w1 ⟨rfl, hb⟩; have HB := Lib.hid hb; clear hb)
    go_ret
    exact ⟨rfl, HB.out⟩
  have h50 : l.length ≤ 50 := by omega
  have h50i : ¬ (50 : Int) < (l.length : Int) := by omega
  obtain ⟨hf0, hf1⟩ := u8_of_wf hf
  have HWF : Hid (∀ j, j < l.length → 0 ≤ wasB l j ∧ wasB l j ≤ 255) := Lib.hid (fun j hj => by unfold wasB; rw [List.getD_eq_getElem?_getD, List.getElem?_eq_getElem hj, Option.getD_some]; exact u8_of_wf (hl.2 _ (List.getElem_mem hj)))
  have HC := Lib.hid hC
  have hi2 : Hid (I64 2) := Lib.hid (by unfold I64; decide)
  have hi5 : Hid (I64 5) := Lib.hid (by unfold I64; decide)
  clear hl hC hf h1
  go_enter Try.func4, Try.ntmps4
  go_wp2_with (first
    | (go_at_call 6; (with_reducible refine (alive_calls _).mono ?_); rintro e w1 ⟨rfl, hb⟩; have HB1 := Lib.hid hb; have HBK := Lib.hid (blk_new w1 (.cells #[.int .i64 1, .int .i64 2, .int .i64 0, .int .i64 0, .slice none 0 0, .slice none 0 0, .int .i64 2, .int .i64 1, .int .i64 0, .int .i64 0, .slice none 0 0, .slice none 0 0] 29)); clear hb)
    | (go_at_call 7; (with_reducible refine (new_nE_calls _ HBK.out).mono ?_); rintro e w2 ⟨g, rfl, hW, hb⟩; have HW : Hid (WS w.heap.size w2 g [] (stQ l 0) ∧ Below w.heap.size w w2) := Lib.hid ⟨WS.lower hW (Nat.le_trans HB1.out.size (by simp)), ((HB1.out.alloc HB1.out.size _).trans (hb.mono (Nat.le_trans HB1.out.size (by simp))))⟩; clear hW hb))
  clear HBK HB1
  go_loopw [9, 10] (fun q i wr => ∃ (m : Nat) (q' : Bool), m ≤ l.length ∧ i = .int .i64 (m : Int) ∧ q = .bool q' ∧ Hid (q' = true ↔ f = 0 ∨ ∃ j, j < m ∧ wasB l j = f) ∧ Hid (WS w.heap.size wr g [] (stQ l m) ∧ Below w.heap.size w wr)) (fun _ i _ => l.length - (intOf i).toNat)
  case atStart => exact ⟨0, _, Nat.zero_le _, rfl, rfl, Lib.hid (by simp), HW⟩
  case round =>
    clear HW
    obtain ⟨m, q, hm, rfl, rfl, HQ, HW⟩ := hrel
    by_cases hlt : m < l.length
    · have hlti : (m : Int) < (l.length : Int) := by omega
      obtain ⟨ad, rfl, hcell⟩ := C_cells HC.out (by omega)
      have hcl : w.cell? (ad.add m) = some (.int .u8 (wasB l m)) := hcell m _ (by unfold wasB; simp [nums, List.getElem?_eq_getElem hlt, List.getD_eq_getElem?_getD])
      have HE : Hid (stQ l (m + 1) = partS (stQ l m) 2 5 (blk [wasB l m])) := Lib.hid rfl
      obtain ⟨x, hx⟩ : ∃ x, wasB l m = x := ⟨_, rfl⟩
      obtain ⟨hx0, hx1⟩ := HWF.out m hlt
      rw [hx] at hcl hx0 hx1 HE
      have HX := Lib.hid hx
      have HCW := Lib.hid hcl
      have hcr := pw_cell_below HW.out.2 hcl
      have HWA : Hid (WS w.heap.size (wr.alloc (.cells #[.int .u8 x] 5)) g [] (stQ l m) ∧ Below w.heap.size w (wr.alloc (.cells #[.int .u8 x] 5))) := Lib.hid ⟨HW.out.1.below (below_alloc (Below.refl _ _) _), HW.out.2.alloc HW.out.2.size _⟩
      have HCD : Hid (Kd.C (Kd.int .u8) (wr.alloc (.cells #[.int .u8 x] 5)) (some ⟨wr.heap.size, 0, none⟩) [x].length [x]) := Lib.hid (C8_one (blk_new wr _))
      clear hcell hx hcl HW
      cases q with
      | true =>
        have HQ2 : Hid (true = true ↔ f = 0 ∨ ∃ j, j < m + 1 ∧ wasB l j = f) := Lib.hid ⟨fun _ => (HQ.out.1 rfl).imp id (fun ⟨j, h1, h2⟩ => ⟨j, by omega, h2⟩), fun _ => rfl⟩
        have d1 : True := trivial
        have d2 : True := trivial
        clear HQ
        cases b with
        | false =>
          go_wp2_with (go_at_call 11; (with_reducible refine (part_one HWA.out.1 hi2.out hi5.out HCD.out trivial).mono ?_); rintro e w4 ⟨rfl, hW4, hb4, _⟩; have HW4 : Hid (WS w.heap.size w4 g [] (stQ l (m + 1)) ∧ Below w.heap.size w w4) := Lib.hid ⟨by rw [HE.out]; exact hW4, HWA.out.2.trans hb4⟩; have hc4 := pw_cell_below HW4.out.2 HCW.out; clear hW4 hb4)
          go_roundw
          case rel => exact ⟨m + 1, true, by omega, by go_num, by first | rfl | simp [d1] | simp [d2], Lib.hid (by first | exact HQ2.out | simpa using HQ2.out), HW4⟩
          case measure => simp [intOf]; omega
        | true =>
          by_cases hmk : m = l.length / 2
          · have b0 : decide ((m : Int) = (l.length : Int) / 2) = true := by simp; omega
            have b1 : ((m : Int) == (l.length : Int) / 2) = true := by simp; omega
            clear hmk
            go_wp2_with (first | (go_at_call 11; (with_reducible refine (part_one HWA.out.1 hi2.out hi5.out HCD.out trivial).mono ?_); rintro e w4 ⟨rfl, hW4, hb4, _⟩; have HW4 : Hid (WS w.heap.size w4 g [] (stQ l (m + 1)) ∧ Below w.heap.size w w4) := Lib.hid ⟨by rw [HE.out]; exact hW4, HWA.out.2.trans hb4⟩; have hc4 := pw_cell_below HW4.out.2 HCW.out; clear hW4 hb4) | (go_at_call 8; (with_reducible refine (synced_calls HW4.out.1).mono ?_); rintro e w5 ⟨rfl, hW5, hb5⟩; have HW5 : Hid (WS w.heap.size w5 g [] (stQ l (m + 1)) ∧ Below w.heap.size w w5) := Lib.hid ⟨hW5, HW4.out.2.trans hb5⟩; clear hW5 hb5))
            go_roundw
            case rel => exact ⟨m + 1, true, by omega, by go_num, by first | rfl | simp [d1] | simp [d2], Lib.hid (by first | exact HQ2.out | simpa using HQ2.out), HW5⟩
            case measure => simp [intOf]; omega
          · have b0 : decide ((m : Int) = (l.length : Int) / 2) = false := by simp; omega
            have b1 : ((m : Int) == (l.length : Int) / 2) = false := by simp; omega
            clear hmk
            go_wp2_with (go_at_call 11; (with_reducible refine (part_one HWA.out.1 hi2.out hi5.out HCD.out trivial).mono ?_); rintro e w4 ⟨rfl, hW4, hb4, _⟩; have HW4 : Hid (WS w.heap.size w4 g [] (stQ l (m + 1)) ∧ Below w.heap.size w w4) := Lib.hid ⟨by rw [HE.out]; exact hW4, HWA.out.2.trans hb4⟩; have hc4 := pw_cell_below HW4.out.2 HCW.out; clear hW4 hb4)
            go_roundw
            case rel => exact ⟨m + 1, true, by omega, by go_num, by first | rfl | simp [d1] | simp [d2], Lib.hid (by first | exact HQ2.out | simpa using HQ2.out), HW4⟩
            case measure => simp [intOf]; omega
      | false =>
        by_cases hxf : x = f
        · have HQ2 : Hid (true = true ↔ f = 0 ∨ ∃ j, j < m + 1 ∧ wasB l j = f) := Lib.hid ⟨fun _ => .inr ⟨m, by omega, by rw [HX.out]; exact hxf⟩, fun _ => rfl⟩
          have d1 : (x == f) = true := by simpa using hxf
          have d2 : decide (x = f) = true := by simpa using hxf
          clear HQ hxf
          cases b with
          | false =>
            go_wp2_with (go_at_call 11; (with_reducible refine (part_one HWA.out.1 hi2.out hi5.out HCD.out trivial).mono ?_); rintro e w4 ⟨rfl, hW4, hb4, _⟩; have HW4 : Hid (WS w.heap.size w4 g [] (stQ l (m + 1)) ∧ Below w.heap.size w w4) := Lib.hid ⟨by rw [HE.out]; exact hW4, HWA.out.2.trans hb4⟩; have hc4 := pw_cell_below HW4.out.2 HCW.out; clear hW4 hb4)
            go_roundw
            case rel => exact ⟨m + 1, true, by omega, by go_num, by first | rfl | simp [d1] | simp [d2], Lib.hid (by first | exact HQ2.out | simpa using HQ2.out), HW4⟩
            case measure => simp [intOf]; omega
          | true =>
            by_cases hmk : m = l.length / 2
            · have b0 : decide ((m : Int) = (l.length : Int) / 2) = true := by simp; omega
              have b1 : ((m : Int) == (l.length : Int) / 2) = true := by simp; omega
              clear hmk
              go_wp2_with (first | (go_at_call 11; (with_reducible refine (part_one HWA.out.1 hi2.out hi5.out HCD.out trivial).mono ?_); rintro e w4 ⟨rfl, hW4, hb4, _⟩; have HW4 : Hid (WS w.heap.size w4 g [] (stQ l (m + 1)) ∧ Below w.heap.size w w4) := Lib.hid ⟨by rw [HE.out]; exact hW4, HWA.out.2.trans hb4⟩; have hc4 := pw_cell_below HW4.out.2 HCW.out; clear hW4 hb4) | (go_at_call 8; (with_reducible refine (synced_calls HW4.out.1).mono ?_); rintro e w5 ⟨rfl, hW5, hb5⟩; have HW5 : Hid (WS w.heap.size w5 g [] (stQ l (m + 1)) ∧ Below w.heap.size w w5) := Lib.hid ⟨hW5, HW4.out.2.trans hb5⟩; clear hW5 hb5))
              go_roundw
              case rel => exact ⟨m + 1, true, by omega, by go_num, by first | rfl | simp [d1] | simp [d2], Lib.hid (by first | exact HQ2.out | simpa using HQ2.out), HW5⟩
              case measure => simp [intOf]; omega
            · have b0 : decide ((m : Int) = (l.length : Int) / 2) = false := by simp; omega
              have b1 : ((m : Int) == (l.length : Int) / 2) = false := by simp; omega
              clear hmk
              go_wp2_with (go_at_call 11; (with_reducible refine (part_one HWA.out.1 hi2.out hi5.out HCD.out trivial).mono ?_); rintro e w4 ⟨rfl, hW4, hb4, _⟩; have HW4 : Hid (WS w.heap.size w4 g [] (stQ l (m + 1)) ∧ Below w.heap.size w w4) := Lib.hid ⟨by rw [HE.out]; exact hW4, HWA.out.2.trans hb4⟩; have hc4 := pw_cell_below HW4.out.2 HCW.out; clear hW4 hb4)
              go_roundw
              case rel => exact ⟨m + 1, true, by omega, by go_num, by first | rfl | simp [d1] | simp [d2], Lib.hid (by first | exact HQ2.out | simpa using HQ2.out), HW4⟩
              case measure => simp [intOf]; omega
        · have HQ2 : Hid (false = true ↔ f = 0 ∨ ∃ j, j < m + 1 ∧ wasB l j = f) := Lib.hid ⟨fun h => (by cases h), fun h => HQ.out.2 (h.imp id (fun ⟨j, h1, h2⟩ => ⟨j, by
              rcases Nat.lt_succ_iff_lt_or_eq.1 h1 with h1 | rfl
              · exact h1
              · exact absurd (HX.out.symm.trans h2) hxf, h2⟩))⟩
          have d1 : (x == f) = false := by simpa using hxf
          have d2 : decide (x = f) = false := by simpa using hxf
          clear HQ hxf
          cases b with
          | false =>
            go_wp2_with (go_at_call 11; (with_reducible refine (part_one HWA.out.1 hi2.out hi5.out HCD.out trivial).mono ?_); rintro e w4 ⟨rfl, hW4, hb4, _⟩; have HW4 : Hid (WS w.heap.size w4 g [] (stQ l (m + 1)) ∧ Below w.heap.size w w4) := Lib.hid ⟨by rw [HE.out]; exact hW4, HWA.out.2.trans hb4⟩; have hc4 := pw_cell_below HW4.out.2 HCW.out; clear hW4 hb4)
            go_roundw
            case rel => exact ⟨m + 1, false, by omega, by go_num, by first | rfl | simp [d1] | simp [d2], Lib.hid (by first | exact HQ2.out | simpa using HQ2.out), HW4⟩
            case measure => simp [intOf]; omega
          | true =>
            by_cases hmk : m = l.length / 2
            · have b0 : decide ((m : Int) = (l.length : Int) / 2) = true := by simp; omega
              have b1 : ((m : Int) == (l.length : Int) / 2) = true := by simp; omega
              clear hmk
              go_wp2_with (first | (go_at_call 11; (with_reducible refine (part_one HWA.out.1 hi2.out hi5.out HCD.out trivial).mono ?_); rintro e w4 ⟨rfl, hW4, hb4, _⟩; have HW4 : Hid (WS w.heap.size w4 g [] (stQ l (m + 1)) ∧ Below w.heap.size w w4) := Lib.hid ⟨by rw [HE.out]; exact hW4, HWA.out.2.trans hb4⟩; have hc4 := pw_cell_below HW4.out.2 HCW.out; clear hW4 hb4) | (go_at_call 8; (with_reducible refine (synced_calls HW4.out.1).mono ?_); rintro e w5 ⟨rfl, hW5, hb5⟩; have HW5 : Hid (WS w.heap.size w5 g [] (stQ l (m + 1)) ∧ Below w.heap.size w w5) := Lib.hid ⟨hW5, HW4.out.2.trans hb5⟩; clear hW5 hb5))
              go_roundw
              case rel => exact ⟨m + 1, false, by omega, by go_num, by first | rfl | simp [d1] | simp [d2], Lib.hid (by first | exact HQ2.out | simpa using HQ2.out), HW5⟩
              case measure => simp [intOf]; omega
            · have b0 : decide ((m : Int) = (l.length : Int) / 2) = false := by simp; omega
              have b1 : ((m : Int) == (l.length : Int) / 2) = false := by simp; omega
              clear hmk
              go_wp2_with (go_at_call 11; (with_reducible refine (part_one HWA.out.1 hi2.out hi5.out HCD.out trivial).mono ?_); rintro e w4 ⟨rfl, hW4, hb4, _⟩; have HW4 : Hid (WS w.heap.size w4 g [] (stQ l (m + 1)) ∧ Below w.heap.size w w4) := Lib.hid ⟨by rw [HE.out]; exact hW4, HWA.out.2.trans hb4⟩; have hc4 := pw_cell_below HW4.out.2 HCW.out; clear hW4 hb4)
              go_roundw
              case rel => exact ⟨m + 1, false, by omega, by go_num, by first | rfl | simp [d1] | simp [d2], Lib.hid (by first | exact HQ2.out | simpa using HQ2.out), HW4⟩
              case measure => simp [intOf]; omega
    · obtain rfl : m = l.length := by omega
      clear hlt
      have hmk := make1024
      have hown := own_made' wr w.heap.size 5 .u8 1024 HW.out.2.size (by omega)
      have hown2 := own_put hown 0 f
      have hz0 : (wr.alloc (.cells Z1024 5)).cell? ⟨wr.heap.size, 0, none⟩ = some (.int .u8 0) := by
        have := (own_at (n := 1024) (xs := List.replicate 1024 0) (by simpa only [List.length_replicate] using hown) 0 (by omega) (by omega)).1
        exact this
      have hzf : (wr.alloc (.cells Z1024 5)).frozen? ⟨wr.heap.size, 0, none⟩ = false := blk_frozen (blk_new wr (.cells Z1024 5)) 0
      have e14 : (wr.alloc (.cells Z1024 5)).setCell ⟨wr.heap.size, 0, none⟩ (.int .u8 f) = wr.alloc (.cells (Z1024.setIfInBounds 0 (.int .u8 f)) 5) := World.setCell_alloc_at _ _ _ _ _ rfl
      have E14 := Lib.hid e14
      clear e14
      go_upto_region 14 with (fail)
      go_cut [11] (fun s11 wd => ∃ bb : Nat, s11 = .slice (some ⟨bb, 0, none⟩) 1024 1024 ∧ Hid (Kd.C (Kd.int .u8) wd (some ⟨bb, 0, none⟩) (headB f).length (headB f)) ∧ Hid (WS w.heap.size wd g [] (stQ l l.length) ∧ Below w.heap.size w wd))
      case first =>
        have HR : Hid (Kd.C (Kd.int .u8) ((wr.alloc (.cells Z1024 5)).setCell ⟨wr.heap.size, 0, none⟩ (.int .u8 f)) (some ⟨wr.heap.size, 0, none⟩) (headB f).length (headB f)) := Lib.hid (by
          have h1 : Kd.R (Kd.int .u8) 5 ((wr.alloc (.cells Z1024 5)).setCell ⟨wr.heap.size, 0, none⟩ (.int .u8 f)) w.heap.size (fun _ => True) (.slice (some ⟨wr.heap.size, 0, none⟩) 1024 1024) (headB f) := Kd.R_of_own (by
            have h2 : (zeros.length) = 1024 := zeros_len
            have h3 := own_put (W := wr.alloc (.cells Z1024 5)) (g := wr.heap.size) (cap := 1024) (xs := zeros) (by have := hown; rw [show (List.replicate 1024 (0 : Int)).length = zeros.length from rfl] at this; rw [h2] at this ⊢; exact this) 0 f
            rw [show (zeros.set (0 : Int).toNat f) = headB f from rfl, headB_len, h2] at h3
            rw [headB_len]
            exact h3) (fun _ _ => trivial)
          have h4 := (Kd.R_reads h1)
          obtain ⟨A9, c9, e9, _, hC9⟩ := h4
          injection e9 with e10
          subst e10
          exact hC9)
        have HWZ : Hid (WS w.heap.size ((wr.alloc (.cells Z1024 5)).setCell ⟨wr.heap.size, 0, none⟩ (.int .u8 f)) g [] (stQ l l.length) ∧ Below w.heap.size w ((wr.alloc (.cells Z1024 5)).setCell ⟨wr.heap.size, 0, none⟩ (.int .u8 f))) := Lib.hid (by
          have hb := (below_alloc (Below.refl wr.heap.size wr) (.cells Z1024 5)).setCell (p := ⟨wr.heap.size, 0, none⟩) (by simp) (.int .u8 f)
          exact ⟨HW.out.1.below hb, HW.out.2.trans (hb.mono HW.out.2.size)⟩)
        clear hown hown2 HW
        rw [E14.out] at HR HWZ
        go_wp2
        go_meet
        case rel => exact ⟨_, rfl, HR, HWZ⟩
      case rest =>
        obtain ⟨bb, rfl, HB, HV⟩ := hcut
        clear HW hmk hown hown2 hz0 hzf
        have HC5 := Lib.hid (C_nB (pos := 5) HB.out)
        have hb5 := below_alloc (below_alloc (Below.refl wc.heap.size wc) (.cells #[.int .i64 5, .slice (some ⟨bb, 0, none⟩) 1024 1024] 39)) (.cells #[.int .i64 1, .int .i64 2, .int .i64 0, .int .i64 0, .slice none 0 0, .slice none 0 0, .int .i64 2, .int .i64 1, .int .i64 0, .int .i64 0, .slice (some ⟨wc.heap.size, 0, none⟩) 1 1, .slice none 0 0] 29)
        have HW5 := Lib.hid (HV.out.1.below hb5)
        have HB5 := Lib.hid (HV.out.2.trans (hb5.mono HV.out.2.size))
        have HBC := Lib.hid (Kd.C_below HB.out hb5)
        have HM5 := Lib.hid ((maybe_nB l HWF.out f ⟨hf0, hf1⟩).trans HQ.out.symm)
        have HM6 := Lib.hid (maybe_nB6 l f ⟨hf0, hf1⟩)
        have hi6 : Hid (I64 6) := Lib.hid (by unfold I64; decide)
        clear hb5 HV HB HQ
        by_cases hfz : f = 0
        · have HFZ := Lib.hid hfz
          have d1 : (f == 0) = true := by simpa using hfz
          have d2 : decide (f = 0) = true := by simpa using hfz
          clear hfz
          cases q with
          | true =>
            go_wp2_with (first
              | (go_at_call 10; (with_reducible refine (ok_two HW5.out HC5.out (fit_nB hi5.out) (by simp)).mono ?_); rintro e w9 ⟨b1, rfl, hm, hb9⟩; obtain rfl : b1 = true := hm.2 (HM5.out.2 rfl); have HC6 := Lib.hid (C_nB (pos := 6) (Kd.C_below HBC.out hb9)); have HB9 := Lib.hid (HB5.out.trans (hb9.mono HB5.out.size)); have hb6 := below_alloc (below_alloc (Below.refl w9.heap.size w9) (.cells #[.int .i64 6, .slice (some ⟨bb, 0, none⟩) 1024 1024] 39)) (.cells #[.int .i64 1, .int .i64 2, .int .i64 0, .int .i64 0, .slice none 0 0, .slice none 0 0, .int .i64 2, .int .i64 1, .int .i64 0, .int .i64 0, .slice (some ⟨w9.heap.size, 0, none⟩) 1 1, .slice none 0 0] 29); have HW6 := Lib.hid ((HW5.out.below hb9).below hb6); have HB6 := Lib.hid (HB9.out.trans (hb6.mono HB9.out.size)); clear hm hb9 hb6)
              | (go_at_call 10; (with_reducible refine (ok_two HW6.out HC6.out (fit_nB hi6.out) (by simp)).mono ?_); rintro e w8 ⟨b2, rfl, hm, hb8⟩; obtain rfl : b2 = true := hm.2 (HM6.out.2 HFZ.out); have HB8 := Lib.hid (HB6.out.trans (hb8.mono HB6.out.size)); clear hm hb8))
            go_ret
            exact ⟨rfl, HB8.out⟩
          | false =>
            go_wp2_with (first
              | (go_at_call 10; (with_reducible refine (ok_two HW5.out HC5.out (fit_nB hi5.out) (by simp)).mono ?_); rintro e w9 ⟨b1, rfl, hm, hb9⟩; obtain rfl : b1 = false := (by cases b1; rfl; exact absurd (HM5.out.1 (hm.1 rfl)) (by simp)); have HC6 := Lib.hid (C_nB (pos := 6) (Kd.C_below HBC.out hb9)); have HB9 := Lib.hid (HB5.out.trans (hb9.mono HB5.out.size)); have hb6 := below_alloc (below_alloc (Below.refl w9.heap.size w9) (.cells #[.int .i64 6, .slice (some ⟨bb, 0, none⟩) 1024 1024] 39)) (.cells #[.int .i64 1, .int .i64 2, .int .i64 0, .int .i64 0, .slice none 0 0, .slice none 0 0, .int .i64 2, .int .i64 1, .int .i64 0, .int .i64 0, .slice (some ⟨w9.heap.size, 0, none⟩) 1 1, .slice none 0 0] 29); have HW6 := Lib.hid ((HW5.out.below hb9).below hb6); have HB6 := Lib.hid (HB9.out.trans (hb6.mono HB9.out.size)); clear hm hb9 hb6)
              | (go_at_call 10; (with_reducible refine (ok_two HW6.out HC6.out (fit_nB hi6.out) (by simp)).mono ?_); rintro e w8 ⟨b2, rfl, hm, hb8⟩; obtain rfl : b2 = true := hm.2 (HM6.out.2 HFZ.out); have HB8 := Lib.hid (HB6.out.trans (hb8.mono HB6.out.size)); clear hm hb8))
            go_ret
            exact ⟨rfl, HB8.out⟩
        · have HFZ := Lib.hid hfz
          have d1 : (f == 0) = false := by simpa using hfz
          have d2 : decide (f = 0) = false := by simpa using hfz
          clear hfz
          cases q with
          | true =>
            go_wp2_with (first
              | (go_at_call 10; (with_reducible refine (ok_two HW5.out HC5.out (fit_nB hi5.out) (by simp)).mono ?_); rintro e w9 ⟨b1, rfl, hm, hb9⟩; obtain rfl : b1 = true := hm.2 (HM5.out.2 rfl); have HC6 := Lib.hid (C_nB (pos := 6) (Kd.C_below HBC.out hb9)); have HB9 := Lib.hid (HB5.out.trans (hb9.mono HB5.out.size)); have hb6 := below_alloc (below_alloc (Below.refl w9.heap.size w9) (.cells #[.int .i64 6, .slice (some ⟨bb, 0, none⟩) 1024 1024] 39)) (.cells #[.int .i64 1, .int .i64 2, .int .i64 0, .int .i64 0, .slice none 0 0, .slice none 0 0, .int .i64 2, .int .i64 1, .int .i64 0, .int .i64 0, .slice (some ⟨w9.heap.size, 0, none⟩) 1 1, .slice none 0 0] 29); have HW6 := Lib.hid ((HW5.out.below hb9).below hb6); have HB6 := Lib.hid (HB9.out.trans (hb6.mono HB9.out.size)); clear hm hb9 hb6)
              | (go_at_call 10; (with_reducible refine (ok_two HW6.out HC6.out (fit_nB hi6.out) (by simp)).mono ?_); rintro e w8 ⟨b2, rfl, hm, hb8⟩; obtain rfl : b2 = false := (by cases b2; rfl; exact absurd (HM6.out.1 (hm.1 rfl)) HFZ.out); have HB8 := Lib.hid (HB6.out.trans (hb8.mono HB6.out.size)); clear hm hb8))
            go_ret
            exact ⟨rfl, HB8.out⟩
          | false =>
            go_wp2_with (first
              | (go_at_call 10; (with_reducible refine (ok_two HW5.out HC5.out (fit_nB hi5.out) (by simp)).mono ?_); rintro e w9 ⟨b1, rfl, hm, hb9⟩; obtain rfl : b1 = false := (by cases b1; rfl; exact absurd (HM5.out.1 (hm.1 rfl)) (by simp)); have HC6 := Lib.hid (C_nB (pos := 6) (Kd.C_below HBC.out hb9)); have HB9 := Lib.hid (HB5.out.trans (hb9.mono HB5.out.size)); have hb6 := below_alloc (below_alloc (Below.refl w9.heap.size w9) (.cells #[.int .i64 6, .slice (some ⟨bb, 0, none⟩) 1024 1024] 39)) (.cells #[.int .i64 1, .int .i64 2, .int .i64 0, .int .i64 0, .slice none 0 0, .slice none 0 0, .int .i64 2, .int .i64 1, .int .i64 0, .int .i64 0, .slice (some ⟨w9.heap.size, 0, none⟩) 1 1, .slice none 0 0] 29); have HW6 := Lib.hid ((HW5.out.below hb9).below hb6); have HB6 := Lib.hid (HB9.out.trans (hb6.mono HB9.out.size)); clear hm hb9 hb6)
              | (go_at_call 10; (with_reducible refine (ok_two HW6.out HC6.out (fit_nB hi6.out) (by simp)).mono ?_); rintro e w8 ⟨b2, rfl, hm, hb8⟩; obtain rfl : b2 = false := (by cases b2; rfl; exact absurd (HM6.out.1 (hm.1 rfl)) HFZ.out); have HB8 := Lib.hid (HB6.out.trans (hb8.mono HB6.out.size)); clear hm hb8))
            go_ret
            exact ⟨rfl, HB8.out⟩
end Go.Proofs.Ytnnnakgdmhmpmaa.Given
