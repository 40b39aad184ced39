/- CacheReads, the law. -/
import Derived.Test.YthcafgjcgikgpaaC9
namespace Go.Proofs.Ythcafgjcgikgpaa.Given
open Go.RowKit Go.Shelf Go.Proofs.YthcafgjcgikgpaaW.PrintWords Go.Proofs.YthcafgjcgikgpaaW.PrintLast Go.Proofs.YthcafgjcgikgpaaW.PrintMore Go.Proofs.YthcafgjcgikgpaaBase
set_option linter.unusedVariables false
set_option linter.unusedSimpArgs false

/-- a cache over twenty blocks, got and released -/
def CR (base : Nat) (w0 : World) (cg dg : Nat) (size : Int) (st : List Int × Int) (w : World) : Prop := ∃ top, CS base top w cg dg size st.2 (cleanL st.1) (dsk 20) ∧ Below base w0 w
def CM (base : Nat) (w0 : World) (cg dg : Nat) (size : Int) (st : List Int × Int) (n : Int) (w : World) : Prop := ∃ top, CS base top w cg dg size (st.2 + missL st.1 n) (midL size st.1 n) (dsk 20) ∧ Below base w0 w
theorem CR.get {base : Nat} {w0 w : World} {cg dg : Nat} {size : Int} {st : List Int × Int} (h : CR base w0 cg dg size st w) (hl : (st.1.length : Int) ≤ size) (h1 : 1 ≤ size) (hs : size ≤ 1000) (hr0 : 0 ≤ st.2) (hr1 : st.2 ≤ 9999) {n : Int} (hn0 : 0 ≤ n) (hn1 : n < 20) :
    Calls Try.prog 11 #[.pointer (some ⟨cg, 0, none⟩), .int .i64 n] w fun e w' => ∃ v, e = .returned (.tuple #[v, .bool true]) ∧ CM base w0 cg dg size st n w' := by
  obtain ⟨top, hC, hb⟩ := h
  refine (step_get hC hl h1 hs hr0 (by omega) (by decide) hn0 hn1).mono ?_
  rintro e w' ⟨v, top', rfl, hC2, ho⟩
  exact ⟨v, rfl, top', hC2, hb.trans (ho.to_below (by have := hC.top_le; omega) (fun k hk => hk.1))⟩
theorem CM.rel {base : Nat} {w0 w : World} {cg dg : Nat} {size : Int} {st : List Int × Int} {n : Int} (h : CM base w0 cg dg size st n w) (hl : (st.1.length : Int) ≤ size) (h1 : 1 ≤ size) (hs : size ≤ 1000) (hr0 : 0 ≤ st.2) (hr1 : st.2 ≤ 9999) (hn0 : 0 ≤ n) (hn1 : n < 20) :
    Calls Try.prog 12 #[.pointer (some ⟨cg, 0, none⟩), .int .i64 n] w fun e w' => ∃ q, e = .returned (.bool q) ∧ CR base w0 cg dg size (stepL size st.1 n, st.2 + missL st.1 n) w' := by
  obtain ⟨top, hC, hb⟩ := h
  have hm : 0 ≤ missL st.1 n ∧ missL st.1 n ≤ 1 := by unfold missL; split <;> omega
  refine (step_rel hC hl h1 hs (by omega) (by omega) (by decide) (by unfold I64; omega)).mono ?_
  rintro e w' ⟨q, rfl, hC2, ho⟩
  exact ⟨q, rfl, top, hC2, hb.trans (ho.to_below (by have := hC.top_le; omega) (fun k hk => hk.1))⟩
theorem most_eq {n : Int} (h : 1 ≤ n) : most n = n := by unfold most; split <;> omega

set_option maxRecDepth 100000 in
set_option maxHeartbeats 2000000 in
theorem reads_row (size n rounds : Int) (w : World) (_ : (Lit.int .i64 size).wf = true) (_ : (Lit.int .i64 n).wf = true) (_ : (Lit.int .i64 rounds).wf = true) :
    Calls Try.prog 4 #[.int .i64 size, .int .i64 n, .int .i64 rounds] w fun e w' => e = .returned (.bool true) ∧ Below w.heap.size w w' := by
  by_cases hc : 1 ≤ size ∧ size ≤ 12 ∧ 1 ≤ n ∧ n ≤ 12 ∧ 1 ≤ rounds ∧ rounds ≤ 6
  · obtain ⟨hs1, hs2, hn1, hn2, hr1, hr2⟩ := hc
    obtain ⟨N, rfl⟩ : ∃ N : Nat, n = (N : Int) := ⟨n.toNat, by omega⟩
    obtain ⟨R, rfl⟩ : ∃ R : Nat, rounds = (R : Int) := ⟨rounds.toNat, by omega⟩
    have hN : N ≤ 12 := by omega
    have hR : R ≤ 6 := by omega
    have HNR : Hid (N * R ≤ 72) := Lib.hid (Nat.mul_le_mul hN hR)
    have HLAW : Hid ((stK size N R).2 = if size < (N : Int) then (N : Int) * (R : Int) else (N : Int)) := Lib.hid (by
      have := reads_law (size - 1).toNat (by omega) (N - 1) (by omega) (R - 1) (by omega)
      rw [show ((size - 1).toNat : Int) + 1 = size by omega, show N - 1 + 1 = N by omega, show R - 1 + 1 = R by omega, show ((N - 1 : Nat) : Int) + 1 = N by omega, show ((R - 1 : Nat) : Int) + 1 = R by omega] at this
      exact this)
    have HINV := Lib.hid (stK_inv hs1 N)
    have k1 : ¬ size < 1 := by omega
    have k2 : ¬ (12 : Int) < size := by omega
    have k3 : ¬ (N : Int) < 1 := by omega
    have k4 : ¬ (12 : Int) < (N : Int) := by omega
    have k5 : ¬ (R : Int) < 1 := by omega
    have k6 : ¬ (6 : Int) < (R : Int) := by omega
    go_enter Try.func4, Try.ntmps4
    go_wp2_with (first
      | (go_at_call 8; (with_reducible refine (alive_calls _).mono ?_); rintro e w1 ⟨rfl, hb⟩; have HB1 := Lib.hid hb; clear hb)
      | (go_at_call 10; (with_reducible refine (new_calls 20 _).mono ?_); rintro e w2 ⟨dg, rfl, hD, hb⟩; have HD := Lib.hid (show IsD w1.heap.size (fun k => w1.heap.size ≤ k) w2 dg (dsk 20).b (dsk 20).l (dsk 20).cut (dsk 20).dead from hD); have HB2 := Lib.hid hb; clear hD hb)
      | (go_at_call 9; (with_reducible refine (cs_new (s := dsk 20) (dn := 0) HD.out HB2.out.size size).mono ?_); rintro e w3 ⟨cg, rfl, hC, hb⟩; rw [most_eq hs1] at hC; have HC := Lib.hid (show CR w1.heap.size w1 cg dg size (stK size N 0) w3 from ⟨_, hC, HB2.out.trans (hb.mono HB2.out.size)⟩); clear hC hb))
    go_loopw [9] (fun i wr => ∃ k : Nat, k ≤ R ∧ i = .int .i64 (k : Int) ∧ Hid (CR w1.heap.size w1 cg dg size (stK size N k) wr)) (fun i _ => R - (intOf i).toNat)
    case atStart => exact ⟨0, Nat.zero_le _, rfl, HC⟩
    case round =>
      clear HC
      obtain ⟨k, hk, rfl, HC⟩ := hrel
      by_cases hlt : k < R
      · have hlti : (k : Int) < (R : Int) := by omega
        have HC0 : Hid (CR w1.heap.size w1 cg dg size (stI size (stK size N k) 0) wr) := HC
        have HI := Lib.hid (stI_inv hs1 (stK size N k) (HINV.out k).1 (HINV.out k).2.1)
        have HT : Hid ((stK size N k).2 ≤ 72) := Lib.hid (by have h1 := (HINV.out k).2.2; have h2 := HNR.out; have h3 : N * k ≤ N * R := Nat.mul_le_mul_left _ hk; omega)
        clear HC
        go_wp2
        go_loopw [10] (fun i wr => ∃ m : Nat, m ≤ N ∧ i = .int .i64 (m : Int) ∧ Hid (CR w1.heap.size w1 cg dg size (stI size (stK size N k) m) wr)) (fun i _ => N - (intOf i).toNat)
        case atStart => exact ⟨0, Nat.zero_le _, rfl, HC0⟩
        case round =>
          clear HC0
          obtain ⟨m, hm, rfl, HC⟩ := hrel
          by_cases hlm : m < N
          · have hlmi : (m : Int) < (N : Int) := by omega
            obtain ⟨i1, i2, i3⟩ := HI.out m
            have i4 : (stI size (stK size N k) m).2 ≤ 9999 := by have := HT.out; omega
            have H1 := Lib.hid i1
            have H2 := Lib.hid i2
            have H4 := Lib.hid i4
            clear i1 i2 i3 i4
            go_wp2_with (first
              | (go_at_call 11; (with_reducible refine (HC.out.get H1.out hs1 (by omega) H2.out H4.out (by omega) (by omega)).mono ?_); rintro e w4 ⟨v4, rfl, hC4⟩; have HC4 := Lib.hid hC4; clear hC4)
              | (go_at_call 12; (with_reducible refine (HC4.out.rel H1.out hs1 (by omega) H2.out H4.out (by omega) (by omega)).mono ?_); rintro e w5 ⟨q5, rfl, hC5⟩; have HC5 := Lib.hid hC5; clear hC5))
            go_roundw
            case rel => exact ⟨m + 1, by omega, by go_num, by rw [stI_succ]; exact HC5⟩
            case measure => simp [intOf]; omega
          · obtain rfl : m = N := by omega
            have hlmi : ¬ (m : Int) < (m : Int) := by omega
            go_wp2
            go_roundw
            case rel => exact ⟨k + 1, by omega, by go_num, HC⟩
            case measure => simp [intOf]; omega
      · obtain rfl : k = R := by omega
        have hlti : ¬ (k : Int) < (k : Int) := by omega
        have hL := HLAW.out
        obtain ⟨top, hC, hb⟩ := HC.out
        have HB9 := Lib.hid (HB1.out.trans (hb.mono HB1.out.size))
        clear HC hb
        by_cases hns : size < (N : Int)
        · rw [if_pos hns] at hL
          rw [hL] at hC
          have HC := Lib.hid hC
          have p1 : (0 : Int) ≤ (N : Int) * (k : Int) := Int.mul_nonneg (by omega) (by omega)
          have p2 : (N : Int) * (k : Int) ≤ 72 := by have := HNR.out; rw [← Int.natCast_mul]; omega
          obtain ⟨pr, hpr⟩ : ∃ pr, (N : Int) * (k : Int) = pr := ⟨_, rfl⟩
          rw [hpr] at HC p1 p2
          clear hL hC
          go_wp2_with (go_at_call 15; (with_reducible refine (cs_reads HC.out).mono ?_); rintro e w8 ⟨rfl, rfl⟩)
          go_ret
          exact ⟨rfl, HB9.out⟩
        · rw [if_neg hns] at hL
          rw [hL] at hC
          have HC := Lib.hid hC
          clear hL hC
          go_wp2_with (go_at_call 15; (with_reducible refine (cs_reads HC.out).mono ?_); rintro e w8 ⟨rfl, rfl⟩)
          go_ret
          exact ⟨rfl, HB9.out⟩
  · by_cases q0 : size < 1
    · go_enter Try.func4, Try.ntmps4
      go_wp2_with (go_at_call 8; (with_reducible refine (alive_calls _).mono ?_); rintro e w1 ⟨rfl, hb⟩; have HB1 := Lib.hid hb; clear hb)
      go_ret
      exact ⟨rfl, HB1.out⟩
    · by_cases q1 : (12 : Int) < size
      · go_enter Try.func4, Try.ntmps4
        go_wp2_with (go_at_call 8; (with_reducible refine (alive_calls _).mono ?_); rintro e w1 ⟨rfl, hb⟩; have HB1 := Lib.hid hb; clear hb)
        go_ret
        exact ⟨rfl, HB1.out⟩
      · by_cases q2 : n < 1
        · go_enter Try.func4, Try.ntmps4
          go_wp2_with (go_at_call 8; (with_reducible refine (alive_calls _).mono ?_); rintro e w1 ⟨rfl, hb⟩; have HB1 := Lib.hid hb; clear hb)
          go_ret
          exact ⟨rfl, HB1.out⟩
        · by_cases q3 : (12 : Int) < n
          · go_enter Try.func4, Try.ntmps4
            go_wp2_with (go_at_call 8; (with_reducible refine (alive_calls _).mono ?_); rintro e w1 ⟨rfl, hb⟩; have HB1 := Lib.hid hb; clear hb)
            go_ret
            exact ⟨rfl, HB1.out⟩
          · by_cases q4 : rounds < 1
            · go_enter Try.func4, Try.ntmps4
              go_wp2_with (go_at_call 8; (with_reducible refine (alive_calls _).mono ?_); rintro e w1 ⟨rfl, hb⟩; have HB1 := Lib.hid hb; clear hb)
              go_ret
              exact ⟨rfl, HB1.out⟩
            · have q5 : (6 : Int) < rounds := by omega
              go_enter Try.func4, Try.ntmps4
              go_wp2_with (go_at_call 8; (with_reducible refine (alive_calls _).mono ?_); rintro e w1 ⟨rfl, hb⟩; have HB1 := Lib.hid hb; clear hb)
              go_ret
              exact ⟨rfl, HB1.out⟩
end Go.Proofs.Ythcafgjcgikgpaa.Given
