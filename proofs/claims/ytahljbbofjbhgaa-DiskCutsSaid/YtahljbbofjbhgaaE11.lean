/- DiskCuts answers true. -/
import Derived.Test.YtahljbbofjbhgaaE10
import Derived.Deep.QuietTactic
import Derived.BigQuiet
namespace Go.Proofs.Ytahljbbofjbhgaa.Given
open Go.RowKit Go.Shelf Go.Proofs.YtahljbbofjbhgaaW.PrintWords Go.Proofs.YtahljbbofjbhgaaW.PrintLast Go.Proofs.YtahljbbofjbhgaaW.PrintMore Go.Proofs.YtahljbbofjbhgaaBase
set_option linter.unusedVariables false
set_option linter.unusedSimpArgs false

/-- the bytes of write i -/
def cutX (i : Nat) : List Int := ((List.replicate 1024 (0 : Int)).set 0 ((i : Int) + 1)).set 512 ((i : Int) + 1)
theorem cutX_length (i : Nat) : (cutX i).length = 1024 := by unfold cutX; rw [List.length_set, List.length_set, List.length_replicate]
theorem cutX_sec (i j : Nat) (hj : j < 2) : rd (secOf (cutX i) j) 0 = (i : Int) + 1 := by
  have := rd_secOf (cutX i) j 0 (by omega)
  rw [show ((0 : Nat) : Int) = 0 from rfl] at this
  rw [this]
  unfold rd cutX
  simp only [Int.toNat_natCast, List.getD_eq_getElem?_getD]
  have hc : j = 0 ∨ j = 1 := by omega
  rcases hc with rfl | rfl
  · rw [List.getElem?_set_ne (by omega), List.getElem?_set_self (by rw [List.length_replicate]; decide)]
    rfl
  · rw [List.getElem?_set_self (by rw [List.length_set, List.length_replicate]; decide)]
    rfl
/-- what has come of i writes of which c sectors are let through, on n blocks -/
structure CutS (n c i : Nat) (s : DS) : Prop where
  len : s.b.length = n * 1024
  cut : s.cut = ((c - min c (2 * i) : Nat) : Int)
  dead : s.dead = decide (c < 2 * i)
  num : s.l.length = min c (2 * i)
  sec : ∀ q < min c (2 * i), (rd_T31 s.l (q : Int)).f0 = ((q / 2 % n * 2 + q % 2 : Nat) : Int) ∧ (rd_T31 s.l (q : Int)).f1.length = 512 ∧ rd (rd_T31 s.l (q : Int)).f1 0 = ((q / 2 + 1 : Nat) : Int)
  all : ∀ y ∈ s.l, y.f1.length = 512
theorem rd_T31_snoc (l : List S31) (y : S31) (q : Nat) : rd_T31 (l ++ [y]) (q : Int) = if q < l.length then rd_T31 l (q : Int) else if q = l.length then y else z31 := by
  unfold rd_T31
  simp only [Int.toNat_natCast, List.getD_eq_getElem?_getD]
  by_cases h : q < l.length
  · rw [if_pos h, List.getElem?_append_left h]
  · rw [if_neg h, List.getElem?_append_right (by omega)]
    by_cases h2 : q = l.length
    · rw [if_pos h2, h2, Nat.sub_self]
      rfl
    · rw [if_neg h2, List.getElem?_eq_none (by simp only [List.length_cons, List.length_nil]; omega)]
      rfl
theorem CutS.step {n c i : Nat} {s : DS} (hn : 0 < n) (h : CutS n c i s) : (writeD ((i % n : Nat) : Int) (cutX i) s).2 = decide (2 * i + 2 ≤ c) ∧ CutS n c (i + 1) (writeD ((i % n : Nat) : Int) (cutX i) s).1 := by
  have hm : i % n < n := Nat.mod_lt _ hn
  have hb : s.b.length / 1024 = n := by rw [h.len]; omega
  have hx := cutX_length i
  have hxs := cutX_sec i
  obtain ⟨X, hX⟩ : ∃ X, cutX i = X := ⟨_, rfl⟩
  rw [hX] at hx hxs ⊢
  clear hX
  by_cases hd : c < 2 * i
  · have hw : writeD ((i % n : Nat) : Int) X s = (s, false) := by
      unfold writeD
      rw [if_neg (by rw [h.dead, decide_eq_true hd]; simp)]
    rw [hw]
    refine ⟨by simp; omega, ⟨h.len, ?_, ?_, ?_, ?_, h.all⟩⟩
    · rw [h.cut]; omega
    · rw [h.dead, decide_eq_true hd]; simp; omega
    · rw [h.num]; omega
    · intro q hq; exact h.sec q (by omega)
  · have hdead : s.dead = false := by rw [h.dead]; simpa using hd
    have hw : writeD ((i % n : Nat) : Int) X s = runW (i % n) X [0, 1] s := by
      unfold writeD
      rw [if_pos ⟨by rw [hdead, hb]; simp; omega, hx⟩, Int.toNat_natCast]
    rw [hw]
    have hl0 := secOf_length X 0 hx (by omega)
    have hl1 := secOf_length X 1 hx (by omega)
    have hnum : s.l.length = 2 * i := by rw [h.num]; omega
    have hcut : s.cut = ((c - 2 * i : Nat) : Int) := by rw [h.cut]; congr 2; omega
    have hfirst : s.cut ≠ 0 → (stepW (i % n) X s 0).b.length = n * 1024 ∧ ∀ q < 2 * i + 1, (rd_T31 (stepW (i % n) X s 0).l (q : Int)).f0 = ((q / 2 % n * 2 + q % 2 : Nat) : Int) ∧ (rd_T31 (stepW (i % n) X s 0).l (q : Int)).f1.length = 512 ∧ rd (rd_T31 (stepW (i % n) X s 0).l (q : Int)).f1 0 = ((q / 2 + 1 : Nat) : Int) := by
      intro _
      refine ⟨(stepW_length _ _ _ _ hx (by omega) (by omega)).trans h.len, fun q hq => ?_⟩
      simp only [stepW]
      rw [rd_T31_snoc, hnum]
      by_cases hq2 : q < 2 * i
      · rw [if_pos hq2]; exact h.sec q (by omega)
      · obtain rfl : q = 2 * i := by omega
        rw [if_neg hq2, if_pos rfl]
        refine ⟨by simp only; rw [show 2 * i / 2 = i by omega, show 2 * i % 2 = 0 by omega], hl0, ?_⟩
        rw [hxs 0 (by omega)]
        omega
    have hall1 : ∀ y ∈ (stepW (i % n) X s 0).l, y.f1.length = 512 := by
      intro y hy
      simp only [stepW, List.mem_append, List.mem_singleton] at hy
      rcases hy with hy | hy
      · exact h.all y hy
      · rw [hy]; exact hl0
    rw [runW]
    by_cases c0 : s.cut = 0
    · rw [if_pos c0]
      have hc : c = 2 * i := by omega
      refine ⟨by simp; omega, ⟨h.len, ?_, ?_, ?_, ?_, h.all⟩⟩
      · simp only; rw [c0]; omega
      · simp; omega
      · simp only; omega
      · intro q hq; exact h.sec q (by omega)
    · rw [if_neg c0, runW]
      obtain ⟨f1, f2⟩ := hfirst c0
      have hs1 : (stepW (i % n) X s 0).l.length = 2 * i + 1 := by simp [stepW, hnum]
      have hs2 : (stepW (i % n) X s 0).cut = s.cut - 1 := by simp only [stepW]; rw [if_pos (by omega)]
      have hs3 : (stepW (i % n) X s 0).dead = false := hdead
      obtain ⟨S, hS⟩ : ∃ S, stepW (i % n) X s 0 = S := ⟨_, rfl⟩
      rw [hS] at f1 f2 hs1 hs2 hs3 hall1 ⊢
      by_cases c1 : S.cut = 0
      · rw [if_pos c1]
        have hc : c = 2 * i + 1 := by omega
        refine ⟨by simp; omega, ⟨f1, ?_, ?_, ?_, ?_, hall1⟩⟩
        · simp only; rw [c1]; omega
        · simp; omega
        · simp only; omega
        · intro q hq; exact f2 q (by omega)
      · rw [if_neg c1, runW]
        have hc : 2 * i + 2 ≤ c := by omega
        refine ⟨by simp [hc], ⟨(stepW_length _ _ _ _ hx (by omega) (by omega)).trans f1, ?_, ?_, ?_, ?_, ?_⟩⟩
        · simp only [stepW]; rw [if_pos (by omega)]; omega
        · simp only [stepW]; rw [hs3]; simp; omega
        · simp only [stepW, List.length_append, List.length_cons, List.length_nil]; omega
        · intro q hq
          simp only [stepW]
          rw [rd_T31_snoc, hs1]
          by_cases hq2 : q < 2 * i + 1
          · rw [if_pos hq2]; exact f2 q hq2
          · obtain rfl : q = 2 * i + 1 := by omega
            rw [if_neg hq2, if_pos rfl]
            refine ⟨by simp only; rw [show (2 * i + 1) / 2 = i by omega, show (2 * i + 1) % 2 = 1 by omega], hl1, ?_⟩
            rw [hxs 1 (by omega)]
            omega
        · intro y hy
          simp only [stepW, List.mem_append, List.mem_singleton] at hy
          rcases hy with hy | hy
          · exact hall1 y hy
          · rw [hy]; exact hl1

theorem blocksOf_nat (n : Nat) (h0 : 0 < n) (h : n ≤ 20000) : blocksOf (n : Int) = n := by unfold blocksOf; rw [if_pos (by omega), if_neg (by omega)]; omega
theorem CutS.start (n c : Nat) (h0 : 0 < n) (h : n ≤ 20000) : CutS n c 0 ⟨List.replicate (blocksOf (n : Int) * 1024) 0, [], cutOf (c : Int), false⟩ := by
  refine ⟨by rw [blocksOf_nat n h0 h, List.length_replicate], ?_, by simp, by simp, fun q hq => by simp at hq, by simp⟩
  simp only [cutOf]
  rw [if_pos (by omega)]
  simp
def CutI (N1 n c g : Nat) (w : World) (j : Nat) (wr : World) : Prop := ∃ s : DS, IsD N1 (fun k => N1 ≤ k ∧ k < wr.heap.size) wr g s.b s.l s.cut s.dead ∧ CutS n c j s ∧ Below w.heap.size w wr ∧ N1 ≤ wr.heap.size ∧ w.heap.size ≤ N1

set_option maxRecDepth 100000 in
set_option maxHeartbeats 4000000 in
theorem cuts_main (n m c : Nat) (hn : 0 < n) (hn2 : n ≤ 40) (hm : m ≤ 60) (hc : c ≤ 200) (w : World) :
    Calls Try.prog 3 #[.int .i64 (n : Int), .int .i64 (m : Int), .int .i64 (c : Int)] w fun e w' => e = .returned (.bool true) ∧ Below w.heap.size w w' := by
  have t1 : decide ((n : Int) < 1) = false := decide_eq_false (by omega)
  have t2 : decide ((n : Int) > 40) = false := decide_eq_false (by omega)
  have t3 : decide ((m : Int) < 0) = false := decide_eq_false (by omega)
  have t4 : decide ((m : Int) > 60) = false := decide_eq_false (by omega)
  have t5 : decide ((c : Int) < 0) = false := decide_eq_false (by omega)
  have t6 : decide ((c : Int) > 200) = false := decide_eq_false (by omega)
  go_enter Try.func3, Try.ntmps3
  go_wp2_with (first | (go_at_call 7; refine (alive_calls _).mono ?_; rintro e w1 ⟨rfl, hb⟩; have HB1 := Lib.hid hb; clear hb) | (go_at_call 8; refine (new_calls (n : Int) _).mono ?_; rintro e w2 ⟨g, rfl, hd, hb⟩; have HD2 := Lib.hid hd; have HB2 := Lib.hid hb; clear hd hb) | (go_at_call 9; refine (cutD (c : Int) HD2.out).mono ?_; rintro e w3 ⟨rfl, hd, ho⟩; have HD3 := Lib.hid hd; have HO3 := Lib.hid ho; clear hd ho))
  have hI0 : CutI w1.heap.size n c g w 0 w3 := by
    have h1 := HB1.out.size
    have h2 := HB2.out.size
    have h3 := HO3.out.size
    refine ⟨⟨_, _, _, _⟩, HD3.out.bound.mono (fun k hk => ⟨hk.2.1, hk.2.2⟩), CutS.start n c hn (by omega), ?_, by omega, h1⟩
    exact (HB1.out.trans (HB2.out.mono h1)).trans (HO3.out.to_below (by omega) (fun k hk => by omega))
  have HI0 := Lib.hid hI0
  clear hI0 HD2 HB2 HD3 HO3 HB1
  go_loopw [9, 10, 11] (fun i b o wr => ∃ j : Nat, j ≤ m ∧ i = .int .i64 (j : Int) ∧ Hid (CutI w1.heap.size n c g w j wr)) (fun i _ _ _ => m - (intOf i).toNat)
  case atStart => exact ⟨0, by omega, rfl, HI0⟩
  case round =>
    obtain ⟨j, hj, rfl, HI⟩ := hrel
    by_cases hlt : j < m
    · have hlt2 : (j : Int) < (m : Int) := by omega
      obtain ⟨s, hd, hc, hb, hz1, hz0⟩ := HI.out
      obtain ⟨w4, hmk, hR4, hb4, hz4⟩ := madeR wr 1024 1024 rfl (by decide)
      have k0 := (R_cell hR4 0 (by decide)).1
      have f0 := (R_cell hR4 0 (by decide)).2
      have k5 := (R_cell hR4 512 (by decide)).1
      have f5 := (R_cell hR4 512 (by decide)).2
      have HD := Lib.hid hd
      have HC := Lib.hid hc
      have HB := Lib.hid hb
      have HR4 := Lib.hid hR4
      have HB4 := Lib.hid hb4
      have HZ4 := Lib.hid hz4
      clear hd hc hb hR4 hb4 hz4
      go_wp2_with (first | (go_at_call 10; refine mk_ ?_))
      unfold Mk_
      clear k0 f0 k5 f5 hmk
      have hR6 := R_put (R_put HR4.out 0 ((j : Int) + 1)) 512 ((j : Int) + 1)
      have hD6 : IsD w1.heap.size (fun k => w1.heap.size ≤ k ∧ k < wr.heap.size) ((w4.setCell ⟨wr.heap.size, 0, none⟩ (.int .u8 ((j : Int) + 1))).setCell ⟨wr.heap.size, 512, none⟩ (.int .u8 ((j : Int) + 1))) g s.b s.l s.cut s.dead :=
        (HD.out.below HB4.out).move (fun k hk => (Below.heap_setCell _ _ _ _ (by simp only; omega)).trans (Below.heap_setCell _ _ _ _ (by simp only; omega)))
      have hz6 : ((w4.setCell ⟨wr.heap.size, 0, none⟩ (.int .u8 ((j : Int) + 1))).setCell ⟨wr.heap.size, 512, none⟩ (.int .u8 ((j : Int) + 1))).heap.size = wr.heap.size + 1 := by simp [HZ4.out]
      have hB6 : Below w.heap.size w ((w4.setCell ⟨wr.heap.size, 0, none⟩ (.int .u8 ((j : Int) + 1))).setCell ⟨wr.heap.size, 512, none⟩ (.int .u8 ((j : Int) + 1))) :=
        ((HB.out.trans (HB4.out.mono (by omega))).setCell (by simp only; omega) _).setCell (by simp only; omega) _
      obtain ⟨hst, hcs⟩ := HC.out.step hn
      obtain ⟨X, hX⟩ : ∃ X, cutX j = X := ⟨_, rfl⟩
      have hXl : X.length = 1024 := by rw [← hX]; exact cutX_length j
      rw [show ((List.replicate 1024 (0 : Int)).set 0 ((j : Int) + 1)).set 512 ((j : Int) + 1) = cutX j from rfl, hX] at hR6
      rw [hX] at hst hcs
      clear hX
      have hmn : (j : Int) % (n : Int) = ((j % n : Nat) : Int) := by omega
      have hw := write_calls g w1.heap.size (fun k => w1.heap.size ≤ k ∧ k < wr.heap.size) (fun k => k = wr.heap.size) s ((j % n : Nat) : Int) (some ⟨wr.heap.size, 0, none⟩) 1024 X _ hD6 (fun k hk => by rw [hz6]; omega) (by rw [hz6]; omega)
        (Kd.F_mono (by have := Kd.R_F hR6; rw [hXl]; exact this) (fun _ h => h)) (by rw [hXl]; exact Nat.le_refl _) (fun k hk h2 => by omega) (by rw [HC.out.len]; omega) (by rw [HC.out.num]; omega) (by rw [HC.out.cut]; omega) (by rw [HC.out.cut]; omega)
      rw [hXl, ← hmn] at hw
      rw [← hmn] at hst hcs
      have HZ6 := Lib.hid hz6
      have HB6 := Lib.hid hB6
      clear hz6 hB6 hD6 hR6
      generalize ((w4.setCell ⟨wr.heap.size, 0, none⟩ (.int .u8 ((j : Int) + 1))).setCell ⟨wr.heap.size, 512, none⟩ (.int .u8 ((j : Int) + 1))) = w6 at hw HZ6 HB6 ⊢
      refine hw.mono ?_
      rintro e w7 ⟨rfl, hd7, ho7⟩
      rw [hst]
      have HNEW : Hid (CutI w1.heap.size n c g w (j + 1) w7) := Lib.hid ⟨_, hd7.bound.mono (fun k hk => ⟨hk.2.1, hk.2.2⟩), hcs, Off.keepB HB6.out ho7 (fun k hk => by omega) HB6.out.size, by have := HZ6.out; have := ho7.size; omega, hz0⟩
      clear hw hst hcs hd7 ho7 hmn hXl
      by_cases hq : 2 * j + 2 ≤ c
      · have hq1 : decide (2 * (j : Int) + 2 ≤ (c : Int)) = true := decide_eq_true (by omega)
        rw [decide_eq_true hq]
        clear hq
        go_wp2
        go_roundw
        case rel => exact ⟨j + 1, by omega, by go_num, HNEW⟩
        case measure => simp [intOf]; omega
      · have hq1 : decide (2 * (j : Int) + 2 ≤ (c : Int)) = false := decide_eq_false (by omega)
        rw [decide_eq_false hq]
        clear hq
        go_wp2
        go_roundw
        case rel => exact ⟨j + 1, by omega, by go_num, HNEW⟩
        case measure => simp [intOf]; omega
    · obtain rfl : j = m := by omega
      obtain ⟨s, hd, hcs, hb, hz1, hz0⟩ := HI.out
      have HD := Lib.hid hd
      have HC := Lib.hid hcs
      have HB := Lib.hid hb
      clear hd hcs hb HI hj hlt
      have hnum := HC.out.num
      obtain ⟨q, hq⟩ : ∃ q, min c (2 * j) = q := ⟨_, rfl⟩
      have hdead := HC.out.dead
      have hsec := HC.out.sec
      rw [hq] at hnum hsec
      have HN := Lib.hid hnum
      have HDD := Lib.hid hdead
      have HSEC := Lib.hid hsec
      have HQ := Lib.hid hq
      have hq0 : q ≤ 200 := by omega
      clear hnum hdead hsec hq
      by_cases hlc : c < 2 * j
      · have s1 : decide ((c : Int) < 2 * (j : Int)) = true := decide_eq_true (by omega)
        have hqc : q = c := by have := HQ.out; omega
        subst hqc
        rw [decide_eq_true hlc] at HDD
        clear hlc
        go_wp2_with (first | (go_at_call 11; refine (logD HD.out (fun k hk => hk.2) (by rw [HN.out]; omega) (fun y hy => by rw [HC.out.all y hy]; decide)).mono ?_; rintro e w8 ⟨v8, rfl, hN8, hb8⟩; obtain ⟨A8, c8, rfl⟩ := Kd.N_slice hN8; rw [HN.out]; rw [HN.out] at hN8; have HG := Lib.hid hN8; have HD8 := Lib.hid (HD.out.below hb8); rw [HDD.out] at HD8; have HB8 := Lib.hid (HB.out.trans (hb8.mono HB.out.size)); clear hN8 hb8) | (go_at_call 12; refine (deadD HD8.out).mono ?_; rintro e w' ⟨rfl, hd⟩; obtain ⟨nd, rfl⟩ := hd))
        go_loopw [14] (fun i wr => ∃ k : Nat, k ≤ q ∧ i = .int .i64 (k : Int) ∧ Hid (Below w8.heap.size w8 wr)) (fun i _ => q - (intOf i).toNat)
        case atStart => exact ⟨0, by omega, rfl, Lib.hid (pw_below_drewN (Below.refl _ _) nd)⟩
        case round =>
          obtain ⟨k, hk, rfl, HW⟩ := hrel
          by_cases hlt : k < q
          · have hlt2 : (k : Int) < (q : Int) := by omega
            obtain ⟨G, cap, hv, _, hG, _⟩ := Kd.N_form HG.out (by rw [HN.out]; omega)
            injection hv with hv1 _ hv2
            subst hv1 hv2
            obtain ⟨ce, hcl, hFK, hcc, _⟩ := Kd.N_elem (Kd.N_below HG.out HW.out) z31 (k : Int) (by omega) hlt2
            obtain ⟨y1, y2, y3⟩ := HSEC.out k hlt
            rw [Int.toNat_natCast] at hFK hcc
            rw [show s.l.getD k z31 = rd_T31 s.l (k : Int) from rfl] at hFK
            obtain ⟨y, hy⟩ : ∃ y, rd_T31 s.l (k : Int) = y := ⟨_, rfl⟩
            rw [hy] at hFK y1 y2 y3
            obtain ⟨A3, c3, rfl, hl3, hC3⟩ := fk31 hFK
            obtain ⟨ad3, rfl, k3⟩ := Kd.at_int hC3 0 (by omega) (by rw [y2]; decide)
            rw [y3] at k3
            have k1 : wr.cell? ⟨G, k * 2, none⟩ = some (.int .i64 ((k / 2 % n * 2 + k % 2 : Nat) : Int)) := by rw [← y1]; exact hcc 0 _ rfl
            have k2 : wr.cell? ⟨G, k * 2 + 1, none⟩ = some (.slice (some ad3) 512 c3) := by rw [← y2]; exact hcc 1 _ rfl
            clear hFK hcc y1 y2 y3 hy hC3 hl3
            have hr0 : 0 ≤ (k : Int) / 2 % (n : Int) := Int.emod_nonneg _ (by omega)
            have hr1 : (k : Int) / 2 % (n : Int) < (n : Int) := Int.emod_lt_of_pos _ (by omega)
            obtain ⟨r, hr⟩ : ∃ r : Int, (k : Int) / 2 % (n : Int) = r := ⟨_, rfl⟩
            rw [show ((k / 2 % n * 2 + k % 2 : Nat) : Int) = r * 2 + (k : Int) % 2 by rw [← hr]; push_cast; rfl] at k1
            rw [show ad3.add (0 : Int).toNat = ad3 by simp [Addr.add]] at k3
            rw [hr] at hr0 hr1
            have u1 : wrap64 (r * 2) = r * 2 := by unfold wrap64; omega
            have u2 : wrap64 (r * 2 + (k : Int) % 2) = r * 2 + (k : Int) % 2 := by unfold wrap64; omega
            go_wp2
            go_quiet (fail)
            go_wp2
            go_roundw
            case rel => exact ⟨k + 1, by omega, by go_num, Lib.hid (pw_below_drewN HW.out _)⟩
            case measure => simp [intOf]; omega
          · obtain rfl : k = q := by omega
            go_wp2
            go_ret
            exact ⟨rfl, HB8.out.trans (HW.out.mono HB8.out.size)⟩
      · have s1 : decide ((c : Int) < 2 * (j : Int)) = false := decide_eq_false (by omega)
        have hqc : q = 2 * j := by have := HQ.out; omega
        have s2 : ((q : Int) != 2 * (j : Int)) = false := by simp; omega
        have s3 : ((q : Int) == 2 * (j : Int)) = true := by simp; omega
        have hqn : q ≤ 120 := by omega
        clear hqc
        rw [decide_eq_false hlc] at HDD
        clear hlc
        go_wp2_with (first | (go_at_call 11; refine (logD HD.out (fun k hk => hk.2) (by rw [HN.out]; omega) (fun y hy => by rw [HC.out.all y hy]; decide)).mono ?_; rintro e w8 ⟨v8, rfl, hN8, hb8⟩; obtain ⟨A8, c8, rfl⟩ := Kd.N_slice hN8; rw [HN.out]; rw [HN.out] at hN8; have HG := Lib.hid hN8; have HD8 := Lib.hid (HD.out.below hb8); rw [HDD.out] at HD8; have HB8 := Lib.hid (HB.out.trans (hb8.mono HB.out.size)); clear hN8 hb8) | (go_at_call 12; refine (deadD HD8.out).mono ?_; rintro e w' ⟨rfl, hd⟩; obtain ⟨nd, rfl⟩ := hd))
        go_loopw [14] (fun i wr => ∃ k : Nat, k ≤ q ∧ i = .int .i64 (k : Int) ∧ Hid (Below w8.heap.size w8 wr)) (fun i _ => q - (intOf i).toNat)
        case atStart => exact ⟨0, by omega, rfl, Lib.hid (pw_below_drewN (Below.refl _ _) nd)⟩
        case round =>
          obtain ⟨k, hk, rfl, HW⟩ := hrel
          by_cases hlt : k < q
          · have hlt2 : (k : Int) < (q : Int) := by omega
            obtain ⟨G, cap, hv, _, hG, _⟩ := Kd.N_form HG.out (by rw [HN.out]; omega)
            injection hv with hv1 _ hv2
            subst hv1 hv2
            obtain ⟨ce, hcl, hFK, hcc, _⟩ := Kd.N_elem (Kd.N_below HG.out HW.out) z31 (k : Int) (by omega) hlt2
            obtain ⟨y1, y2, y3⟩ := HSEC.out k hlt
            rw [Int.toNat_natCast] at hFK hcc
            rw [show s.l.getD k z31 = rd_T31 s.l (k : Int) from rfl] at hFK
            obtain ⟨y, hy⟩ : ∃ y, rd_T31 s.l (k : Int) = y := ⟨_, rfl⟩
            rw [hy] at hFK y1 y2 y3
            obtain ⟨A3, c3, rfl, hl3, hC3⟩ := fk31 hFK
            obtain ⟨ad3, rfl, k3⟩ := Kd.at_int hC3 0 (by omega) (by rw [y2]; decide)
            rw [y3] at k3
            have k1 : wr.cell? ⟨G, k * 2, none⟩ = some (.int .i64 ((k / 2 % n * 2 + k % 2 : Nat) : Int)) := by rw [← y1]; exact hcc 0 _ rfl
            have k2 : wr.cell? ⟨G, k * 2 + 1, none⟩ = some (.slice (some ad3) 512 c3) := by rw [← y2]; exact hcc 1 _ rfl
            clear hFK hcc y1 y2 y3 hy hC3 hl3
            have hr0 : 0 ≤ (k : Int) / 2 % (n : Int) := Int.emod_nonneg _ (by omega)
            have hr1 : (k : Int) / 2 % (n : Int) < (n : Int) := Int.emod_lt_of_pos _ (by omega)
            obtain ⟨r, hr⟩ : ∃ r : Int, (k : Int) / 2 % (n : Int) = r := ⟨_, rfl⟩
            rw [show ((k / 2 % n * 2 + k % 2 : Nat) : Int) = r * 2 + (k : Int) % 2 by rw [← hr]; push_cast; rfl] at k1
            rw [show ad3.add (0 : Int).toNat = ad3 by simp [Addr.add]] at k3
            rw [hr] at hr0 hr1
            have u1 : wrap64 (r * 2) = r * 2 := by unfold wrap64; omega
            have u2 : wrap64 (r * 2 + (k : Int) % 2) = r * 2 + (k : Int) % 2 := by unfold wrap64; omega
            go_wp2
            go_quiet (fail)
            go_wp2
            go_roundw
            case rel => exact ⟨k + 1, by omega, by go_num, Lib.hid (pw_below_drewN HW.out _)⟩
            case measure => simp [intOf]; omega
          · obtain rfl : k = q := by omega
            go_wp2
            go_ret
            exact ⟨rfl, HB8.out.trans (HW.out.mono HB8.out.size)⟩

set_option maxRecDepth 100000 in
set_option maxHeartbeats 2000000 in
theorem cuts_calls (b m c : Int) (w : World) : Calls Try.prog 3 #[.int .i64 b, .int .i64 m, .int .i64 c] w fun e w' => e = .returned (.bool true) ∧ Below w.heap.size w w' := by
  by_cases h0 : b < 1
  · have t0 : decide (b < 1) = true := decide_eq_true h0
    go_enter Try.func3, Try.ntmps3
    go_wp2_with (first | (go_at_call 7; refine (alive_calls _).mono ?_; rintro e w1 ⟨rfl, hb⟩; have HB1 := Lib.hid hb; clear hb))
    go_ret
    exact ⟨rfl, HB1.out⟩
  have t0 : decide (b < 1) = false := decide_eq_false h0
  by_cases h1 : b > 40
  · have t1 : decide (b > 40) = true := decide_eq_true h1
    go_enter Try.func3, Try.ntmps3
    go_wp2_with (first | (go_at_call 7; refine (alive_calls _).mono ?_; rintro e w1 ⟨rfl, hb⟩; have HB1 := Lib.hid hb; clear hb))
    go_ret
    exact ⟨rfl, HB1.out⟩
  have t1 : decide (b > 40) = false := decide_eq_false h1
  by_cases h2 : m < 0
  · have t2 : decide (m < 0) = true := decide_eq_true h2
    go_enter Try.func3, Try.ntmps3
    go_wp2_with (first | (go_at_call 7; refine (alive_calls _).mono ?_; rintro e w1 ⟨rfl, hb⟩; have HB1 := Lib.hid hb; clear hb))
    go_ret
    exact ⟨rfl, HB1.out⟩
  have t2 : decide (m < 0) = false := decide_eq_false h2
  by_cases h3 : m > 60
  · have t3 : decide (m > 60) = true := decide_eq_true h3
    go_enter Try.func3, Try.ntmps3
    go_wp2_with (first | (go_at_call 7; refine (alive_calls _).mono ?_; rintro e w1 ⟨rfl, hb⟩; have HB1 := Lib.hid hb; clear hb))
    go_ret
    exact ⟨rfl, HB1.out⟩
  have t3 : decide (m > 60) = false := decide_eq_false h3
  by_cases h4 : c < 0
  · have t4 : decide (c < 0) = true := decide_eq_true h4
    go_enter Try.func3, Try.ntmps3
    go_wp2_with (first | (go_at_call 7; refine (alive_calls _).mono ?_; rintro e w1 ⟨rfl, hb⟩; have HB1 := Lib.hid hb; clear hb))
    go_ret
    exact ⟨rfl, HB1.out⟩
  have t4 : decide (c < 0) = false := decide_eq_false h4
  by_cases h5 : c > 200
  · have t5 : decide (c > 200) = true := decide_eq_true h5
    go_enter Try.func3, Try.ntmps3
    go_wp2_with (first | (go_at_call 7; refine (alive_calls _).mono ?_; rintro e w1 ⟨rfl, hb⟩; have HB1 := Lib.hid hb; clear hb))
    go_ret
    exact ⟨rfl, HB1.out⟩
  have t5 : decide (c > 200) = false := decide_eq_false h5
  clear t0 t1 t2 t3 t4 t5
  obtain ⟨n, rfl⟩ : ∃ n : Nat, b = n := ⟨b.toNat, by omega⟩
  obtain ⟨m, rfl⟩ : ∃ n : Nat, m = n := ⟨m.toNat, by omega⟩
  obtain ⟨c, rfl⟩ : ∃ n : Nat, c = n := ⟨c.toNat, by omega⟩
  exact cuts_main n m c (by omega) (by omega) (by omega) (by omega) w
theorem cuts_row (b m c : Int) (w : World) (_ : (Lit.int .i64 b).wf = true) (_ : (Lit.int .i64 m).wf = true) (_ : (Lit.int .i64 c).wf = true) : Calls Try.prog 3 #[.int .i64 b, .int .i64 m, .int .i64 c] w fun e w' => e = .returned (.bool true) ∧ Below w.heap.size w w' := cuts_calls b m c w
end Go.Proofs.Ytahljbbofjbhgaa.Given
