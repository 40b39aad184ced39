/- (*model).write: the model's write is the disk's. -/
import Derived.Test.YtahljbbofjbhgaaM1
namespace Go.Proofs.Ytahljbbofjbhgaa.Given
open Go.RowKit Go.Shelf Go.Proofs.YtahljbbofjbhgaaW.PrintWords Go.Proofs.YtahljbbofjbhgaaW.PrintLast Go.Proofs.YtahljbbofjbhgaaW.PrintMore Go.Proofs.YtahljbbofjbhgaaBase
set_option linter.unusedVariables false
set_option linter.unusedSimpArgs false

theorem runW_at (k : Nat) (x : List Int) (s : DS) (j : Nat) (hj : j < 2) (h2 : GoesW k x (List.range' 0 j) s) (h1 : (foldW k x (List.range' 0 j) s).cut = 0) : runW k x [0, 1] s = ({ foldW k x (List.range' 0 j) s with dead := true }, false) := by
  have hc : j = 0 ∨ j = 1 := by omega
  rcases hc with rfl | rfl
  · exact runW_stop k x [] s 0 [1] h2 h1
  · exact runW_stop k x [0] s 1 [] h2 h1

set_option maxRecDepth 100000 in
set_option maxHeartbeats 1000000 in
theorem mwrite_no (g : Nat) (A : Option Addr) (c : Nat) (b : List Int) (vl : Value) (cut k : Int) (dead : Bool) (Ax : Option Addr) (nx cx : Nat) (w : World) (h : IsMB w g (.slice A b.length c) vl cut dead) (hn : b.length < 1000000000) (hnx : nx < 1000000000)
    (hno : (!dead && decide (0 ≤ k ∧ k < ((b.length / 1024 : Nat) : Int))) = false ∨ nx ≠ 1024) :
    Calls Try.prog 14 #[.pointer (some ⟨g, 0, none⟩), .int .i64 k, .slice Ax nx cx] w fun e w' => e = .returned (.bool false) ∧ Below w.heap.size w w' := by
  have b0 := h.c0
  have b3 := h.c3
  have hno : (!dead && decide (0 ≤ k ∧ k < (b.length : Int) / 1024)) = false ∨ nx ≠ 1024 := by
    rw [show ((b.length / 1024 : Nat) : Int) = (b.length : Int) / 1024 by omega] at hno
    exact hno
  clear h
  by_cases h1 : k < 0
  · have t1 : decide (k < 0) = true := decide_eq_true h1
    clear hno
    go_enter Try.func14, Try.ntmps14
    go_wp2
    go_ret
    exact ⟨rfl, Below.refl _ _⟩
  · have t1 : decide (k < 0) = false := decide_eq_false h1
    by_cases h2 : (b.length : Int) / 1024 ≤ k
    · have t2 : decide (k ≥ (b.length : Int) / 1024) = true := decide_eq_true h2
      clear hno
      go_enter Try.func14, Try.ntmps14
      go_wp2
      go_ret
      exact ⟨rfl, Below.refl _ _⟩
    · have t2 : decide (k ≥ (b.length : Int) / 1024) = false := decide_eq_false h2
      by_cases h3 : nx = 1024
      · subst h3
        have hd : dead = true := by
          rcases hno with h | h
          · cases dead with
            | true => rfl
            | false => simp at h; omega
          · omega
        subst hd
        clear hno
        go_enter Try.func14, Try.ntmps14
        go_wp2
        go_ret
        exact ⟨rfl, Below.refl _ _⟩
      · have t3 : ((nx : Int) != 1024) = true := by simp; omega
        have t4 : ((nx : Int) == 1024) = false := by simp; omega
        clear hno h3
        go_enter Try.func14, Try.ntmps14
        go_wp2
        go_ret
        exact ⟨rfl, Below.refl _ _⟩

section
variable {base n0 : Nat} {okB ok : Nat → Prop} {V1 w1 : World} {g : Nat} {vb vl v9 v1 : Value} {b y : List Int} {l : List S31} {cut n : Int} {dead : Bool}
def okN (n0 : Nat) (V1 : World) (k : Nat) : Prop := n0 ≤ k ∧ k < V1.heap.size
/-- what an append to the log asks, the new row being newer than all of the model's blocks -/
theorem IsMv.pushes2 (h : IsMv base okB V1 g vb vl b l cut dead) (hlt : ∀ k, okB k → k < n0) (hz : n0 ≤ V1.heap.size) (hsub : ∀ k, okB k → ok k) (hok : ∀ k, n0 ≤ k → ok k) (hbs : base ≤ n0) (hR : Kd.R (Kd.int .u8) 5 V1 n0 (fun _ => True) v9 y) :
    k31.M V1 base (okN n0 V1) ⟨n, y⟩ [.int .i64 n, v9] ∧ (∀ k, okN n0 V1 k → okS ok vb k ∧ some k ≠ vl.ownBlock) ∧ (∀ k, V1.heap.size ≤ k → okS ok vb k) ∧ Kd.S k31 31 V1 base (fun k => okS ok vb k ∧ ¬ okN n0 V1 k) vl l := by
  have hbl : ∀ k, vb.ownBlock = some k → k < n0 := fun k e => hlt k (h.imgOk k e)
  have hll : ∀ k, vl.ownBlock = some k → k < n0 := fun k e => hlt k (h.logOk k e)
  refine ⟨k31_mkM _ _ _ ⟨n, y⟩ (Kd.R_mono (Kd.R_lower (Kd.R_bound hR) hbs) (fun k hk => ⟨hk.2.1, hk.2.2.1⟩)), fun k hk => ⟨⟨hok k hk.1, fun e => ?_⟩, fun e => ?_⟩, fun k hk => ⟨hok k (by omega), fun e => ?_⟩, ?_⟩
  · have := hbl k e
    have := hk.1
    omega
  · have := hll k e.symm
    have := hk.1
    omega
  · have := hbl k e
    omega
  · exact Kd.S_mono h.2.2.2 (fun k hk => ⟨⟨hsub k hk.1, hk.2⟩, fun h2 => by have := h2.1; have := hlt k hk.1; omega⟩)
theorem IsMv.pushed2 {l2 : List S31} (h : IsMv base okB V1 g vb vl b l cut dead) (hsub : ∀ k, okB k → ok k) (hS : Kd.S k31 31 w1 base (okS ok vb) v1 l2) (hg : V1.grownBy w1 vl.ownBlock) :
    IsMv base ok (w1.setCell ⟨g, 1, none⟩ v1) g vb v1 b l2 cut dead ∧ Off okB V1 (w1.setCell ⟨g, 1, none⟩ v1) :=
  ⟨h.logged hsub hg hS, ((Off.refl okB V1).grown hg (fun k hk => .inl (h.logOk k hk))).setCell (.inl h.2.1.2) _⟩
end
set_option maxRecDepth 100000 in
set_option maxHeartbeats 4000000 in
theorem mwrite_yes (g : Nat) (base : Nat) (ok okx : Nat → Prop) (s : DS) (k : Nat) (Ax : Option Addr) (cx : Nat) (x : List Int) (w : World)
    (h : IsM base ok w g s.b s.l s.cut false) (hok : ∀ k, ok k → k < w.heap.size) (hbs : base ≤ w.heap.size) (hF : Kd.F (Kd.int .u8) w okx Ax 1024 x) (hcx : 1024 ≤ cx) (hap : ∀ k, okx k → ¬ ok k)
    (hx : x.length = 1024) (hn : s.b.length < 1000000000) (hl : s.l.length < 1000000000) (hcut : s.cut ≤ 9223372036854775807) (hk : k < s.b.length / 1024) (hdead : s.dead = false) :
    Calls Try.prog 14 #[.pointer (some ⟨g, 0, none⟩), .int .i64 (k : Int), .slice Ax 1024 cx] w fun e w' => e = .returned (.bool (runW k x [0, 1] s).2) ∧
      IsM base (fun k => ok k ∨ w.heap.size ≤ k) w' g (runW k x [0, 1] s).1.b (runW k x [0, 1] s).1.l (runW k x [0, 1] s).1.cut (runW k x [0, 1] s).1.dead ∧ Off ok w w' := by
  have HM := Lib.hid h
  have HOK := Lib.hid hok
  have HF := Lib.hid (Kd.F_bound hF)
  have HAP := Lib.hid hap
  have HDEAD := Lib.hid hdead
  have HKK := Lib.hid hk
  obtain ⟨vb, vl, hI, hbok, hR, hS⟩ := h
  obtain ⟨A, c, rfl⟩ := Kd.R_slice hR
  have b0 := hI.c0
  have b3 := hI.c3
  have t1 : decide ((k : Int) < 0) = false := decide_eq_false (by omega)
  have t2 : decide ((k : Int) ≥ (s.b.length : Int) / 1024) = false := decide_eq_false (by omega)
  have hk2 : (k : Int) ≤ 1000000 := by omega
  clear hI hbok hR hS hok hF hap hdead hk
  go_enter Try.func14, Try.ntmps14
  go_wp2
  go_loopw [7, 8] (fun i v wr => ∃ j : Nat, j ≤ 2 ∧ i = .int .i64 (j : Int) ∧ Hid (IsM base (fun k => ok k ∨ w.heap.size ≤ k) wr g (foldW k x (List.range' 0 j) s).b (foldW k x (List.range' 0 j) s).l (foldW k x (List.range' 0 j) s).cut false) ∧ Hid (GoesW k x (List.range' 0 j) s) ∧ Hid (Off ok w wr)) (fun i _ _ => 2 - (intOf i).toNat)
  case atStart => exact ⟨0, by omega, rfl, Lib.hid (HM.out.mono (fun _ hk => .inl hk)), Lib.hid trivial, Lib.hid (Off.refl _ _)⟩
  case round =>
    obtain ⟨j, hj, rfl, HI, HG, HO⟩ := hrel
    by_cases hlt : j < 2
    · have hlt2 : (j : Int) < 2 := by omega
      have hfl := foldW_length k x hx (List.range' 0 j) s (fun i hi => by have := List.mem_range'_1.1 hi; omega) HKK.out
      have hfc := foldW_cut k x (List.range' 0 j) s
      obtain ⟨Z, hZ⟩ : ∃ Z, foldW k x (List.range' 0 j) s = Z := ⟨_, rfl⟩
      rw [hZ] at HI hfl hfc
      rw [List.length_range'] at hfl
      obtain ⟨hZb, hZl, hZd⟩ := hfl
      have hlen2 : Z.l.length < 1000000002 := by omega
      have HZ := Lib.hid hZ
      have HZB := Lib.hid hZb
      have HLL := Lib.hid hlen2
      have hcut : Z.cut ≤ 9223372036854775807 := by omega
      obtain ⟨vb', vl, hDv⟩ := HI.out.bound
      have hDv : IsMv base (fun k => (ok k ∨ w.heap.size ≤ k) ∧ base ≤ k ∧ k < wr.heap.size) wr g vb' vl Z.b Z.l Z.cut false := hDv
      obtain ⟨A, c, rfl⟩ := Kd.R_slice hDv.2.2.1
      have HDW := Lib.hid (hDv.toks (ok' := fun k => (ok k ∨ w.heap.size ≤ k) ∧ k < wr.heap.size) (fun k hk => ⟨hk.1, hk.2.2⟩))
      have c0 := hDv.1.c0
      have c1 := hDv.1.c1
      have c2 := hDv.1.c2
      have c3 := hDv.1.c3
      have f2 := blk_frozen hDv.1 2
      have f3 := blk_frozen hDv.1 3
      have hszr := HO.out.size
      clear hZ hZb hZl hZd hlen2 hfc hDv HI
      by_cases hc0 : Z.cut = 0
      · have t4 : (Z.cut == 0) = true := by simp [hc0]
        have HC0 := Lib.hid hc0
        clear hc0
        have HRUN := Lib.hid (runW_at k x s j hlt HG.out (by rw [HZ.out]; exact HC0.out))
        go_wp2
        go_ret
        rw [HRUN.out]
        dsimp only
        rw [HZ.out, HC0.out]
        have hd := (HDW.out.set3 true).is
        rw [HC0.out] at hd
        exact ⟨rfl, hd.mono (fun _ hk => hk.1), HO.out.setCell HDW.out.2.1.2.1 _⟩
      · have t4 : (Z.cut == 0) = false := by simp [hc0]
        have HN0 := Lib.hid hc0
        obtain ⟨f, hf⟩ : ∃ f : Nat, (k * 2 + j) * 512 = f := ⟨_, rfl⟩
        have hfb : f + 512 ≤ Z.b.length := by have := HZB.out; have := HKK.out; omega
        have hcap : Z.b.length ≤ c := (Kd.R_reads' HDW.out.2.2.1).2.1
        have hsl := slice_from A Z.b.length c f (by omega) hcap
        rw [show (f : Int) = 1024 * (k : Int) + 512 * (j : Int) by omega] at hsl
        have hsec := sec_run Ax cx j hlt hcx
        rw [show (j : Int) * 512 = 512 * (j : Int) by omega, show ((j : Int) + 1) * 512 = 512 * (j : Int) + 512 by omega] at hsec
        have hCx : ∀ V, Off ok w V → Kd.C (Kd.int .u8) V (secA Ax cx j) (secOf x j).length (secOf x j) := fun V hV => by
          have h1 := Kd.F_now (Off.F HF.out hV (fun k_ hk_ => HAP.out k_ hk_.1))
          have h2 := sec_reads Ax cx j hlt hcx x hx V (by rw [hx]; exact h1)
          rw [secOf_length x j hx hlt]
          exact h2
        have HCX := Lib.hid hCx
        have HL5 := Lib.hid (secOf_length x j hx hlt)
        have HFE := Lib.hid hf
        clear hCx hf c3 f3
        by_cases hp : 0 < Z.cut
        · have t5 : decide (Z.cut > 0) = true := decide_eq_true hp
          have HC1 : Hid ((Z.cut - 1) = (if 0 < Z.cut then Z.cut - 1 else Z.cut)) := Lib.hid (by rw [if_pos hp])
          have HD1 : Hid (IsMv base (fun k => (ok k ∨ w.heap.size ≤ k) ∧ k < wr.heap.size) (wr.setCell ⟨g, 2, none⟩ (.int .i64 (Z.cut - 1))) g (.slice A Z.b.length c) vl Z.b Z.l (Z.cut - 1) false) := Lib.hid (HDW.out.set2 (Z.cut - 1))
          have HO1 : Hid (Off ok w (wr.setCell ⟨g, 2, none⟩ (.int .i64 (Z.cut - 1)))) := Lib.hid (HO.out.setCell (p := ⟨g, 2, none⟩) HDW.out.2.1.2.1 (.int .i64 (Z.cut - 1)))
          clear hc0
          go_wp2_with (first | (at_builtin; refine mk_ ?_))
          unfold Mk_
          refine Kd.R_append_rows (Kd.int .u8) (w0 := (wr.setCell ⟨g, 2, none⟩ (.int .i64 (Z.cut - 1)))) wr.heap.size rfl (.const (.slice none 0 0)) (.tmp 62) 26 5 (.int .u8 0) 1 rfl Try.underlying26 info5 rfl (by decide) (by omega) (.slice none 0 0) [] (secOf x j) _ _ _ (fun _ => True) (fun _ => False) rfl rfl (Kd.R_nil _ _ _ _ _) (by have := HCX.out _ HO1.out; rw [HL5.out] at this; exact this) (fun _ _ h => h) (fun _ h => h.elim) (fun _ _ => trivial) (Below.refl _ _) (by simp) (by simp) ?_
          intro v9 W2 hown hb1 hg hat
          rw [List.nil_append] at hown
          obtain ⟨A9, c9, rfl⟩ := Kd.R_slice hown
          have hb1 : Below ((wr.setCell ⟨g, 2, none⟩ (.int .i64 (Z.cut - 1)))).heap.size (wr.setCell ⟨g, 2, none⟩ (.int .i64 (Z.cut - 1))) W2 := by (rw [(show ((wr.setCell ⟨g, 2, none⟩ (.int .i64 (Z.cut - 1)))).heap.size = wr.heap.size by simp)]; exact hb1)
          have hD2 := HD1.out.below hb1
          have e0 := hD2.1.c0
          obtain ⟨W3, hcp, hR3, hg3⟩ := copy_from (P := Try.prog) (dT := 26) (sT := 26) (ty := 3) (elem := 5) Try.underlying26 (by kernel_rfl) hD2.2.2.1 (Kd.R_reads' hown).2.2 (by rw [HL5.out]; omega) (by rw [HL5.out]; exact hfb) (cm := c9)
          have hD3 := hD2.image hg3 hR3
          have e1 := hD3.1.c1
          have HD3 := Lib.hid hD3
          have HR9 := Lib.hid (Kd.R_grown (Kd.R_bound hown) hg3 (fun k_ hk_ e => (by have h1 := HD1.out.imgOk k_ e.symm; have h2 := hk_.2.1; omega)))
          have HO3 := Lib.hid ((HO1.out.below hb1).grown hg3 (fun k_ hk_ => (HD1.out.imgOk k_ hk_).1))
          have HZ3 := Lib.hid (Nat.le_trans hb1.size hg3.size)
          have HPU := Lib.hid (HD3.out.pushes2 (n0 := wr.heap.size) (ok := fun k => ok k ∨ w.heap.size ≤ k) (n := 2 * (k : Int) + (j : Int)) (fun k_ hk_ => hk_.2) (by rw [← (show ((wr.setCell ⟨g, 2, none⟩ (.int .i64 (Z.cut - 1)))).heap.size = wr.heap.size by simp)]; exact HZ3.out) (fun k_ hk_ => hk_.1) (fun k_ hk_ => .inr (by omega)) (by omega) (Kd.R_mono HR9.out (fun _ _ => trivial)))
          clear hown hb1 hg hat hD2 hR3 hg3 hD3
          go_wp2_with (first | (at_builtin; refine mk_ ?_))
          unfold Mk_
          refine Kd.S_append k31 (w0 := W3) base rfl (.tmp 80) (.tmp 87) 28 31 (.agg #[.int .i64 0, .slice none 0 0]) 32 rfl Try.underlying28 info31 rfl (by decide) (by omega) vl Z.l (⟨2 * (k : Int) + (j : Int), secOf x j⟩ : S31) [.int .i64 (2 * (k : Int) + (j : Int)), .slice A9 (secOf x j).length c9] (okS (fun k => ok k ∨ w.heap.size ≤ k) (.slice A Z.b.length c)) (okN wr.heap.size W3) rfl rfl HPU.out.1 HPU.out.2.1 HPU.out.2.2.1 HPU.out.2.2.2 (Below.refl _ _) (by have := HZ3.out; have h0 : ((wr.setCell ⟨g, 2, none⟩ (.int .i64 (Z.cut - 1)))).heap.size = wr.heap.size := (by simp); omega) (by have := HLL.out; omega) ?_
          intro v10 w10 ho10 hb10 hg10 hat10
          obtain ⟨A10, c10, rfl⟩ := Kd.S_slice ho10
          have HEND := Lib.hid (HD3.out.pushed2 (ok := fun k => ok k ∨ w.heap.size ≤ k) (fun k_ hk_ => hk_.1) ho10 hg10)
          have fz := blk_frozen (HD3.out.1.grown hg10 (Kd.S_ne HD3.out.2.2.2 HD3.out.1 (by decide))) 1
          have ez := (HD3.out.1.grown hg10 (Kd.S_ne HD3.out.2.2.2 HD3.out.1 (by decide))).c1
          clear ho10 hb10 hg10 hat10
          go_wp2
          go_roundw
          case rel =>
            obtain ⟨hd3, ho3⟩ := HEND.out
            simp only [List.length_append, List.length_cons, List.length_nil, Nat.zero_add] at hd3 ho3
            have hst : foldW k x (List.range' 0 (j + 1)) s = stepW k x Z j := by
              rw [List.range'_concat, foldW_snoc, HZ.out]
              simp
            refine ⟨j + 1, by omega, by go_num, Lib.hid ?_, Lib.hid ?_, Lib.hid ?_⟩
            · rw [hst]
              have h1 := hd3.is
              rw [← HFE.out, HC1.out, show 2 * (k : Int) + (j : Int) = ((k * 2 + j : Nat) : Int) by omega] at h1
              exact h1
            · rw [List.range'_concat, show 0 + 1 * j = j by omega]
              exact GoesW_snoc k x _ s j HG.out (by rw [HZ.out]; exact HN0.out)
            · exact HO3.out.then_ ho3 (fun k_ hk_ => hk_.1)
          case measure => simp [intOf]; omega
        · have t5 : decide (Z.cut > 0) = false := decide_eq_false hp
          have HC1 : Hid (Z.cut = (if 0 < Z.cut then Z.cut - 1 else Z.cut)) := Lib.hid (by rw [if_neg hp])
          have HD1 : Hid (IsMv base (fun k => (ok k ∨ w.heap.size ≤ k) ∧ k < wr.heap.size) wr g (.slice A Z.b.length c) vl Z.b Z.l Z.cut false) := Lib.hid HDW.out
          have HO1 : Hid (Off ok w wr) := Lib.hid HO.out
          clear hc0
          go_wp2_with (first | (at_builtin; refine mk_ ?_))
          unfold Mk_
          refine Kd.R_append_rows (Kd.int .u8) (w0 := wr) wr.heap.size rfl (.const (.slice none 0 0)) (.tmp 62) 26 5 (.int .u8 0) 1 rfl Try.underlying26 info5 rfl (by decide) (by omega) (.slice none 0 0) [] (secOf x j) _ _ _ (fun _ => True) (fun _ => False) rfl rfl (Kd.R_nil _ _ _ _ _) (by have := HCX.out _ HO1.out; rw [HL5.out] at this; exact this) (fun _ _ h => h) (fun _ h => h.elim) (fun _ _ => trivial) (Below.refl _ _) (by simp) (by simp) ?_
          intro v9 W2 hown hb1 hg hat
          rw [List.nil_append] at hown
          obtain ⟨A9, c9, rfl⟩ := Kd.R_slice hown
          have hb1 : Below (wr).heap.size wr W2 := by (rw [(show (wr).heap.size = wr.heap.size by simp)]; exact hb1)
          have hD2 := HD1.out.below hb1
          have e0 := hD2.1.c0
          obtain ⟨W3, hcp, hR3, hg3⟩ := copy_from (P := Try.prog) (dT := 26) (sT := 26) (ty := 3) (elem := 5) Try.underlying26 (by kernel_rfl) hD2.2.2.1 (Kd.R_reads' hown).2.2 (by rw [HL5.out]; omega) (by rw [HL5.out]; exact hfb) (cm := c9)
          have hD3 := hD2.image hg3 hR3
          have e1 := hD3.1.c1
          have HD3 := Lib.hid hD3
          have HR9 := Lib.hid (Kd.R_grown (Kd.R_bound hown) hg3 (fun k_ hk_ e => (by have h1 := HD1.out.imgOk k_ e.symm; have h2 := hk_.2.1; omega)))
          have HO3 := Lib.hid ((HO1.out.below hb1).grown hg3 (fun k_ hk_ => (HD1.out.imgOk k_ hk_).1))
          have HZ3 := Lib.hid (Nat.le_trans hb1.size hg3.size)
          have HPU := Lib.hid (HD3.out.pushes2 (n0 := wr.heap.size) (ok := fun k => ok k ∨ w.heap.size ≤ k) (n := 2 * (k : Int) + (j : Int)) (fun k_ hk_ => hk_.2) (by rw [← (show (wr).heap.size = wr.heap.size by simp)]; exact HZ3.out) (fun k_ hk_ => hk_.1) (fun k_ hk_ => .inr (by omega)) (by omega) (Kd.R_mono HR9.out (fun _ _ => trivial)))
          clear hown hb1 hg hat hD2 hR3 hg3 hD3
          go_wp2_with (first | (at_builtin; refine mk_ ?_))
          unfold Mk_
          refine Kd.S_append k31 (w0 := W3) base rfl (.tmp 80) (.tmp 87) 28 31 (.agg #[.int .i64 0, .slice none 0 0]) 32 rfl Try.underlying28 info31 rfl (by decide) (by omega) vl Z.l (⟨2 * (k : Int) + (j : Int), secOf x j⟩ : S31) [.int .i64 (2 * (k : Int) + (j : Int)), .slice A9 (secOf x j).length c9] (okS (fun k => ok k ∨ w.heap.size ≤ k) (.slice A Z.b.length c)) (okN wr.heap.size W3) rfl rfl HPU.out.1 HPU.out.2.1 HPU.out.2.2.1 HPU.out.2.2.2 (Below.refl _ _) (by have := HZ3.out; omega) (by have := HLL.out; omega) ?_
          intro v10 w10 ho10 hb10 hg10 hat10
          obtain ⟨A10, c10, rfl⟩ := Kd.S_slice ho10
          have HEND := Lib.hid (HD3.out.pushed2 (ok := fun k => ok k ∨ w.heap.size ≤ k) (fun k_ hk_ => hk_.1) ho10 hg10)
          have fz := blk_frozen (HD3.out.1.grown hg10 (Kd.S_ne HD3.out.2.2.2 HD3.out.1 (by decide))) 1
          have ez := (HD3.out.1.grown hg10 (Kd.S_ne HD3.out.2.2.2 HD3.out.1 (by decide))).c1
          clear ho10 hb10 hg10 hat10
          go_wp2
          go_roundw
          case rel =>
            obtain ⟨hd3, ho3⟩ := HEND.out
            simp only [List.length_append, List.length_cons, List.length_nil, Nat.zero_add] at hd3 ho3
            have hst : foldW k x (List.range' 0 (j + 1)) s = stepW k x Z j := by
              rw [List.range'_concat, foldW_snoc, HZ.out]
              simp
            refine ⟨j + 1, by omega, by go_num, Lib.hid ?_, Lib.hid ?_, Lib.hid ?_⟩
            · rw [hst]
              have h1 := hd3.is
              rw [← HFE.out, HC1.out, show 2 * (k : Int) + (j : Int) = ((k * 2 + j : Nat) : Int) by omega] at h1
              exact h1
            · rw [List.range'_concat, show 0 + 1 * j = j by omega]
              exact GoesW_snoc k x _ s j HG.out (by rw [HZ.out]; exact HN0.out)
            · exact HO3.out.then_ ho3 (fun k_ hk_ => hk_.1)
          case measure => simp [intOf]; omega
    · obtain rfl : j = 2 := by omega
      go_wp2
      go_ret
      have hrun := runW_done k x [0, 1] s HG.out
      have hfd := foldW_length k x hx [0, 1] s (by simp) HKK.out
      have hfd2 := hfd.2.2.trans HDEAD.out
      have hi := HI.out
      rw [show List.range' 0 2 = [0, 1] from rfl] at hi
      rw [hrun]
      dsimp only
      rw [hfd2]
      exact ⟨rfl, hi, HO.out⟩

theorem mwrite_calls (g : Nat) (base : Nat) (ok okx : Nat → Prop) (s : DS) (k : Int) (Ax : Option Addr) (cx : Nat) (x : List Int) (w : World)
    (h : IsM base ok w g s.b s.l s.cut s.dead) (hok : ∀ k, ok k → k < w.heap.size) (hbs : base ≤ w.heap.size) (hF : Kd.F (Kd.int .u8) w okx Ax x.length x) (hcx : x.length ≤ cx) (hap : ∀ k, okx k → ¬ ok k)
    (hn : s.b.length < 1000000000) (hx : x.length < 1000000000) (hl : s.l.length < 1000000000) (hcut : s.cut ≤ 9223372036854775807) :
    Calls Try.prog 14 #[.pointer (some ⟨g, 0, none⟩), .int .i64 k, .slice Ax x.length cx] w fun e w' => e = .returned (.bool (writeD k x s).2) ∧
      IsM base (fun k => ok k ∨ w.heap.size ≤ k) w' g (writeD k x s).1.b (writeD k x s).1.l (writeD k x s).1.cut (writeD k x s).1.dead ∧ Off ok w w' := by
  by_cases hc : (!s.dead && decide (0 ≤ k ∧ k < ((s.b.length / 1024 : Nat) : Int))) = true ∧ x.length = 1024
  · obtain ⟨hc1, hx⟩ := hc
    have hw : writeD k x s = runW k.toNat x [0, 1] s := by unfold writeD; rw [if_pos ⟨hc1, hx⟩]
    simp only [Bool.and_eq_true, Bool.not_eq_true', decide_eq_true_eq] at hc1
    obtain ⟨hd, h0, h1⟩ := hc1
    have hk : (k.toNat : Int) = k := by omega
    rw [hd] at h
    rw [hx] at hF hcx ⊢
    have := mwrite_yes g base ok okx s k.toNat Ax cx x w h hok hbs hF hcx hap hx hn hl hcut (by omega) hd
    rw [hk, ← hw] at this
    exact this
  · have hw : writeD k x s = (s, false) := by unfold writeD; rw [if_neg hc]
    rw [hw]
    obtain ⟨vb, vl, hI, hbok, hR, hS⟩ := h
    obtain ⟨A, c, rfl⟩ := Kd.R_slice hR
    refine (mwrite_no g A c s.b vl s.cut k s.dead Ax x.length cx w hI (by omega) hx ?_).mono ?_
    · by_cases hx : x.length = 1024
      · left
        cases ht : (!s.dead && decide (0 ≤ k ∧ k < ((s.b.length / 1024 : Nat) : Int))) with
        | false => rfl
        | true => exact absurd ⟨ht, hx⟩ hc
      · exact .inr hx
    · rintro e w' ⟨rfl, hb⟩
      refine ⟨rfl, ?_, Off.of_below hb ok⟩
      exact IsM.mono (IsM.below (W := w) (⟨_, vl, hI, hbok, hR, hS⟩ : IsM base ok w g s.b s.l s.cut s.dead) hb) (fun k hk => .inl hk)
end Go.Proofs.Ytahljbbofjbhgaa.Given
