/- alive, the document's example. -/
import Derived.Test.YtahljbbofjbhgaaE9
namespace Go.Proofs.Ytahljbbofjbhgaa.Given
open Go.RowKit Go.Shelf Go.Proofs.YtahljbbofjbhgaaW.PrintWords Go.Proofs.YtahljbbofjbhgaaW.PrintLast Go.Proofs.YtahljbbofjbhgaaW.PrintMore Go.Proofs.YtahljbbofjbhgaaBase
set_option linter.unusedVariables false
set_option linter.unusedSimpArgs false

theorem R_put {k : IntKind} {e : Nat} {W : World} {base : Nat} {ok : Nat → Prop} {g n cap : Nat} {xs : List Int} (h : Kd.R (Kd.int k) e W base ok (.slice (some ⟨g, 0, none⟩) n cap) xs) (i : Nat) (x : Int) :
    Kd.R (Kd.int k) e (W.setCell ⟨g, i, none⟩ (.int k x)) base ok (.slice (some ⟨g, 0, none⟩) n cap) (xs.set i x) := by
  have hn := (Kd.R_reads' h).1
  subst hn
  have h1 := (own_store_of (enc := Value.int k) (Kd.own_of_R h) (i : Int) x).1
  rw [Int.toNat_natCast] at h1
  refine Kd.R_of_own ?_ h.1
  rw [List.length_set]
  exact h1
theorem madeR (W : World) (m : Nat) (z : Int) (hz : z = m) (hm : m < 1000000000) :
    ∃ W', (Instr.makeSlice 26 (.int .i64 z) (.int .i64 z)).run Try.prog W = .ok (.slice (some ⟨W.heap.size, 0, none⟩) m m) W' ∧ Kd.R (Kd.int .u8) 5 W' W.heap.size (fun k => k = W.heap.size) (.slice (some ⟨W.heap.size, 0, none⟩) m m) (List.replicate m 0) ∧ Below W.heap.size W W' ∧ W'.heap.size = W.heap.size + 1 := by
  subst hz
  have h1 := print_make_int (P := Try.prog) 26 5 (.int .u8 0) 1 Try.underlying26 info5 rfl (by decide) (m : Int) (by omega) (by omega) W
  rw [Int.toNat_natCast] at h1
  refine ⟨_, h1, ?_, below_alloc (Below.refl _ _) _, by simp⟩
  have ho := own_made' W W.heap.size 5 .u8 m (Nat.le_refl _) (by omega)
  have := Kd.R_of_own (enc := Value.int .u8) (h1 := fun _ => rfl) ho (ok := fun k => k = W.heap.size) (fun i hi => by simp only [Value.ownBlock, Option.some.injEq] at hi; exact hi.symm)
  exact this
/-- a made row's cell -/
theorem R_cell {W : World} {base B n cap : Nat} {ok : Nat → Prop} {xs : List Int} (h : Kd.R (Kd.int .u8) 5 W base ok (.slice (some ⟨B, 0, none⟩) n cap) xs) (i : Nat) (hi : i < n) : W.cell? ⟨B, i, none⟩ = some (.int .u8 (rd xs (i : Int))) ∧ W.frozen? ⟨B, i, none⟩ = false := by
  obtain ⟨c, hcl, hM, hcc, hfr⟩ := Kd.R_elem h 0 (i : Int) (by omega) (by omega)
  have hM : c = [Value.int .u8 (xs.getD (i : Int).toNat 0)] := hM
  subst hM
  have h0 := hcc 0 _ rfl
  have h1 := hfr 0
  have hsz : (Kd.int .u8).sz = 1 := rfl
  rw [hsz, Int.toNat_natCast, Nat.mul_one, Nat.add_zero] at h0 h1
  exact ⟨h0, h1⟩

theorem rd_splice (b q : List Int) (f i : Nat) (hf : f + q.length ≤ b.length) : rd (Go.splice b f q) (i : Int) = if f ≤ i ∧ i < f + q.length then rd q ((i - f : Nat) : Int) else rd b (i : Int) := by
  unfold rd Go.splice
  simp only [Int.toNat_natCast, List.getD_eq_getElem?_getD]
  congr 1
  by_cases h1 : i < f
  · rw [if_neg (by omega), List.getElem?_append_left (by rw [List.length_take]; omega), List.getElem?_take_of_lt h1]
  · rw [List.getElem?_append_right (by rw [List.length_take]; omega), List.length_take, Nat.min_eq_left (by omega)]
    by_cases h2 : i < f + q.length
    · rw [if_pos (by omega), List.getElem?_append_left (by omega)]
    · rw [if_neg (by omega), List.getElem?_append_right (by omega), List.getElem?_drop, show f + q.length + (i - f - q.length) = i by omega]
theorem rd_secOf (x : List Int) (j i : Nat) (hi : i < 512) : rd (secOf x j) (i : Int) = rd x ((j * 512 + i : Nat) : Int) := by
  unfold rd secOf
  simp only [Int.toNat_natCast, List.getD_eq_getElem?_getD, List.getElem?_drop]
  congr 1
  rw [List.getElem?_take_of_lt (by omega)]
theorem alive_plain (Z x : List Int) (hZ : Z.length = 3072) (hx : x.length = 1024) (h0 : rd x 0 = 7) (h1 : rd Z 1536 = 0) (r : DS × Bool) (hr : r = writeD 1 x ⟨Z, [], 1, false⟩) :
    r.2 = false ∧ r.1.dead = true ∧ r.1.b.length = 3072 ∧ rd r.1.b 1024 = 7 ∧ rd r.1.b 1536 = 0 ∧ r.1.l.length = 1 ∧ ∀ y ∈ r.1.l, y.f1.length = 512 := by
  have hl := secOf_length x 0 hx (by omega)
  have h : writeD 1 x ⟨Z, [], 1, false⟩ = (⟨Go.splice Z 1024 (secOf x 0), [⟨2, secOf x 0⟩], 0, true⟩, false) := by
    unfold writeD
    rw [if_pos ⟨by simp [hZ], hx⟩]
    rfl
  rw [hr, h]
  refine ⟨rfl, rfl, ?_, ?_, ?_, rfl, ?_⟩
  · simp [Go.splice, hl, hZ]
  · show rd (Go.splice Z 1024 (secOf x 0)) ((1024 : Nat) : Int) = 7
    rw [rd_splice _ _ _ _ (by omega), if_pos (by omega), rd_secOf _ _ _ (by omega)]
    exact h0
  · show rd (Go.splice Z 1024 (secOf x 0)) ((1536 : Nat) : Int) = 0
    rw [rd_splice _ _ _ _ (by omega), if_neg (by omega)]
    exact h1
  · intro y hy
    simp only [List.mem_singleton] at hy
    rw [hy]
    exact hl
theorem rd_replicate (n i : Nat) : rd (List.replicate n 0) (i : Int) = 0 := by
  unfold rd
  simp only [Int.toNat_natCast, List.getD_eq_getElem?_getD, List.getElem?_replicate]
  split <;> rfl
theorem alive_row : ∃ x : List Int, ((List.replicate 1024 (0 : Int)).set 0 7).set 512 8 = x ∧ x.length = 1024 ∧ rd x 0 = 7 := by
  refine ⟨_, rfl, by simp only [List.length_set, List.length_replicate], ?_⟩
  unfold rd
  simp only [Int.toNat_zero, List.getD_eq_getElem?_getD]
  rw [List.getElem?_set_ne (by omega), List.getElem?_set_self (by rw [List.length_replicate]; decide)]
  rfl

set_option maxRecDepth 100000 in
set_option maxHeartbeats 2000000 in
theorem alive_calls (w : World) : Calls Try.prog 7 #[] w fun e w' => e = .returned (.bool true) ∧ Below w.heap.size w w' := by
  obtain ⟨Z, hZ⟩ : ∃ Z : List Int, List.replicate (blocksOf 3 * 1024) 0 = Z := ⟨_, rfl⟩
  have hZl : Z.length = 3072 := by rw [← hZ, List.length_replicate]; rfl
  have hZ0 : rd Z 1536 = 0 := by rw [← hZ]; exact rd_replicate _ 1536
  obtain ⟨x, hx, hxl, hx0⟩ := alive_row
  have HX := Lib.hid hx
  have HXL := Lib.hid hxl
  have HP := Lib.hid (alive_plain Z x hZl hxl hx0 hZ0 _ rfl)
  have HZ := Lib.hid hZ
  have HZL := Lib.hid hZl
  clear hZ hZl hZ0 hx hxl hx0
  go_enter Try.func7, Try.ntmps7
  go_wp2_with (first | (go_at_call 8; refine (new_calls 3 _).mono ?_; rintro e w1 ⟨g, rfl, hd, hb⟩; rw [HZ.out] at hd; have HD := Lib.hid (hd.bound.mono (ok' := fun k => w.heap.size ≤ k ∧ k < w1.heap.size) (fun k hk => ⟨hk.2.1, hk.2.2⟩)); have HB := Lib.hid hb; clear hd hb) | (go_at_call 9; refine (cutD 1 HD.out).mono ?_; rintro e w2 ⟨rfl, hd, ho⟩; have HD2 := Lib.hid hd; have HO2 := Lib.hid ho; clear hd ho; obtain ⟨w3, hmk, hR3, hb3, hz3⟩ := madeR w2 1024 1024 rfl (by decide); have k0 := (R_cell hR3 0 (by decide)).1; have f0 := (R_cell hR3 0 (by decide)).2; have k5 := (R_cell hR3 512 (by decide)).1; have f5 := (R_cell hR3 512 (by decide)).2; have HR3 := Lib.hid hR3; have HB3 := Lib.hid hb3; have HZ3 := Lib.hid hz3; clear hR3 hb3 hz3) | (go_at_call 10; refine mk_ ?_))
  unfold Mk_
  have hz2 := HO2.out.size
  have hR5 := R_put (R_put HR3.out 0 7) 512 8
  rw [HX.out] at hR5
  have hD5 : IsD w.heap.size (fun k => w.heap.size ≤ k ∧ k < w1.heap.size) ((w3.setCell ⟨w2.heap.size, 0, none⟩ (.int .u8 7)).setCell ⟨w2.heap.size, 512, none⟩ (.int .u8 8)) g Z [] 1 false :=
    (HD2.out.below HB3.out).move (fun k hk => (Below.heap_setCell _ _ _ _ (by simp only; omega)).trans (Below.heap_setCell _ _ _ _ (by simp only; omega)))
  have hz5 : ((w3.setCell ⟨w2.heap.size, 0, none⟩ (.int .u8 7)).setCell ⟨w2.heap.size, 512, none⟩ (.int .u8 8)).heap.size = w2.heap.size + 1 := by simp [HZ3.out]
  have hB5 : Below w.heap.size w ((w3.setCell ⟨w2.heap.size, 0, none⟩ (.int .u8 7)).setCell ⟨w2.heap.size, 512, none⟩ (.int .u8 8)) := by
    have h1 := HB.out.size
    exact (((HB.out.trans (HO2.out.to_below h1 (fun k hk => hk.1))).trans (HB3.out.mono (by omega))).setCell (by simp only; omega) _).setCell (by simp only; omega) _
  have hw := write_calls g w.heap.size (fun k => w.heap.size ≤ k ∧ k < w1.heap.size) (fun k => k = w2.heap.size) ⟨Z, [], 1, false⟩ 1 (some ⟨w2.heap.size, 0, none⟩) 1024 x _ hD5 (fun k hk => by rw [hz5]; omega) (by rw [hz5]; have := HB.out.size; omega)
    (Kd.F_mono (by have := Kd.R_F hR5; rw [HXL.out]; exact this) (fun _ h => h)) (by rw [HXL.out]; exact Nat.le_refl _) (fun k hk h2 => by omega) (by have := HZL.out; simp only; omega) (by simp) (by simp) (by simp)
  rw [HXL.out] at hw
  have HZ5 := Lib.hid hz5
  have HB5 := Lib.hid hB5
  clear hz5 hB5 hD5 hR5 hz2 k0 f0 k5 f5 hmk
  generalize ((w3.setCell ⟨w2.heap.size, 0, none⟩ (.int .u8 7)).setCell ⟨w2.heap.size, 512, none⟩ (.int .u8 8)) = w5 at hw HZ5 HB5 ⊢
  refine hw.mono ?_
  rintro e w6 ⟨rfl, hd6, ho6⟩
  obtain ⟨S, hS⟩ : ∃ S, writeD 1 x ⟨Z, [], 1, false⟩ = S := ⟨_, rfl⟩
  rw [hS] at HP hd6 ⊢
  obtain ⟨p1, p2, p3, p4, p5, p6, p7⟩ := HP.out
  rw [p1]
  rw [p2] at hd6
  have HD6 := Lib.hid hd6.bound
  have HB6 := Lib.hid (Off.keepB HB5.out ho6 (fun k hk => hk.1) HB5.out.size)
  have P3 := Lib.hid p3
  have P6 := Lib.hid p6
  have P7 := Lib.hid p7
  have P4 := Lib.hid p4
  have P5 := Lib.hid p5
  clear hw hd6 ho6 p1 p2 p3 p4 p5 p6 p7 HP hS
  go_wp2_with (first | (go_at_call 17; refine (imageD HD6.out (by rw [P3.out]; decide)).mono ?_; rintro e w7 ⟨v7, rfl, hR7, hb7⟩; obtain ⟨G7, c7, rfl, _, hG7, _⟩ := Kd.R_form hR7 (by rw [P3.out]; decide); have k7 := (R_cell hR7 1024 (by rw [P3.out]; decide)).1; have k8 := (R_cell hR7 1536 (by rw [P3.out]; decide)).1; rw [P3.out]; rw [show ((1024 : Nat) : Int) = 1024 from rfl, P4.out] at k7; rw [show ((1536 : Nat) : Int) = 1536 from rfl, P5.out] at k8; have HZ7 := Lib.hid hb7.size; have HD7 := Lib.hid (HD6.out.below hb7); have HB7 := Lib.hid (HB6.out.trans (hb7.mono HB6.out.size)); clear hR7 hb7) | (go_at_call 12; refine (deadD HD7.out).mono ?_; rintro e w' ⟨rfl, hd⟩; obtain ⟨nd, rfl⟩ := hd) | (go_at_call 11; refine (logD (HD7.out.drewN nd) (fun k hk => Nat.lt_of_lt_of_le hk.2.2 HZ7.out) (by rw [P6.out]; decide) (fun y hy => by rw [P7.out y hy]; decide)).mono ?_; rintro e w8 ⟨v8, rfl, hN8, hb8⟩; obtain ⟨A8, c8, rfl⟩ := Kd.N_slice hN8; rw [P6.out]; have HB8 := Lib.hid ((pw_below_drewN HB7.out nd).trans (hb8.mono HB7.out.size)); clear hN8 hb8))
  go_ret
  exact ⟨by first | rfl | simp, HB8.out⟩
end Go.Proofs.Ytahljbbofjbhgaa.Given
