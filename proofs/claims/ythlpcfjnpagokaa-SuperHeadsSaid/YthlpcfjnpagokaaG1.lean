/- super.Pack: what it answers, for every geometry. (UNDER WAY: does not build yet.) -/
import Derived.Test.YthlpcfjnpagokaaStr
import Derived.Test.YthlpcfjnpagokaaPNumx1
import Derived.Test.YthlpcfjnpagokaaPCheckx1
import Derived.Lib.Hide
import Derived.Laws.MakeOwn
import Derived.Test.YthlpcfjnpagokaaBaseIn
import Derived.Laws.CopyOwn
namespace Go.Proofs.Ythlpcfjnpagokaa.Given
open Go.RowKit Go.Proofs.YthlpcfjnpagokaaW.PrintWords Go.Proofs.YthlpcfjnpagokaaW.PrintLast Go.Proofs.YthlpcfjnpagokaaBase Go.Proofs.Ythlpcfjnpagokaa.PNum Go.Proofs.Ythlpcfjnpagokaa.PCheck
set_option linter.unusedVariables false
set_option linter.unusedSimpArgs false

def Fine (g i d : Int) : Prop := 1 ≤ g ∧ g ≤ 8 ∧ 1 ≤ i ∧ i ≤ 4 ∧ 8 ≤ d ∧ d ≤ 1000
instance (g i d : Int) : Decidable (Fine g i d) := by unfold Fine; infer_instance
variable {g i d : Int}
theorem check_fine (h : Fine g i d) : geom_Check.f g i d = some 0 := by
  obtain ⟨h1, h2, h3, h4, h5, h6⟩ := h
  unfold geom_Check.f
  rw [if_neg (by omega), if_neg (by omega), if_neg (by omega), if_neg (by omega), if_neg (by omega), if_neg (by omega)]
theorem check_not (h : ¬ Fine g i d) : geom_Check.f g i d = some 1 := by
  unfold geom_Check.f
  unfold Fine at h
  (repeat' split) <;> first | rfl | (exfalso; omega)

def num4 (n : Int) : List Int := [n % 256, n / 256 % 256, n / 65536 % 256, n / 16777216 % 256]
def superBody (g i d : Int) : List Int := [76, 79, 67, 75, 71, 65, 84, 69] ++ num4 g ++ num4 i ++ num4 d
def superBytes (g i d : Int) : List Int := superBody g i d ++ num4 (superBody g i d).sum ++ List.replicate 1000 0
def super_Pack.f (a0_0 a0_1 a0_2 : Int) : Option (List Int × Int) := if Fine a0_0 a0_1 a0_2 then some (superBytes a0_0 a0_1 a0_2, 0) else some ([], 1)

theorem R_cells {W : World} {base : Nat} {ok : Nat → Prop} {v : Value} {l : List Int} (h : Kd.R (Kd.int .u8) 5 W base ok v l) (hne : l ≠ []) :
    ∃ g c, v = .slice (some ⟨g, 0, none⟩) l.length c ∧ base ≤ g ∧ ∀ j u, (nums .u8 l)[j]? = some u → W.cell? (Addr.add ⟨g, 0, none⟩ j) = some u := by
  obtain ⟨hl, h2⟩ := Kd.own_of_R h
  rcases h2 with ⟨_, h0⟩ | ⟨g, cap, cur, rfl, hb, hh, hle, hm, hs, ht⟩
  · exact absurd (List.eq_nil_of_length_eq_zero h0) hne
  · refine ⟨g, cap, rfl, hb, ?_⟩
    intro j u hu
    have hc := blk_cell hh (0 + j)
    rw [Addr.add_lit, hc]
    have hj : j < (nums .u8 l).length := by
      rcases Nat.lt_or_ge j (nums .u8 l).length with h | h
      · exact h
      · rw [List.getElem?_eq_none h] at hu; cases hu
    have : cur.toList[j]? = some u := by
      have h3 : (cur.toList.take (l.length * 1))[j]? = some u := by rw [ht]; exact hu
      rw [List.getElem?_take] at h3
      split at h3
      · exact h3
      · cases h3
    rw [Nat.zero_add]
    simpa using this

theorem number_step (k : Nat) (x5 : List Int) (n x7 : Int) (i j s : Nat) (hj : j = i + 1) (hs : s = 8 * i) (hi : i < 8) (h : (i : Int) < x7) (hl : x5.length < 100000) : super_number_int.l0 (k + 1) n x5 x7 i = super_number_int.l0 k n (x5 ++ [n / 2 ^ s % 256]) x7 j := by
  subst hj hs
  have h1 : wrap64 (8 * (i : Int)) = ((8 * i : Nat) : Int) := by unfold wrap64; omega
  have h2 : wrap64 ((i : Int) + 1) = ((i + 1 : Nat) : Int) := by unfold wrap64; omega
  have h3 : shr .i64 n ((8 * i : Nat) : Int) = n / 2 ^ (8 * i) := by
    unfold shr
    have : min (((8 * i : Nat) : Int)).toNat IntKind.i64.bits = 8 * i := by
      have : IntKind.i64.bits = 64 := rfl
      rw [this, Int.toNat_natCast]
      omega
    rw [this]
  simp only [super_number_int.l0]
  rw [if_pos h, h1, h2, if_pos (by omega), if_pos (by omega), h3]
theorem number4 (k : Nat) (n : Int) : super_number_int.f (k + 5) n 4 = some (num4 n) := by
  unfold super_number_int.f
  have := number_step (k + 4) [] n 4 0 1 0 rfl rfl (by omega) (by omega) (by simp)
  rw [Int.natCast_zero] at this
  rw [this, number_step (k + 3) _ n 4 1 2 8 rfl rfl (by omega) (by omega) (by simp), number_step (k + 2) _ n 4 2 3 16 rfl rfl (by omega) (by omega) (by simp), number_step (k + 1) _ n 4 3 4 24 rfl rfl (by omega) (by omega) (by simp)]
  simp only [super_number_int.l0]
  rw [if_neg (by omega)]
  simp [num4]

theorem rd_rng {l : List Int} (h : ∀ x ∈ l, 0 ≤ x ∧ x < 256) (j : Nat) : 0 ≤ rd l (j : Int) ∧ rd l (j : Int) < 256 := by
  unfold rd
  rw [Int.toNat_natCast, List.getD_eq_getElem?_getD]
  by_cases hj : j < l.length
  · simp only [hj, List.getElem?_eq_getElem, Option.getD_some]; exact h _ (List.getElem_mem hj)
  · simp [List.getElem?_eq_none (Nat.le_of_not_lt hj)]
theorem sum_step (y : List Int) (k : Nat) (h : k < y.length) : (y.take (k + 1)).sum = (y.take k).sum + rd y (k : Int) := by
  rw [List.take_add_one, List.sum_append]
  simp [rd, List.getD_eq_getElem?_getD, h]
theorem sum_rng (y : List Int) (hb : ∀ x ∈ y, 0 ≤ x ∧ x < 256) : ∀ k : Nat, k ≤ y.length → 0 ≤ (y.take k).sum ∧ (y.take k).sum ≤ 256 * k
  | 0, _ => by simp
  | k + 1, h => by
    have ih := sum_rng y hb k (by omega)
    have hr := rd_rng hb k
    rw [sum_step y k (by omega)]
    omega
theorem num4_rng (n : Int) : ∀ x ∈ num4 n, 0 ≤ x ∧ x < 256 := by
  intro x hx
  simp only [num4, List.mem_cons, List.not_mem_nil, or_false] at hx
  omega
theorem body_rng (g i d : Int) : ∀ x ∈ superBody g i d, 0 ≤ x ∧ x < 256 := by
  intro x hx
  simp only [superBody, List.mem_append] at hx
  rcases hx with ((hx | hx) | hx) | hx
  · simp only [List.mem_cons, List.not_mem_nil, or_false] at hx; omega
  · exact num4_rng _ _ hx
  · exact num4_rng _ _ hx
  · exact num4_rng _ _ hx

theorem conv_lit (W : World) (cs : Array Value) (h8 : cs.size = 8) : (convert 26 26 (.slice (some ⟨W.heap.size, 0, none⟩) 8 8)).run Try.prog (W.alloc (.cells cs 5)) = .ok (.slice (some ⟨W.heap.size, 0, none⟩) 8 8) (W.alloc (.cells cs 5 (8, 9))) := by
  have hsh : (W.alloc (.cells cs 5)).shape? W.heap.size = some (5, 8) := by
    have : (W.alloc (.cells cs 5)).heap[W.heap.size]? = some (.cells cs 5) := heap_alloc_new W _
    unfold World.shape?
    rw [this]
    simp [h8]
  have hfr : (W.alloc (.cells cs 5)).freeze ⟨W.heap.size, 8, none⟩ 1 = W.alloc (.cells cs 5 (8, 9)) := by
    have hm : ∀ (a : Array Obj) (x : Obj) (f : Obj → Obj), (a.push x).modify a.size f = a.push (f x) := by
      intro a x f
      apply Array.ext
      · simp
      · intro i h1 h2
        simp only [Array.getElem_modify, Array.getElem_push]
        by_cases h : a.size = i
        · subst h
          simp
        · have hi : i < a.size := by simp at h1; omega
          simp [h, hi]
    unfold World.freeze
    rw [if_neg (by decide)]
    show ({ W.alloc (.cells cs 5) with heap := (W.heap.push (.cells cs 5)).modify W.heap.size _ } : World) = _
    rw [hm]
    rfl
  simp [convert, run_underlying Try.underlying26, run_underlying Try.underlying5, markStringish, hsh, hfr]

theorem info5 : (Try.prog.info? 5).map (fun i => (i.zero, i.size, i.bytes)) = some (some (.int .u8 0), 1, 1) := by kernel_rfl
def Z1024 : Array Value := madeCells #[.int .u8 0] (1024 * 1)
theorem made_nums (v : Value) (n : Nat) : (madeCells #[v] n).toList = List.replicate n v := by
  have h : ∀ i : Nat, (#[v])[i % (#[v] : Array Value).size]! = v := fun i => by simp [Nat.mod_one]
  unfold madeCells
  rw [Array.toList_map, List.eq_replicate_iff]
  refine ⟨by simp, fun b hb => ?_⟩
  obtain ⟨i, _, rfl⟩ := List.mem_map.1 hb
  exact h i
theorem Z1024_nums : Z1024.toList = nums .u8 (List.replicate 1024 0) := by
  unfold Z1024
  rw [made_nums, nums, List.map_replicate]
theorem make1024 (w : World) : (Instr.makeSlice 26 (.int .i64 1024) (.int .i64 1024)).run Try.prog w = .ok (.slice (some ⟨w.heap.size, 0, none⟩) 1024 1024) (w.alloc (.cells Z1024 5)) := by
  obtain ⟨i0, hi, hzz⟩ := Option.map_eq_some_iff.1 info5
  simp only [Prod.mk.injEq] at hzz
  obtain ⟨hz0, hz1, hz2⟩ := hzz
  have := run_make (P := Try.prog) w 26 5 i0 (.int .u8 0) Try.underlying26 hi hz0 .i64 .i64 1024 1024 (by decide) (by decide) (by rw [hz2]; decide) (by decide)
  rw [hz1] at this
  exact this

set_option maxRecDepth 100000 in
set_option maxHeartbeats 1000000 in
theorem super_Pack.calls (a0_0 a0_1 a0_2 : Int) (r1 : List Int) (r2 : Int) (w : World) (h : super_Pack.f a0_0 a0_1 a0_2 = some (r1, r2)) :
    Calls Try.prog 8 #[.agg #[.int .i64 a0_0, .int .i64 a0_1, .int .i64 a0_2]] w fun e w' => ∃ v0_ : Value, e = .returned (.tuple #[v0_, .int .i64 r2]) ∧ Kd.R (Kd.int .u8) 5 w' w.heap.size (fun _ => True) v0_ r1 ∧ Below w.heap.size w w' := by
  by_cases hf : Fine a0_0 a0_1 a0_2
  · rw [super_Pack.f, if_pos hf] at h
    obtain ⟨hr1, rfl⟩ : superBytes a0_0 a0_1 a0_2 = r1 ∧ 0 = r2 := by simpa only [Option.some.injEq, Prod.mk.injEq] using h
    have hc := check_fine hf
    have HC := Lib.hid hc
    have HR := Lib.hid hr1
    have HF := Lib.hid hf
    clear h hc hr1 hf
    have hconv := fun W cs h8 => conv_lit W cs h8
    go_enter Try.func8, Try.ntmps8
    go_wp2_with (go_at_call 18; refine (geom_Check.calls _ _ _ 0 _ HC.out).mono ?_; rintro e w' ⟨rfl, hd⟩; have hbx := (hd.block w.heap.size (by simp)).trans (blk_new w _); have q0 := fun o => blk_cell (blk_alloc hbx o) 0; have q1 := fun o => blk_cell (blk_alloc hbx o) 1; have q2 := fun o => blk_cell (blk_alloc hbx o) 2; simp only [List.getElem?_toArray, List.getElem?_cons_zero, List.getElem?_cons_succ] at q0 q1 q2)
    refine wp_loop_rounds 4 ?_
    refine gen_world (fun W => W.heap[w'.heap.size]? = some (.cells #[.int .u8 76, .int .u8 79, .int .u8 67, .int .u8 75, .int .u8 71, .int .u8 65, .int .u8 84, .int .u8 69] 5 (8, 9)) ∧ W.heap[w'.heap.size + 1]? = some (.cells #[.int .i64 a0_0, .int .i64 a0_1, .int .i64 a0_2] 3) ∧ Below w.heap.size w W ∧ w.heap.size < w'.heap.size) ⟨?_, ?_, ?_, ?_⟩ ?_
    · exact blk_alloc (heap_alloc_new _ _) _
    · have := blk_new (w'.alloc (.cells #[.int .u8 76, .int .u8 79, .int .u8 67, .int .u8 75, .int .u8 71, .int .u8 65, .int .u8 84, .int .u8 69] 5 (8, 9))) (.cells #[.int .i64 a0_0, .int .i64 a0_1, .int .i64 a0_2] 3)
      rwa [World.size_alloc] at this
    · have hb := ((Below.refl w.heap.size w).alloc (Nat.le_refl _) (.cells #[.int .i64 a0_0, .int .i64 a0_1, .int .i64 a0_2] 23)).trans (hd.mono (by simp))
      exact (hb.alloc (Nat.le_of_lt (blk_lt hbx)) _).alloc (by have := blk_lt hbx; simp; omega) _
    · exact blk_lt hbx
    · rintro W ⟨k1, k2, hb, hlt⟩
      have p0 : W.cell? ⟨w'.heap.size + 1, 0, none⟩ = some (.int .i64 a0_0) := (blk_cell k2 0).trans rfl
      have hn0 := number4 0 a0_0
      have kb : ∀ W2, Below W.heap.size W W2 → ∀ b, (some (⟨w'.heap.size, 0, none⟩ : Addr)) = some b → ∀ j u, (nums .u8 [76, 79, 67, 75, 71, 65, 84, 69])[j]? = some u → W2.cell? (b.add j) = some u := by
        intro W2 h2 b eb j u hu
        obtain rfl := Option.some.inj eb
        rw [Addr.add_lit, cell_of_row _ _ _ _ _ _ ((h2.block _ (blk_lt k1)).trans k1), Nat.zero_add]
        simpa [nums] using hu
      obtain ⟨i0, hi0, hzz⟩ := Option.map_eq_some_iff.1 info5
      simp only [Prod.mk.injEq] at hzz
      obtain ⟨hz0, hz1, hz2⟩ := hzz
      go_wp2_with (first | (go_at_call 19; refine (super_number_int.calls 5 a0_0 4 (num4 a0_0) _ hn0).mono ?_; rintro e w2 ⟨v0, rfl, ho0, hb0⟩; obtain ⟨g0, c0, rfl, hg0, hcs0⟩ := R_cells ho0 (by simp [num4]); simp only [show (num4 a0_0).length = 4 from rfl]) | (at_builtin; refine wpList_append_grows _ rfl (.tmp 31) (.tmp 33) 26 rfl 5 i0 (.int .u8 0) 1 1 Try.underlying26 hi0 hz0 hz1 hz2 rfl (by decide) (some ⟨w'.heap.size, 0, none⟩) 8 8 (nums .u8 [76, 79, 67, 75, 71, 65, 84, 69]) rfl (fun h => by cases h) rfl (kb _ hb0) ⟨g0, 0, none⟩ 4 c0 (nums .u8 (num4 a0_0)) rfl rfl hcs0 (by intro u hu; simp only [nums, List.mem_map] at hu; obtain ⟨x, _, rfl⟩ := hu; rfl) (by decide) (by decide) (by decide) ?_; intro v1 w3 ho1 hg1))
      have hb2 : Below w.heap.size w w2 := hb.trans (hb0.mono hb.size)
      have hb3 : Below w.heap.size w w3 := hb2.grown hg1 hb2.size (fun k hk => by cases hk)
      have hR1 : Kd.R (Kd.int .u8) 5 w3 w.heap.size (fun _ => True) v1 ([76, 79, 67, 75, 71, 65, 84, 69] ++ num4 a0_0) := Kd.R_lower (Kd.R_of_own (h1 := fun _ => rfl) (ok := fun _ => True) (by simpa [nums, encs, num4] using ho1) (fun _ _ => trivial)) hb2.size
      have k3 : w3.heap[w'.heap.size + 1]? = some (.cells #[.int .i64 a0_0, .int .i64 a0_1, .int .i64 a0_2] 3) := blk_grown ((hb0.block _ (blk_lt k2)).trans k2) hg1 (by simp)
      obtain ⟨y1, hy1⟩ : ∃ y, y = [76, 79, 67, 75, 71, 65, 84, 69] ++ num4 a0_0 := ⟨_, rfl⟩
      rw [← hy1] at hR1
      have HL1 : Hid (y1.length = 12) := Lib.hid (by rw [hy1]; rfl)
      have HY1 := Lib.hid hy1
      clear hy1
      obtain ⟨A1, d1, rfl⟩ := Kd.R_slice hR1
      refine gen_world (fun V => Kd.R (Kd.int .u8) 5 V w.heap.size (fun _ => True) (.slice A1 y1.length d1) y1 ∧ V.heap[w'.heap.size + 1]? = some (.cells #[.int .i64 a0_0, .int .i64 a0_1, .int .i64 a0_2] 3) ∧ Below w.heap.size w V) ⟨hR1, k3, hb3⟩ ?_
      clear hR1 k3 hb3 hb2 hg1 ho1 hb0 ho0 hcs0 hb k1 k2 p0 kb
      rintro V ⟨hR1, k3, hb3⟩
      have p1 : V.cell? ⟨w'.heap.size + 1, 1, none⟩ = some (.int .i64 a0_1) := (blk_cell k3 1).trans rfl
      obtain ⟨m1, hm1⟩ : ∃ m, m = num4 a0_1 := ⟨_, rfl⟩
      have hn1 : super_number_int.f 5 a0_1 4 = some m1 := by rw [hm1]; exact number4 0 a0_1
      have HL2 : Hid (m1.length = 4) := Lib.hid (by rw [hm1]; rfl)
      have HM1 := Lib.hid hm1
      clear hm1
      have HR1 := Lib.hid hR1
      clear hR1
      go_wp2_with (first | (go_at_call 19; refine (super_number_int.calls 5 a0_1 4 m1 _ hn1).mono ?_; rintro e w4 ⟨v2, rfl, ho2, hb4⟩; obtain ⟨A2, d2, rfl⟩ := Kd.R_slice ho2) | (at_builtin; refine Kd.R_append_rows (Kd.int .u8) (w0 := w) w.heap.size rfl (.tmp 31) (.tmp 33) 26 5 (.int .u8 0) 1 rfl Try.underlying26 info5 rfl (by decide) (by omega) (.slice A1 y1.length d1) y1 m1 _ _ d2 (fun _ => True) (fun _ => False) rfl rfl (Kd.R_below HR1.out hb4) (Kd.R_reads' ho2).2.2 (fun _ _ h => h) (fun _ h => h.elim) (fun _ _ => trivial) (hb3.trans (hb4.mono hb3.size)) (Nat.le_trans hb3.size hb4.size) (by have := HL1.out; have := HL2.out; omega) ?_; intro v3 w5 hown hb5 hg5 hat5))
      obtain ⟨y2, hy2⟩ : ∃ y, y = y1 ++ m1 := ⟨_, rfl⟩
      rw [← hy2] at hown
      have HL3 : Hid (y2.length = 16) := Lib.hid (by have := HL1.out; have := HL2.out; rw [hy2, List.length_append]; omega)
      have HY2 := Lib.hid hy2
      clear hy2
      have hb4' := hb3.trans (hb4.mono hb3.size)
      have k5 : w5.heap[w'.heap.size + 1]? = some (.cells #[.int .i64 a0_0, .int .i64 a0_1, .int .i64 a0_2] 3) := blk_grown ((hb4.block _ (blk_lt k3)).trans k3) hg5 (Kd.R_ne (Kd.R_below HR1.out hb4) ((hb4.block _ (blk_lt k3)).trans k3) (by decide))
      obtain ⟨A3, d3, rfl⟩ := Kd.R_slice hown
      refine gen_world (fun V => Kd.R (Kd.int .u8) 5 V w.heap.size (fun _ => True) (.slice A3 y2.length d3) y2 ∧ V.heap[w'.heap.size + 1]? = some (.cells #[.int .i64 a0_0, .int .i64 a0_1, .int .i64 a0_2] 3) ∧ Below w.heap.size w V) ⟨hown, k5, hb5⟩ ?_
      clear hown k5 hb5 hb4' hb4 hg5 hat5 ho2 HR1 hb3 k3 p1
      rintro V3 ⟨hR3, k3, hb3⟩
      have p2 : V3.cell? ⟨w'.heap.size + 1, 2, none⟩ = some (.int .i64 a0_2) := (blk_cell k3 2).trans rfl
      obtain ⟨m2, hm2⟩ : ∃ m, m = num4 a0_2 := ⟨_, rfl⟩
      have hn2 : super_number_int.f 5 a0_2 4 = some m2 := by rw [hm2]; exact number4 0 a0_2
      have HL4 : Hid (m2.length = 4) := Lib.hid (by rw [hm2]; rfl)
      have HM2 := Lib.hid hm2
      clear hm2
      have HR3 := Lib.hid hR3
      clear hR3
      go_wp2_with (first | (go_at_call 19; refine (super_number_int.calls 5 a0_2 4 m2 _ hn2).mono ?_; rintro e w6 ⟨v4, rfl, ho4, hb6⟩; obtain ⟨A4, d4, rfl⟩ := Kd.R_slice ho4) | (at_builtin; refine Kd.R_append_rows (Kd.int .u8) (w0 := w) w.heap.size rfl (.tmp 31) (.tmp 33) 26 5 (.int .u8 0) 1 rfl Try.underlying26 info5 rfl (by decide) (by omega) (.slice A3 y2.length d3) y2 m2 _ _ d4 (fun _ => True) (fun _ => False) rfl rfl (Kd.R_below HR3.out hb6) (Kd.R_reads' ho4).2.2 (fun _ _ h => h) (fun _ h => h.elim) (fun _ _ => trivial) (hb3.trans (hb6.mono hb3.size)) (Nat.le_trans hb3.size hb6.size) (by have := HL3.out; have := HL4.out; omega) ?_; intro v5 w7 hown hb7 hg7 hat7))
      obtain ⟨y3, hy3⟩ : ∃ y, y = y2 ++ m2 := ⟨_, rfl⟩
      rw [← hy3] at hown
      have HL5 : Hid (y3.length = 20) := Lib.hid (by have := HL3.out; have := HL4.out; rw [hy3, List.length_append]; omega)
      have HY3 := Lib.hid hy3
      clear hy3
      obtain ⟨A5, d5, rfl⟩ := Kd.R_slice hown
      refine gen_world (fun V => Kd.R (Kd.int .u8) 5 V w.heap.size (fun _ => True) (.slice A5 y3.length d5) y3 ∧ Below w.heap.size w V) ⟨hown, hb7⟩ ?_
      clear hown hb7 hb6 hg7 hat7 ho4 HR3 hb3 k3 p2
      rintro V5 ⟨hR5, hb5⟩
      have HR5 := Lib.hid hR5
      clear hR5
      have HBODY : Hid (y3 = superBody a0_0 a0_1 a0_2) := Lib.hid (by rw [HY3.out, HY2.out, HY1.out, HM1.out, HM2.out]; rfl)
      have HBY : Hid (∀ j : Nat, 0 ≤ rd y3 (j : Int) ∧ rd y3 (j : Int) < 256) := Lib.hid (rd_rng (by rw [HBODY.out]; exact body_rng _ _ _))
      have HSB : Hid (∀ k : Nat, k ≤ 20 → 0 ≤ (y3.take k).sum ∧ (y3.take k).sum ≤ 256 * k) := Lib.hid (fun k hk => sum_rng y3 (by rw [HBODY.out]; exact body_rng _ _ _) k (by have := HL5.out; omega))
      have HST : Hid (∀ k : Nat, k < 20 → (y3.take (k + 1)).sum = (y3.take k).sum + rd y3 (k : Int)) := Lib.hid (fun k hk => sum_step y3 k (by have := HL5.out; omega))
      go_wp2
      go_loopw [38, 8] (fun v38 v8 wr => ∃ k : Nat, k ≤ 20 ∧ v38 = .int .i64 (k : Int) ∧ v8 = .int .i64 ((y3.take k).sum) ∧ wr = V5) (fun v38 _ _ => 20 - (intOf v38).toNat)
      case atStart => exact ⟨0, by omega, rfl, by simp, rfl⟩
      case round =>
        obtain ⟨k, hk, rfl, rfl, rfl⟩ := hrel
        rcases Nat.lt_or_ge k 20 with hlt | hge
        · obtain ⟨ad, rfl, hrd⟩ := Kd.at_int (Kd.R_reads' HR5.out).2.2 (k : Int) (by omega) (by have := HL5.out; omega)
          rw [Int.toNat_natCast] at hrd
          have hb := HBY.out k
          have hs := HSB.out k hk
          have hlen : (k : Int) < (y3.length : Int) := by have := HL5.out; omega
          have hstep := HST.out k hlt
          go_wp2
          go_roundw
          case rel => exact ⟨k + 1, by omega, by first | (congr 1; done) | (congr 1; omega), by rw [hstep], by first | rfl | trivial⟩
          case measure => simp [intOf]; omega
        · obtain rfl : k = 20 := by omega
          have hlen : ¬ ((20 : Nat) : Int) < (y3.length : Int) := by have := HL5.out; omega
          have HS := Lib.hid (HSB.out 20 (Nat.le_refl _))
          have hmk := make1024
          obtain ⟨sm, hsm⟩ : ∃ m, m = (y3.take 20).sum := ⟨_, rfl⟩
          rw [← hsm]
          have HSM := Lib.hid hsm
          clear hsm
          obtain ⟨m4, hm4⟩ : ∃ m, m = num4 sm := ⟨_, rfl⟩
          have hn4 : super_number_int.f 5 sm 4 = some m4 := by rw [hm4]; exact number4 0 sm
          have HL6 : Hid (m4.length = 4) := Lib.hid (by rw [hm4]; rfl)
          have HM4 := Lib.hid hm4
          clear hm4
          go_wp2_with (first | (go_at_call 19; refine (super_number_int.calls 5 sm 4 m4 _ hn4).mono ?_; rintro e w8 ⟨v6, rfl, ho6, hb8⟩; obtain ⟨A6, d6, rfl⟩ := Kd.R_slice ho6) | (at_builtin; refine Kd.R_append_rows (Kd.int .u8) (w0 := w) w.heap.size rfl (.tmp 49) (.tmp 51) 26 5 (.int .u8 0) 1 rfl Try.underlying26 info5 rfl (by decide) (by omega) (.slice A5 y3.length d5) y3 m4 _ _ d6 (fun _ => True) (fun _ => False) rfl rfl (Kd.R_below (Kd.R_alloc HR5.out _) hb8) (Kd.R_reads' ho6).2.2 (fun _ _ h => h) (fun _ h => h.elim) (fun _ _ => trivial) ((hb5.alloc hb5.size _).trans (hb8.mono (by have := hb5.size; simp; omega))) (by have := hb5.size; have := hb8.size; simp at this; omega) (by have := HL5.out; have := HL6.out; omega) ?_; intro v7 w9 hown hb9 hg9 hat9; obtain ⟨y4, hy4⟩ : ∃ y, y = y3 ++ m4 := ⟨_, rfl⟩; rw [← hy4] at hown; have HY4 := Lib.hid hy4; clear hy4; have HL7 : Hid (y4.length = 24) := Lib.hid (by have := HL5.out; have := HL6.out; rw [HY4.out, List.length_append]; omega); obtain ⟨A7, d7, rfl⟩ := Kd.R_slice hown; have hz9 : w9.heap[wr.heap.size]? = some (.cells Z1024.toList.toArray 5 (0, 0)) := ((hg9.block _ (by have := hb8.size; simp at this; omega) (R_notblock HR5.out (Nat.le_refl _))).trans ((hb8.block _ (by simp)).trans (heap_alloc_new _ _))); have HOWN := Lib.hid hown; clear hown) | ((refine wpList_copy_splice rfl (.tmp 48) (.tmp 52) 26 26 rfl 5 Try.underlying26 (by kernel_rfl) (some ⟨wr.heap.size, 0, none⟩) A7 1024 1024 y4.length d7 rfl rfl wr.heap.size 0 Z1024.toList 5 hz9 (nums .u8 y4) (by have h7 := HL7.out; simp only [nums, List.length_map, h7]; rfl) (fun hp => ⟨rfl, C_cells (Kd.R_reads' HOWN.out).2.2 (by have := HL7.out; omega)⟩) (by have h7 := HL7.out; rw [Z1024_nums]; simp only [nums, List.length_map, List.length_replicate, h7]; omega) nums_one w.heap.size w hb9 hb5.size ?_); intro w10 HG hb10))
          go_ret2
          have hr : splice Z1024.toList 0 (nums .u8 y4) = nums .u8 r1 := by
            have hy : y4 = superBody a0_0 a0_1 a0_2 ++ num4 (superBody a0_0 a0_1 a0_2).sum := by
              have e : y3.take 20 = y3 := List.take_of_length_le (by have := HL5.out; omega)
              rw [HY4.out, HM4.out, HSM.out, e, HBODY.out]
            have h7 := HL7.out
            rw [← HR.out, superBytes, ← hy, Z1024_nums]
            unfold splice
            rw [List.take_zero, List.nil_append, nums_append]
            congr 1
            simp only [nums, List.length_map, h7, List.map_replicate, List.drop_replicate]
          have hl : r1.length = 1024 := by
            have := congrArg List.length hr
            rw [length_splice _ _ _ (by rw [Z1024_nums]; simp only [nums, List.length_map, List.length_replicate, HL7.out]; omega), Z1024_nums] at this
            simpa [nums] using this.symm
          have hG := HG.out
          rw [hr] at hG
          have hRR := R_of_block (k := .u8) (w := w10) (B := wr.heap.size) (e := 5) (base := w.heap.size) (ok := fun _ => True) (xs := r1) hG hb5.size trivial (by rw [hl]; simp [maxLen])
          rw [hl] at hRR
          exact ⟨_, rfl, hRR, hb10⟩
  · rw [super_Pack.f, if_neg hf] at h
    obtain ⟨rfl, rfl⟩ : [] = r1 ∧ 1 = r2 := by simpa using h
    have hc := check_not hf
    have HC := Lib.hid hc
    clear h hc hf
    go_enter Try.func8, Try.ntmps8
    go_wp2_with (go_at_call 18; refine (geom_Check.calls _ _ _ 1 _ HC.out).mono ?_; rintro e w' ⟨rfl, hd⟩)
    go_ret2
    exact ⟨_, rfl, Kd.R_nil _ _ _ _ _, ((Below.refl w.heap.size w).alloc (Nat.le_refl _) _).trans (hd.mono (by simp))⟩
end Go.Proofs.Ythlpcfjnpagokaa.Given
