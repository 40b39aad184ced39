/- slices.IndexFunc and slices.DeleteFunc on rows of numbers, at a function value that only looks. -/
import Derived.Test.YthcafgjcgikgpaaE9
import Derived.Test.YthcafgjcgikgpaaMaps
import Derived.Test.YthcafgjcgikgpaaSteps
import Derived.Lib.SliceRun
import Derived.LoopTactic
import Derived.Outline
namespace Go.Proofs.Ythcafgjcgikgpaa.Given
open Go.RowKit Go.Shelf Go.Proofs.YthcafgjcgikgpaaW.PrintWords Go.Proofs.YthcafgjcgikgpaaW.PrintLast Go.Proofs.YthcafgjcgikgpaaW.PrintMore Go.Proofs.YthcafgjcgikgpaaBase
set_option linter.unusedVariables false
set_option linter.unusedSimpArgs false

/-- the place of the first one that p takes -/
def idxP (p : Int → Bool) : List Int → Int
  | [] => -1
  | x :: l => if p x then 0 else (if idxP p l < 0 then -1 else idxP p l + 1)
theorem idxP_no (p : Int → Bool) (l : List Int) (h : ∀ x ∈ l, p x = false) : idxP p l = -1 := by
  induction l with
  | nil => rfl
  | cons x l ih => simp [idxP, h x (by simp), ih (fun y hy => h y (by simp [hy]))]
theorem idxP_at (p : Int → Bool) : ∀ (l1 l2 : List Int) (x : Int), (∀ y ∈ l1, p y = false) → p x = true → idxP p (l1 ++ x :: l2) = l1.length
  | [], l2, x, _, hx => by simp [idxP, hx]
  | y :: l1, l2, x, h, hx => by
    have := idxP_at p l1 l2 x (fun z hz => h z (by simp [hz])) hx
    rw [List.cons_append, idxP, h y (by simp), this]
    have h0 : ¬ ((l1.length : Int) < 0) := by omega
    simp [h0]
/-- a function value that answers p and turns nothing -/
def Looks (w : World) (F : Nat) (cap : Value) (p : Int → Bool) (l : List Int) : Prop := ∀ x ∈ l, Calls Try.prog F #[.int .i64 x, cap] w fun e w' => e = .returned (.bool (p x)) ∧ w = w'

set_option maxRecDepth 100000 in
set_option maxHeartbeats 1000000 in
theorem index_calls {F : Nat} {cap : Value} {p : Int → Bool} {A : Option Addr} {c : Nat} {l : List Int} {w : World} (hF : F = 38 ∨ F = 42) (hC : Kd.C (Kd.int .i64) w A l.length l) (hL : Looks w F cap p l) :
    Calls Try.prog 37 #[.slice A l.length c, .func (.func F) #[] #[cap]] w fun e w' => e = .returned (.int .i64 (idxP p l)) ∧ w = w' := by
  have hlm := hC.2.1
  have HC := Lib.hid hC
  have HL := Lib.hid hL
  clear hC hL
  rcases hF with rfl | rfl
  all_goals
    go_enter Try.func37, Try.ntmps37
    go_wp2
    go_loop [8] (fun i => ∃ m : Nat, m ≤ l.length ∧ i = .int .i64 (m : Int) ∧ Hid (∀ y ∈ l.take m, p y = false)) (fun i => l.length - (intOf i).toNat)
    case atStart => exact ⟨0, Nat.zero_le _, rfl, Lib.hid (by simp)⟩
    case round =>
      obtain ⟨m, hm, rfl, HN⟩ := hrel
      by_cases hlt : m < l.length
      · have hlti : (m : Int) < (l.length : Int) := by omega
        obtain ⟨ad, rfl, hcell⟩ := C_cells HC.out (by omega)
        have hcl : w.cell? (ad.add m) = some (.int .i64 (l[m]'hlt)) := hcell m _ (by simp [nums, List.getElem?_eq_getElem hlt])
        obtain ⟨x, hx⟩ : ∃ x, l[m]'hlt = x := ⟨_, rfl⟩
        rw [hx] at hcl
        have HX := Lib.hid hx
        have hmem : x ∈ l := by rw [← hx]; exact List.getElem_mem hlt
        have hcall := HL.out x hmem
        have HCALL := Lib.hid hcall
        clear hcell hx hcall
        cases hp : p x with
        | true =>
          rw [hp] at HCALL
          have HR : Hid (idxP p l = m) := Lib.hid (by
            have h1 : l = l.take m ++ x :: l.drop (m + 1) := by
              rw [← HX.out]
              simp
            rw [h1, idxP_at p _ _ _ HN.out hp, List.length_take]
            omega)
          clear hp
          go_wp2_with (first | (go_at_call 38; refine HCALL.out.mono ?_; rintro e w' ⟨rfl, rfl⟩) | (go_at_call 42; refine HCALL.out.mono ?_; rintro e w' ⟨rfl, rfl⟩))
          go_ret
          exact ⟨ret_int HR.out.symm, rfl⟩
        | false =>
          rw [hp] at HCALL
          have HN2 : Hid (∀ y ∈ l.take (m + 1), p y = false) := Lib.hid (by
            rw [List.take_succ_eq_append_getElem hlt, HX.out]
            intro y hy
            rw [List.mem_append, List.mem_singleton] at hy
            rcases hy with hy | rfl
            · exact HN.out y hy
            · exact hp)
          clear hp
          go_wp2_with (first | (go_at_call 38; refine HCALL.out.mono ?_; rintro e w' ⟨rfl, rfl⟩) | (go_at_call 42; refine HCALL.out.mono ?_; rintro e w' ⟨rfl, rfl⟩))
          go_round
          case rel => exact ⟨m + 1, by omega, by go_num, HN2⟩
          case measure => simp [intOf]; omega
      · obtain rfl : m = l.length := by omega
        have HR : Hid (idxP p l = -1) := Lib.hid (idxP_no p l (by have := HN.out; rwa [List.take_length] at this))
        clear hlt
        go_wp2
        go_ret
        exact ⟨ret_int HR.out.symm, rfl⟩

set_option maxRecDepth 100000 in
theorem drop1_calls {bx : Nat} {x y : Int} {w : World} (hx : w.cell? ⟨bx, 0, none⟩ = some (.int .i64 x)) :
    Calls Try.prog 42 #[.int .i64 y, .pointer (some ⟨bx, 0, none⟩)] w fun e w' => e = .returned (.bool (x == y)) ∧ w = w' := by
  by_cases h : x = y
  · subst h
    go_enter Try.func42, Try.ntmps42
    go_wp2
    go_ret
    exact ⟨ret_bool (by simp), rfl⟩
  · have d1 : (x == y) = false := by simpa using h
    have d2 : decide (x = y) = false := by simpa using h
    go_enter Try.func42, Try.ntmps42
    go_wp2
    go_ret
    exact ⟨ret_bool (by simp [d1]), rfl⟩

/-- without x -/
def without (x : Int) (l : List Int) : List Int := l.filter fun y => !(x == y)
theorem without_le (x : Int) (l : List Int) : (without x l).length ≤ l.length := List.length_filter_le _ _
theorem without_none {x : Int} {l : List Int} (h : x ∉ l) : without x l = l := List.filter_eq_self.2 (fun y hy => by
  have : ¬ x = y := fun e => h (e ▸ hy)
  simpa using this)
theorem without_snoc_eq (x : Int) (l : List Int) : without x (l ++ [x]) = without x l := by simp [without]
theorem without_snoc_ne {x y : Int} (l : List Int) (h : ¬ x = y) : without x (l ++ [y]) = without x l ++ [y] := by
  unfold without
  rw [List.filter_append]
  simp [h]

theorem own_prefix {w : World} {base : Nat} {g c : Nat} {zs : List Int} (h : w.ownsRow base 3 1 (.slice (some ⟨g, 0, none⟩) zs.length c) zs.length (nums .i64 zs)) (i : Nat) (hi : i < zs.length) :
    (w.setCells g i (List.replicate (zs.length - i) (.int .i64 0))).ownsRow base 3 1 (.slice (some ⟨g, 0, none⟩) i c) i (nums .i64 (zs.take i)) ∧ w.grownBy (w.setCells g i (List.replicate (zs.length - i) (.int .i64 0))) (some g) := by
  obtain ⟨h1, (⟨hv, _⟩ | ⟨g', cap, cur, hv, hbg, hg, hnc, hcm, hcs, hck⟩)⟩ := h
  · cases hv
  injection hv with hv1 _ hv2
  injection hv1 with hv1
  injection hv1 with hv1
  subst hv1 hv2
  obtain ⟨cur', h3, h4, h5⟩ := setCells_row (List.replicate (zs.length - i) (.int .i64 0)) i w cur hg (by rw [List.length_replicate, hcs]; omega)
  obtain ⟨s1, s2, s3, s4⟩ := setCells_same g (List.replicate (zs.length - i) (Value.int .i64 0)) i w
  refine ⟨⟨by rw [nums_length, List.length_take]; omega, .inr ⟨g, c, cur', rfl, hbg, h3, by omega, hcm, by rw [h4, hcs], ?_⟩⟩, ⟨s1, s2, s3, by rw [s4]; exact Nat.le_refl _, fun k _ hk => setCells_far _ _ k (fun e => hk (by rw [e]))⟩⟩
  rw [h5, List.append_assoc, List.take_append_of_le_length (by rw [List.length_take, Array.length_toList, hcs]; omega), List.take_take, Nat.mul_one, Nat.min_self]
  have h6 := congrArg (List.take i) hck
  rw [List.take_take, Nat.mul_one, Nat.min_eq_left (by omega)] at h6
  rw [h6, nums, nums, List.map_take]

theorem zero3 (w : World) : (zeroValue 3).run Try.prog w = .ok (.int .i64 0) w := by kernel_rfl
theorem one3 : ∃ i, Try.prog.info? 3 = some i ∧ i.size = 1 := by
  have h : (Try.prog.info? 3).map (·.size) = some 1 := by kernel_rfl
  obtain ⟨i, h1, h2⟩ := Option.map_eq_some_iff.1 h
  exact ⟨i, h1, h2⟩

/-- k of the first m are kept, at the head -/
structure DelI (base : Nat) (ok : Nat → Prop) (G c : Nat) (x : Int) (l : List Int) (k m : Nat) (zs : List Int) (w wr : World) : Prop where
  len : zs.length = l.length
  R : Kd.R (Kd.int .i64) 3 wr base ok (.slice (some ⟨G, 0, none⟩) l.length c) zs
  grown : w.grownBy wr (some G)
  head : zs.take k = without x (l.take m)
  rest : zs.drop m = l.drop m
  count : k = (without x (l.take m)).length
theorem DelI.own {base : Nat} {ok : Nat → Prop} {G c : Nat} {x : Int} {l : List Int} {k m : Nat} {zs : List Int} {w wr : World} (h : DelI base ok G c x l k m zs w wr) : wr.ownsRow base 3 1 (.slice (some ⟨G, 0, none⟩) l.length c) l.length (nums .i64 zs) := by
  have hR := h.R
  rw [← h.len] at hR ⊢
  exact Kd.own_of_R hR
theorem DelI.skip {base : Nat} {ok : Nat → Prop} {G c : Nat} {x : Int} {l : List Int} {k m : Nat} {zs : List Int} {w wr : World} (h : DelI base ok G c x l k m zs w wr) (hm : m < l.length) (hx : x = l[m]'hm) : DelI base ok G c x l k (m + 1) zs w wr := by
  have e : without x (l.take (m + 1)) = without x (l.take m) := by rw [List.take_succ_eq_append_getElem hm, ← hx, without_snoc_eq]
  refine ⟨h.len, h.R, h.grown, by rw [e]; exact h.head, ?_, by rw [e]; exact h.count⟩
  have := congrArg (List.drop 1) h.rest
  rwa [List.drop_drop, List.drop_drop] at this
theorem DelI.keep {base : Nat} {ok : Nat → Prop} {G c : Nat} {x : Int} {l : List Int} {k m : Nat} {zs : List Int} {w wr : World} (h : DelI base ok G c x l k m zs w wr) (hm : m < l.length) (hk : k < m) (hx : ¬ x = l[m]'hm) :
    DelI base ok G c x l (k + 1) (m + 1) (zs.set k (l[m]'hm)) w (wr.setCell ⟨G, k, none⟩ (.int .i64 (l[m]'hm))) := by
  have e : without x (l.take (m + 1)) = without x (l.take m) ++ [l[m]'hm] := by rw [List.take_succ_eq_append_getElem hm, without_snoc_ne _ hx]
  have hs := own_store h.own (k : Int) (l[m]'hm)
  rw [Int.toNat_natCast] at hs
  have hkz : k < zs.length := by rw [h.len]; omega
  refine ⟨by rw [List.length_set]; exact h.len, Kd.R_of_own (by rw [List.length_set, h.len]; exact hs.1) h.R.1, h.grown.trans hs.2, ?_, ?_, by rw [e, List.length_append, ← h.count]; rfl⟩
  · rw [e, ← h.head, List.take_succ_eq_append_getElem (by rw [List.length_set]; exact hkz), List.getElem_set_self, List.take_set_of_le (Nat.le_refl _)]
  · rw [List.drop_set_of_lt (by omega)]
    have := congrArg (List.drop 1) h.rest
    rwa [List.drop_drop, List.drop_drop] at this

set_option maxRecDepth 100000 in
set_option maxHeartbeats 2000000 in
theorem delete_calls {bx : Nat} {x : Int} {A : Option Addr} {c : Nat} {l : List Int} {w : World} {base : Nat} {ok : Nat → Prop} (hR : Kd.R (Kd.int .i64) 3 w base ok (.slice A l.length c) l) (hx : w.heap[bx]? = some (.cells #[.int .i64 x] 3 (0, 0))) (hne : ∀ k, ok k → k ≠ bx) :
    Calls Try.prog 41 #[.slice A l.length c, .func (.func 42) #[] #[.pointer (some ⟨bx, 0, none⟩)]] w fun e w' => e = .returned (.slice A (without x l).length c) ∧ Kd.R (Kd.int .i64) 3 w' base ok (.slice A (without x l).length c) (without x l) ∧ w.grownBy w' (Value.slice A l.length c).ownBlock := by
  obtain ⟨hlc, hcc, hC⟩ := Kd.R_reads' hR
  have hlm := hC.2.1
  have hL : Looks w 42 (.pointer (some ⟨bx, 0, none⟩)) (fun y => x == y) l := fun y _ => drop1_calls (blk_cell hx 0)
  have HX := Lib.hid hx
  have HNE := Lib.hid hne
  have HR := Lib.hid hR
  have HC := Lib.hid hC
  have HL := Lib.hid hL
  clear hx hne hR hC hL hlc
  by_cases hm : x ∈ l
  · obtain ⟨l1, l2, hl, hno⟩ : ∃ l1 l2, l = l1 ++ x :: l2 ∧ x ∉ l1 := by
      clear HX HNE HR HC HL hcc hlm
      induction l with
      | nil => cases hm
      | cons y l ih =>
        by_cases hyx : y = x
        · exact ⟨[], l, by rw [hyx]; rfl, by simp⟩
        · obtain ⟨l1, l2, h1, h2⟩ := ih (by simpa [Ne.symm hyx] using hm)
          exact ⟨y :: l1, l2, by rw [h1]; rfl, by simp [Ne.symm hyx, h2]⟩
    have hix : idxP (fun y => x == y) l = (l1.length : Int) := by
      rw [hl, idxP_at _ _ _ _ (fun y hy => by have : ¬ x = y := fun e => hno (e ▸ hy); simpa using this) (by simp)]
    have hlen : l1.length < l.length := by rw [hl]; simp
    obtain ⟨n1, hn1⟩ : ∃ n1, l1.length = n1 := ⟨_, rfl⟩
    rw [hn1] at hix hlen
    have HW1 : Hid (without x (l.take (n1 + 1)) = l.take n1) := Lib.hid (by
      rw [hl, ← hn1]
      have e1 : (l1 ++ x :: l2).take (l1.length + 1) = l1 ++ [x] := by rw [List.take_length_add_append]; rfl
      have e2 : (l1 ++ x :: l2).take l1.length = l1 := List.take_left
      rw [e1, e2, without_snoc_eq, without_none hno])
    have HIX := Lib.hid hix
    clear hix hl hn1 hno hm
    obtain ⟨G, cap, hv, hG0, hG1, hG2⟩ := Kd.R_form HR.out (by omega)
    injection hv with hv1 _ hv2
    subst hv1 hv2
    have hn0 : ¬ (n1 : Int) = -1 := by omega
    have hn1 : ((n1 : Int) == -1) = false := by simp
    have hn2 : decide ((n1 : Int) = -1) = false := by simp
    clear hn0
    go_enter Try.func41, Try.ntmps41
    go_wp2_with (go_at_call 37; (with_reducible refine (index_calls (.inr rfl) HC.out HL.out).mono ?_); rintro e w' ⟨rfl, rfl⟩; rw [HIX.out])
    have hokG : ok G := HR.out.1 G rfl
    have HBG := Lib.hid (HNE.out G hokG)
    go_loopw [5, 6] (fun i j wr => ∃ (k m : Nat) (zs : List Int), k < m ∧ m ≤ l.length ∧ i = .int .i64 (k : Int) ∧ j = .int .i64 (m : Int) ∧ Hid (DelI base ok G c x l k m zs w wr)) (fun _ j _ => l.length - (intOf j).toNat)
    case atStart => exact ⟨n1, n1 + 1, l, by omega, by omega, rfl, by go_num, Lib.hid ⟨rfl, HR.out, World.grownBy.refl _ _, HW1.out.symm, rfl, by rw [HW1.out, List.length_take]; omega⟩⟩
    case round =>
      obtain ⟨k, m, zs, hkm, hml, rfl, rfl, HI⟩ := hrel
      have hzl := HI.out.len
      have hkl : k < l.length := by omega
      by_cases hlt : m < l.length
      · have hlti : (m : Int) < (l.length : Int) := by omega
        obtain ⟨y, hy⟩ : ∃ y, l[m]'hlt = y := ⟨_, rfl⟩
        have hzy : zs.getD m 0 = y := by
          have h1 := congrArg (fun t => t.getD 0 0) HI.out.rest
          simp only [List.getD_eq_getElem?_getD, List.getElem?_drop, Nat.add_zero] at h1
          rw [List.getD_eq_getElem?_getD, h1, List.getElem?_eq_getElem hlt, ← hy]
          rfl
        have hat := own_at HI.out.own (m : Int) (by omega) (by omega)
        have hcl : wr.cell? ⟨G, m, none⟩ = some (.int .i64 y) := by
          have := hat.1
          rw [Int.toNat_natCast] at this
          rw [this]
          unfold rd
          rw [Int.toNat_natCast, hzy]
        have hak := own_at HI.out.own (k : Int) (by omega) (by omega)
        have hck : wr.cell? ⟨G, k, none⟩ = some (.int .i64 (rd zs (k : Int))) := by have := hak.1; rwa [Int.toNat_natCast] at this
        have hfk : wr.frozen? ⟨G, k, none⟩ = false := by have := hak.2; rwa [Int.toNat_natCast] at this
        have HBX : Hid (wr.cell? ⟨bx, 0, none⟩ = some (.int .i64 x)) := Lib.hid (blk_cell ((HI.out.grown.block _ (blk_lt HX.out) (fun e => HBG.out (Option.some.inj e).symm)).trans HX.out) 0)
        have hki : (k : Int) < (l.length : Int) := by omega
        have HY := Lib.hid hy
        have hzl' := Lib.hid hzl
        clear hat hak hzy hy hzl
        by_cases hxy : x = y
        · have hq : Hid ((x == y) = true) := Lib.hid (by simpa using hxy)
          have HI2 : Hid (DelI base ok G c x l k (m + 1) zs w wr) := Lib.hid (HI.out.skip hlt (by rw [HY.out]; exact hxy))
          clear hxy HI
          go_wp2_with (go_at_call 42; (with_reducible refine (drop1_calls HBX.out).mono ?_); rintro e w' ⟨rfl, rfl⟩; rw [hq.out])
          go_roundw
          case rel => exact ⟨k, m + 1, zs, by omega, by omega, rfl, by go_num, HI2⟩
          case measure => simp [intOf]; omega
        · have hq : Hid ((x == y) = false) := Lib.hid (by simpa using hxy)
          have HI2 : Hid (DelI base ok G c x l (k + 1) (m + 1) (zs.set k y) w (wr.setCell ⟨G, k, none⟩ (.int .i64 y))) := Lib.hid (by have := HI.out.keep hlt hkm (by rw [HY.out]; exact hxy); rwa [HY.out] at this)
          clear hxy HI
          go_wp2_with (go_at_call 42; (with_reducible refine (drop1_calls HBX.out).mono ?_); rintro e w' ⟨rfl, rfl⟩; rw [hq.out])
          go_roundw
          case rel => exact ⟨k + 1, m + 1, _, by omega, by omega, by go_num, by go_num, HI2⟩
          case measure => simp [intOf]; omega
      · obtain rfl : m = l.length := by omega
        clear hlt
        have hwl : k = (without x l).length := by have := HI.out.count; rwa [List.take_length] at this
        have HWL := Lib.hid hwl
        have hoz := HI.out.own
        rw [← hzl] at hoz
        have hpre := own_prefix hoz k (by omega)
        rw [hzl] at hpre hoz
        have hcells : ∀ j, j < l.length - k → (wr.cell? ⟨G, k + j, none⟩).isSome = true ∧ wr.frozen? ⟨G, k + j, none⟩ = false := fun j hj => by
          have := own_at hoz ((k + j : Nat) : Int) (by omega) (by omega)
          rw [Int.toNat_natCast] at this
          exact ⟨by rw [this.1]; rfl, this.2⟩
        have hclr := fun ty => Lib.run_clear_slice (P := Try.prog) wr 22 3 ty (.int .i64 0) Try.underlying22 zero3 rfl rfl G k (l.length - k) (c - k) (by omega) (fun j hj => (hcells j hj).1) (fun j hj => (hcells j hj).2)
        obtain ⟨i3, hi3, hz3⟩ := one3
        have hcut := cut_from (P := Try.prog) 22 3 .i64 Try.underlying22 hi3 1 hz3 (some ⟨G, 0, none⟩) l.length c (k : Int) (by omega) (by omega) wr
        rw [Int.toNat_natCast, if_neg (by omega)] at hcut
        simp only [Option.map_some, Nat.mul_one, add_plain] at hcut
        have hto := cut_to (P := Try.prog) 22 3 .i64 Try.underlying22 hi3 (some ⟨G, 0, none⟩) l.length c (k : Int) (by omega) (by omega) hcc (wr.setCells G k (List.replicate (l.length - k) (.int .i64 0)))
        rw [Int.toNat_natCast] at hto
        have HEND : Hid (Kd.R (Kd.int .i64) 3 (wr.setCells G k (List.replicate (l.length - k) (.int .i64 0))) base ok (.slice (some ⟨G, 0, none⟩) k c) (without x l) ∧ w.grownBy (wr.setCells G k (List.replicate (l.length - k) (.int .i64 0))) (some G)) := Lib.hid ⟨by
          have h1 := HI.out.head
          rw [List.take_length] at h1
          have h2 := hpre.1
          rw [h1] at h2
          exact Kd.R_of_own (by rw [← HWL.out]; exact h2) (fun j hj => by simp only [Value.ownBlock, Option.some.injEq] at hj; exact hj ▸ hokG), HI.out.grown.trans hpre.2⟩
        clear hcells hpre hoz hi3 hz3 hwl hzl HI
        generalize wr.setCells G k (List.replicate (l.length - k) (.int .i64 0)) = W9 at *
        go_wp2
        go_ret
        rw [← HWL.out]
        exact ⟨rfl, HEND.out.1, HEND.out.2⟩
  · have HIX : Hid (idxP (fun y => x == y) l = -1) := Lib.hid (idxP_no _ _ (fun y hy => by have : ¬ x = y := fun e => hm (e ▸ hy); simpa using this))
    have HW : Hid (without x l = l) := Lib.hid (without_none hm)
    clear hm
    rw [HW.out]
    go_enter Try.func41, Try.ntmps41
    go_wp2_with (go_at_call 37; (with_reducible refine (index_calls (.inr rfl) HC.out HL.out).mono ?_); rintro e w' ⟨rfl, rfl⟩; rw [HIX.out])
    go_ret
    exact ⟨rfl, HR.out, World.grownBy.refl _ _⟩
end Go.Proofs.Ythcafgjcgikgpaa.Given
