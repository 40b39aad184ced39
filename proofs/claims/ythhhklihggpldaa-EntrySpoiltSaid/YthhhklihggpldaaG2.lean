/- entry.Block: the entries of a block, for every row of bytes. -/
import Derived.Test.YthhhklihggpldaaKinds
import Derived.Test.YthhhklihggpldaaBaseIn
import Derived.Test.YthhhklihggpldaaPEntryReadsx3
import Derived.Shelf.Abstract
import Derived.Shelf.RegionOpen
import Derived.TacticsInMore
import Derived.LoopNIn
import Derived.LoopIn
import Derived.WalkKit
import Derived.Maps.AppendAt
namespace Go.Proofs.Ythhhklihggpldaa.Given
open Go.RowKit Go.Shelf Go.Proofs.YthhhklihggpldaaW.PrintWords Go.Proofs.YthhhklihggpldaaW.PrintLast Go.Proofs.YthhhklihggpldaaBase Go.Proofs.Ythhhklihggpldaa.PEntryReads
set_option linter.unusedVariables false
set_option linter.unusedSimpArgs false
attribute [local go_sem] Oper.semAt_some

/-- the bytes of the entry of a number -/
def cutB (l0 : List Int) (x : Nat) : List Int := (l0.take (32 * x + 32)).drop (32 * x)
theorem cutB_length (l0 : List Int) (h : l0.length = 1024) (x : Fin 32) : (cutB l0 x).length = 32 := by
  unfold cutB
  rw [List.length_drop, List.length_take]
  omega
/-- where they stand -/
def cutA (A0 : Option Addr) (c0 x : Nat) : Option Addr := if c0 = 32 * x then A0 else A0.map (·.add (32 * x))
abbrev encR (A0 : Option Addr) (c0 : Nat) (x : Fin 32) : Array Value := #[.slice (cutA A0 c0 x) 32 (c0 - 32 * x)]

theorem cut_run (A0 : Option Addr) (c0 : Nat) (l0 : List Int) (hl : l0.length = 1024) (hc0 : l0.length ≤ c0) (x : Fin 32) (j : Nat) (hj : j = 32 * x) :
    (∀ W : World, (Instr.slice 23 (.slice A0 l0.length c0) (some (.int .i64 (j : Int))) (some (.int .i64 ((j : Int) + 32))) none).run Try.prog W = .ok (.slice (cutA A0 c0 x) 32 (c0 - 32 * x)) W) ∧
    (∀ w : World, Kd.C (Kd.int .u8) w A0 l0.length l0 → Kd.C (Kd.int .u8) w (cutA A0 c0 x) 32 (cutB l0 x)) := by
  subst hj
  obtain ⟨i0, hi, _, hsz, _⟩ := info_parts info5
  obtain ⟨A', hrun, hrd, hc⟩ := print_mid_of (P := Try.prog) (Value.int .u8) 0 23 5 .i64 .i64 Try.underlying23 hi hsz A0 c0 l0 ((32 * x : Nat) : Int) (((32 * x : Nat) : Int) + 32) (by omega) (by omega) (by omega) hc0
  have e1 : ((((32 * x : Nat) : Int) + 32)).toNat = 32 * x + 32 := by omega
  have e2 : (((32 * x : Nat) : Int)).toNat = 32 * x := by omega
  rw [e1, e2] at hrun hrd
  have hlen := cutB_length l0 hl x
  have hA : A' = cutA A0 c0 x := by
    have h1 := hrun default
    have hel : Try.prog.elem 23 = 5 := by simp [Program.elem, Try.underlying23]
    have hu : Try.prog.underlying 23 = some (.slice (Try.prog.elem 23)) := by rw [hel]; exact Try.underlying23
    rw [run_slice_lh default 23 A0 l0.length c0 hu .i64 .i64 ((32 * x : Nat) : Int) (((32 * x : Nat) : Int) + 32) (by omega) (by omega) (by omega), hel] at h1
    simp [sizeOf, typeInfo, hi, hsz, sliced, Result.andThen] at h1
    unfold cutA
    have h2 := h1.1
    have e3 : (32 * ((x : Nat) : Int)).toNat = 32 * x := by omega
    rw [← h2, e3]
  subst hA
  unfold cutB at hlen
  rw [hlen] at hrun hrd
  exact ⟨hrun, fun w h => Kd.C_of_reads (h1 := fun _ => rfl) (hrd w (Kd.reads_of_C h))⟩

structure RowsG (Bb c0 : Nat) (A0 : Option Addr) (l0 : List Int) (G : World → Prop) (Kp : World → World → Prop) : Prop where
  b : ∀ W, G W → W.cell? ⟨Bb, 0, none⟩ = some (.slice A0 l0.length c0)
  keep : ∀ A B, G A → Kp A B → G B

set_option maxRecDepth 100000 in
set_option maxHeartbeats 2000000 in
theorem rows1_in (m : Nat) (hm : 1 ≤ m) (lr Bb c0 : Nat) (A0 : Option Addr) (l0 : List Int) (hl : l0.length = 1024) (hc0 : l0.length ≤ c0)
    (G : World → Prop) (Kp : World → World → Prop) (hG : RowsG Bb c0 A0 l0 G Kp)
    (J Jx : List (Fin 32) → World → Prop)
    (hY : ∀ pre x W, J pre W → pre.length < 32 → YieldAt Fence.wide (m - 1) Try.prog lr (encR A0 c0 x) W fun e W' =>
      (e = .returned (.bool true) ∧ J (pre ++ [x]) W' ∧ Kp W W') ∨ (e = .returned (.bool false) ∧ Jx (pre ++ [x]) W'))
    (W : World) (hGW : G W) (h0 : J [] W) :
    CallsIn Fence.wide m Try.prog 28 #[.func (.yield lr) #[] #[], .pointer (some ⟨Bb, 0, none⟩)] W fun e W' => (∃ v, e = .returned v) ∧
      ((∃ ys, ys.map Fin.val = List.range' 0 32 ∧ J ys W') ∨ (∃ pre, True ∧ Jx pre W')) := by
  refine callsIn_of_wp Try.func28 rfl trivial ?_ rfl
  simp only [Try.ntmps28, List.size_toArray, List.length_cons, List.length_nil, Nat.reduceAdd, Nat.reduceSub, Array.replicate_succ, Array.replicate_zero, List.push_toArray, List.append_toArray, List.nil_append, List.cons_append]
  have HL := Lib.hid hl
  clear hl
  gi_wp2
  gi_loopw [3] (fun i wr => ∃ (k j : Nat) (pre : List (Fin 32)), k ≤ 32 ∧ Hid (j = 32 * k) ∧ i = .int .i64 (j : Int) ∧ Hid (pre.map Fin.val = List.range' 0 k) ∧ J pre wr ∧ G wr) (fun i _ => 1024 - (intOf i).toNat)
  case atStart =>
    exact ⟨0, 0, [], by omega, Lib.hid rfl, rfl, Lib.hid rfl, h0, hGW⟩
  case round =>
    obtain ⟨k, j, pre, hk, HJ, rfl, HP, hJs, hnx⟩ := hrel
    have hBb' := hG.b wr hnx
    by_cases hlt : k < 32
    · have hle : (j : Int) + 32 ≤ (l0.length : Int) := by have := HJ.out; have := HL.out; omega
      have hj1 : (j : Int) ≤ 992 := by have := HJ.out; omega
      have hpl : pre.length < 32 := by
        have := congrArg List.length HP.out
        simp at this
        omega
      obtain ⟨fn, tmps, assign, body, hy, hR⟩ := hY pre ⟨k, hlt⟩ wr hJs hpl
      have hcut := (cut_run A0 c0 l0 HL.out hc0 ⟨k, hlt⟩ j HJ.out).1
      have HR := Lib.hid hR
      clear hR
      gi_wp2
      refine HR.out.mono ?_
      rintro e W3 (⟨rfl, hJ3, hk3⟩ | ⟨rfl, hJx3⟩)
      · clear hy hcut
        gi_wp2
        go_roundw
        case rel =>
          refine ⟨k + 1, j + 32, pre ++ [⟨k, hlt⟩], by omega, Lib.hid (by have := HJ.out; omega), by first | (congr 1; done) | (congr 1; omega), Lib.hid ?_, hJ3, hG.keep _ _ hnx hk3⟩
          rw [List.map_append, HP.out, List.range'_concat]
          simp
        case measure => simp [intOf]; omega
      · clear hy hcut
        gi_wp2
        refine bodyPost_ret (results_none rfl _ _ _) rfl ?_
        exact ⟨⟨_, rfl⟩, .inr ⟨_, trivial, hJx3⟩⟩
    · have hle : ¬ (j : Int) + 32 ≤ (l0.length : Int) := by have := HJ.out; have := HL.out; omega
      have hj1 : (j : Int) ≤ 1024 := by have := HJ.out; omega
      obtain rfl : k = 32 := by omega
      gi_wp2
      all_goals
        go_end0
        exact ⟨⟨_, rfl⟩, .inl ⟨pre, HP.out, hJs⟩⟩

theorem rows_in (A0 : Option Addr) (len0 c0 : Nat) (w : World) :
    Calls Try.prog 26 #[.slice A0 len0 c0] w fun e w' => e = .returned (.func (.func 28) #[] #[.pointer (some ⟨w.heap.size, 0, none⟩)]) ∧ (w.alloc (.cells #[.slice A0 len0 c0] 23)) = w' := by
  go_enter Try.func26, Try.ntmps26
  go_wp2
  go_ret
  exact ⟨rfl, rfl⟩

/-- the entry that stands at a place of a block -/
def entryAt (l0 : List Int) (x : Nat) : Option S28 := (entry_Read.f 1 (cutB l0 x)).map fun t => ⟨t.1, t.2.1⟩
def entryAt! (l0 : List Int) (x : Nat) : S28 := (entryAt l0 x).getD z28
def entry_Block.f (l0 : List Int) : Option (List S28) :=
  if (l0.length : Int) = 1024 then (if (List.range 32).all (fun x => (entryAt l0 x).isSome) = true then some ((List.range' 0 32).map (entryAt! l0)) else none) else some []

theorem fin_entries (l0 : List Int) (ys : List (Fin 32)) (h : ys.map Fin.val = List.range' 0 32) : ys.map (fun x : Fin 32 => entryAt! l0 x.val) = (List.range' 0 32).map (entryAt! l0) := by
  rw [← h, List.map_map]
  rfl

set_option maxRecDepth 100000 in
set_option maxHeartbeats 2000000 in
theorem entry_Block.calls (A0 : Option Addr) (c0 : Nat) (l0 : List Int) (r : List S28) (w : World) (hr0 : Kd.C (Kd.int .u8) w A0 l0.length l0) (hc0 : l0.length ≤ c0) (h : entry_Block.f l0 = some r) :
    Calls Try.prog 17 #[.slice A0 l0.length c0] w fun e w' => ∃ v0_ : Value, e = .returned (v0_) ∧ Kd.R k28 28 w' w.heap.size (fun _ => True) v0_ r ∧ Below w.heap.size w w' := by
  unfold entry_Block.f at h
  by_cases hl : (l0.length : Int) = 1024
  · rw [if_pos hl] at h
    split at h
    case isFalse => cases h
    rename_i hall
    have hres := Option.some.inj h
    have HRES := Lib.hid hres
    have HC := Lib.hid hr0
    have HALL := Lib.hid hall
    have hlb : ((l0.length : Int) != 1024) = false := bne_eq_false_iff_eq.mpr hl
    have HL : Hid (l0.length = 1024) := Lib.hid (by omega)
    clear h hres hr0 hall hl
    refine (callsIn_wide (n := 9)).1 ?_
    refine callsIn_of_wp_marks Try.func17 rfl trivial ?_ rfl
    simp only [Try.ntmps17, List.size_toArray, List.length_cons, List.length_nil, Nat.reduceAdd, Nat.reduceSub, Array.replicate_succ, Array.replicate_zero, List.push_toArray, List.append_toArray, List.nil_append, List.cons_append]
    gi_wp2_with (refine ⟨trivial, ?_⟩; gi_at_call 26; refine (callsIn_wide.2 (rows_in A0 l0.length c0 _)).mono ?_; rintro e w' ⟨rfl, rfl⟩)
    obtain ⟨w5, hw5⟩ : ∃ w5, ((w.alloc (.cells #[.slice none 0 0] 41)).alloc (.cells #[.slice A0 l0.length c0] 23)) = w5 := ⟨_, rfl⟩
    have hsz : w5.heap.size = w.heap.size + 2 := by rw [← hw5]; simp
    have hB5 : Below w.heap.size w w5 := by
      rw [← hw5]
      exact ((Below.refl _ w).alloc (Nat.le_refl _) _).alloc (by simp) _
    have q0 : w5.heap[w.heap.size]? = some (.cells #[.slice none 0 0] 41) := by rw [← hw5]; exact blk_alloc (blk_new w _) _
    have q1 : w5.heap[w.heap.size + 1]? = some (.cells #[.slice A0 l0.length c0] 23) := by
      rw [← hw5]
      have := blk_new (w.alloc (.cells #[.slice none 0 0] 41)) (.cells #[.slice A0 l0.length c0] 23)
      rwa [World.size_alloc] at this
    rw [hw5]
    clear hw5
    have hG : RowsG (w.heap.size + 1) c0 A0 l0 (fun W => W.heap[w.heap.size + 1]? = some (.cells #[.slice A0 l0.length c0] 23)) (fun A B => Below w.heap.size A B ∧ B.heap[w.heap.size + 1]? = A.heap[w.heap.size + 1]?) :=
      ⟨fun W h => (blk_cell h 0).trans rfl, fun A B h k => k.2.trans h⟩
    refine wpIn_rangeFunc_ownG (F := Fence.wide) rfl (by omega) (gf := 28) (lb := #[.pointer (some ⟨w.heap.size + 1, 0, none⟩)]) rfl trivial (enters_of Try.func28 (by kernel_rfl) rfl)
      (N := 32) (S := fun ys => ys.map Fin.val = List.range' 0 32) (Sp := fun _ => True) (w0 := w5)
      (fun l J Jx W hW hJ _ hY h0 => rows1_in 8 (by omega) l _ c0 A0 l0 HL.out hc0 _ _ hG J Jx hY W ((hW.block _ (by omega)).trans q1) h0)
      (fun h k => ⟨h.1.trans k.1, k.2.trans h.2⟩)
      (fun W l o o' hl h1 h2 h3 => ⟨belowK_b (w := w5) (by omega) W l o o' hl h1 h2 h3, World.putObj_heap_other (by omega)⟩) (Below.refl _ _) (fun _ => rfl)
      (fun pre W => ((∃ v, Boxed W w.heap.size 41 v ∧ Kd.R k28 28 W w.heap.size (fun k => w.heap.size + 2 ≤ k) v (pre.map (fun x : Fin 32 => entryAt! l0 x.val)) ∧ pre.length ≤ 32 ∧ Boxed W (w.heap.size + 1) 23 (.slice A0 l0.length c0))) ∧ Below w.heap.size w W)
      (fun c pre W => False)
      (OwnFrom.and (Own.from (fun s A B row hs hg hr => by
        obtain ⟨v, h1, h2, h3, h4⟩ := hs
        exact ⟨v, boxed_own _ _ (fun (_ : Unit) => v) () A B row h1 hg hr, R_noncells h2 hg hr, h3, boxed_own _ _ (fun (_ : Unit) => (Value.slice A0 l0.length c0)) () A B row h4 hg hr⟩) _) (ownFrom_below (Nat.le_refl _) (by omega)))
      (fun c s A B row hs hg hr => hs)
      ⟨⟨_, q0, Kd.R_nil _ _ _ _ _, by simp, q1⟩, hB5⟩
      (fun x => { tmps := #[.slice A0 l0.length c0, undef, .slice none 0 0, .pointer (some ⟨w.heap.size, 0, none⟩), .slice (cutA A0 c0 x) 32 (c0 - 32 * x), undef, undef, .slice A0 l0.length c0, .int .i64 (l0.length : Int), .bool false, .slice A0 l0.length c0, .func (.func 28) #[] #[.pointer (some ⟨w.heap.size + 1, 0, none⟩)], .slice (cutA A0 c0 x) 32 (c0 - 32 * x), undef, undef, undef, undef, undef, undef, undef, undef, undef, undef], defers := [] }) ?assign ?body ?done ?stop
    case assign =>
      intro l x W K hK
      gi_wp2
      exact hK
    case body =>
      rintro l pre x W ⟨⟨v, hv, hR, hpl, hv1⟩, hB⟩ hlt
      have hx : (entryAt l0 x.val).isSome = true := by
        have := HALL.out
        rw [List.all_eq_true] at this
        exact this x.val (by simp)
      obtain ⟨s, hs⟩ := Option.isSome_iff_exists.1 hx
      have hs! : entryAt! l0 x.val = s := by unfold entryAt!; rw [hs]; rfl
      obtain ⟨⟨t1, t2, t3⟩, ht, hts⟩ := Option.map_eq_some_iff.1 hs
      have hcl := cutB_length l0 HL.out x
      have HCut := Lib.hid ((cut_run A0 c0 l0 HL.out hc0 x _ rfl).2 W (Kd.C_below HC.out hB))
      have HS := Lib.hid hs!
      have HT := Lib.hid ht
      have HTS := Lib.hid hts
      have HCL := Lib.hid hcl
      have hcall := entry_Read.calls 1 (cutA A0 c0 x) (c0 - 32 * x) (cutB l0 x) t1 t2 t3 W (by rw [hcl]; exact HCut.out) (by rw [hcl]; have := x.2; have := HL.out; omega) ht
      rw [hcl] at hcall
      have HCALL := Lib.hid hcall
      clear hcall
      have hvc := hv.cell
      have hvf := hv.frozen
      clear hx hs hs! ht hts hcl
      obtain ⟨xs, hxs⟩ : ∃ xs, pre.map (fun x : Fin 32 => entryAt! l0 x.val) = xs := ⟨_, rfl⟩
      rw [hxs] at hR
      have hxl : xs.length ≤ 32 := by rw [← hxs, List.length_map]; exact hpl
      have HXS := Lib.hid hxs
      have HR := Lib.hid hR
      clear hxs hR
      have hltw := hv1.lt
      gi_wp2_with (first | (refine ⟨trivial, ?_⟩; gi_at_call 14; refine (CallsIn.inRound l (callsIn_wide.2 HCALL.out)).mono ?_; rintro e w' ⟨rfl, hd⟩; have hv' : Boxed w' w.heap.size 41 v := (hd.block _ hv.lt).trans hv; have hlt' := hv'.lt; have hsz' := hd.size; have hvc' := hv'.cell; have hvf' := hv'.frozen) | (gi_at_builtin; go_loud (refine append_in rfl rfl (Kd.R_append k28 (w0 := w) w.heap.size rfl (.tmp 18) (.tmp 20) 41 28 (.agg #[(.int .i64 0), (.string ⟨#[]⟩)]) 24 rfl Try.underlying41 info28 rfl (by decide) (by omega) v xs ⟨t1, t2⟩ [.int .i64 t1, .string t2] (fun k => w.heap.size + 2 ≤ k) (fun _ => False) rfl (by first | (go_simp; done) | (go_simp; rfl)) (k28_mkM _ _ _ ⟨t1, t2⟩) (fun _ hk => hk.elim) (fun k hk => by simp at hk; omega) (Kd.R_alloc (Kd.R_below HR.out hd) _) ((hB.trans (hd.mono hB.size)).alloc (by have := hd.size; have := hB.size; omega) _) (by simp; omega) (by omega) ?_); intro v1 w1 hR1 hb1 hg1 hat1; refine ⟨rfl, ?_⟩; have hv1' : Boxed w1 w.heap.size 41 v := Boxed.kept (hv'.alloc _) hg1 (fun e1 => by have := HR.out.1 _ e1.symm; omega); have hvc1 := hv1'.cell; have hvf1 := hv1'.frozen; obtain ⟨Ap, cp, rfl⟩ := Kd.R_slice hR1)))
      have hv2 : Boxed w1 (w.heap.size + 1) 23 (.slice A0 l0.length c0) := Boxed.kept (((show Boxed w' _ _ _ from (hd.block _ hv1.lt).trans hv1)).alloc _) hg1 (fun e1 => by have := HR.out.1 _ e1.symm; omega)
      have hkW : KeepsOthers W w1 := (keeps_below hd).trans ((KeepsOthers.alloc _ _).trans (keeps_R (Kd.R_alloc (Kd.R_below HR.out hd) _) hg1))
      have hbW : Below w.heap.size W w1 := (hd.mono hB.size).trans (((Below.refl _ _).alloc (by have := hB.size; omega) _).grown hg1 (by have := hB.size; simp; omega) (fun k hk => by have := HR.out.1 k hk; omega))
      refine ⟨(hkW.trans (KeepsOthers.setCell _ _ _)).from _, ⟨hbW.setCell (p := ⟨w.heap.size, 0, none⟩) (Nat.le_refl _) _, ?_⟩, ⟨_, hv1'.set _, ?_, ?_, hv2.other (by omega) _⟩, hb1.setCell (p := ⟨w.heap.size, 0, none⟩) (Nat.le_refl _) _⟩
      · exact (hv2.other (by omega) _).trans hv1.symm
      · rw [List.map_append, HXS.out]
        have : (List.map (fun x : Fin 32 => entryAt! l0 x.val) [x]) = [⟨t1, t2⟩] := by simp only [List.map_cons, List.map_nil]; rw [HS.out, ← HTS.out]
        rw [this]
        have hq := Kd.R_far (p := ⟨w.heap.size, 0, none⟩) hR1 (fun k hk => by simp only; omega) (.slice Ap (xs.length + 1) cp)
        rw [List.length_append] at hq
        exact hq
      · simp; omega
    case done =>
      rintro D ys W hD hys ⟨⟨v, hv, hR, hpl, hv1⟩, hB⟩ hK
      have hvc := hv.cell
      rw [fin_entries l0 ys hys, HRES.out] at hR
      obtain ⟨Ap, cp, rfl⟩ := Kd.R_slice hR
      gi_wp2
      refine ⟨by simp, .inl ⟨_, _, rfl, run_takeDeferred hK, ?_⟩⟩
      refine ⟨.slice Ap r.length cp, ?_, ⟨_, rfl, R_noncells (Kd.R_mono hR (fun _ _ => trivial)) (grownBy_putObj' _ D (.deferred none)) (fun r e => by cases e; exact ⟨_, hK, rfl⟩), hB.trans (belowK_b (w := w) (Nat.le_refl _) W D _ _ (by omega) hK rfl rfl)⟩⟩
      simp [results, Try.f17, go_sem]
    case stop =>
      rintro D c pre W hD hpre h hK
      exact h.elim
  · rw [if_neg hl] at h
    obtain rfl := Option.some.inj h
    have hlb : ((l0.length : Int) != 1024) = true := by simpa using hl
    go_enter Try.func17, Try.ntmps17
    go_wp2
    go_ret
    exact ⟨_, rfl, Kd.R_nil _ _ _ _ _, Below.refl _ _⟩
end Go.Proofs.Ythhhklihggpldaa.Given
