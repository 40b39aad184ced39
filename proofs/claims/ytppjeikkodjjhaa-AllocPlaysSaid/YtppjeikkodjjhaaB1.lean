/- bits.First and bits.Count: what each answers, for every row of bits; slices.Clone of bytes. -/
import Derived.Test.YtppjeikkodjjhaaBase
import Derived.Test.YtppjeikkodjjhaaPGetx1
import Derived.Lib.Hide
import Derived.RangeFuncNested
import Derived.RangeFuncBound
import Derived.RangeFuncCalls
import Derived.RangeFuncLeaves
import Derived.RangeFuncBox
import Derived.Shelf.Abstract
import Derived.Shelf.RegionOpen
import Derived.OwnWalkIn
import Derived.TacticsInMore
import Derived.LoopNIn
import Derived.LoopIn
namespace Go.Proofs.Ytppjeikkodjjhaa.Given
open Go.RowKit Go.Shelf Go.Proofs.YtppjeikkodjjhaaW.PrintWords Go.Proofs.YtppjeikkodjjhaaW.PrintLast Go.Proofs.YtppjeikkodjjhaaW.PrintMore Go.Proofs.YtppjeikkodjjhaaBase Go.Proofs.Ytppjeikkodjjhaa.PGet
set_option linter.unusedVariables false
set_option linter.unusedSimpArgs false
attribute [local go_sem] Oper.semAt_some max2_int min2_int max_two min_two

def getB (l : List Int) (i : Nat) : Bool := (bits_Get.f l i).getD false
theorem get_some (l : List Int) (i : Nat) (hi : i < 1152921504606846976) : bits_Get.f l i = some (getB l i) := by
  have hd : wrap64 (Int.tdiv (i : Int) 8) = (i : Int) / 8 := by
    rw [Int.tdiv_eq_ediv_of_nonneg (by omega)]; unfold wrap64; omega
  have hm : 0 ≤ Int.tmod (i : Int) 8 := by rw [Int.tmod_eq_emod_of_nonneg (by omega)]; omega
  have : (bits_Get.f l i).isSome = true := by
    unfold bits_Get.f
    rw [if_pos (by omega), hd, if_pos hm]
    split
    · rw [if_pos (by omega)]; rfl
    · rfl
  unfold getB
  cases h : bits_Get.f l i with
  | none => rw [h] at this; cases this
  | some b => rfl

/-- the bits from i on, d of them -/
abbrev encB (l : List Int) (i : Nat) : Array Value := #[.int .i64 (i : Int), .bool (getB l i)]

theorem range_prefix (lo a b : Nat) (h : a ≤ b) : List.range' lo a <+: List.range' lo b := ⟨List.range' (lo + a) (b - a), by rw [List.range'_append_1]; congr; omega⟩
theorem abides_drewN {β : Type} {B : Nat} {J : β → World → Prop} (h : AbidesFrom B J) {s : β} {W : World} (hs : J s W) (k : Nat) : J s (W.drewN k) :=
  h s W _ none hs ⟨rfl, rfl, rfl, Nat.le_refl _, fun _ _ _ => rfl⟩ (fun r e => by cases e)

/-- what the iterator reads: its three boxes and the bytes -/
structure EachG (Bf Bn Bb c0 : Nat) (A0 : Option Addr) (l0 : List Int) (k0 from0 : Int) (G : World → Prop) (Kp : World → World → Prop) : Prop where
  f : ∀ W, G W → W.cell? ⟨Bf, 0, none⟩ = some (.int .i64 from0)
  n : ∀ W, G W → W.cell? ⟨Bn, 0, none⟩ = some (.int .i64 k0)
  b : ∀ W, G W → W.cell? ⟨Bb, 0, none⟩ = some (.slice A0 l0.length c0)
  C : ∀ W, G W → Kd.C (Kd.int .u8) W A0 l0.length l0
  d : ∀ W k, G W → G (W.drewN k)
  keep : ∀ A B, G A → Kp A B → G B

set_option maxRecDepth 100000 in
set_option maxHeartbeats 2000000 in
theorem each1_in (n m : Nat) (hm : 1 ≤ m) (lr Bf Bn Bb c0 : Nat) (A0 : Option Addr) (l0 : List Int) (k0 from0 : Int) (hlen : l0.length ≤ 140737488351232)
    (G : World → Prop) (Kp : World → World → Prop) (hG : EachG Bf Bn Bb c0 A0 l0 k0 from0 G Kp)
    (J Jx : List Nat → World → Prop) (hn : n = ((if k0 < (l0.length : Int) * 8 then k0 else (l0.length : Int) * 8) - (if 0 < from0 then from0 else 0)).toNat)
    (hY : ∀ pre x W, J pre W → pre.length < n → YieldAt Fence.wide (m - 1) Try.prog lr (encB l0 x) W fun e W' =>
      (e = .returned (.bool true) ∧ J (pre ++ [x]) W' ∧ Kp W W') ∨ (e = .returned (.bool false) ∧ Jx (pre ++ [x]) W'))
    (W : World) (hGW : G W) (hJ : AbidesFrom W.heap.size J) (hc0 : l0.length ≤ c0) (h0 : J [] W) :
    CallsIn Fence.wide m Try.prog 47 #[.func (.yield lr) #[] #[], .pointer (some ⟨Bf, 0, none⟩), .pointer (some ⟨Bn, 0, none⟩), .pointer (some ⟨Bb, 0, none⟩)] W fun e W' => (∃ v, e = .returned v) ∧
      ((∃ ys, ys = List.range' (if 0 < from0 then from0 else 0).toNat n ∧ J ys W') ∨ (∃ pre, pre <+: List.range' (if 0 < from0 then from0 else 0).toNat n ∧ Jx pre W')) := by
  refine callsIn_of_wp Try.func47 rfl trivial ?_ rfl
  simp only [Try.ntmps47, List.size_toArray, List.length_cons, List.length_nil, Nat.reduceAdd, Nat.reduceSub, Array.replicate_succ, Array.replicate_zero, List.push_toArray, List.append_toArray, List.nil_append, List.cons_append]
  obtain ⟨lo, hlo⟩ : ∃ lo : Nat, (if 0 < from0 then from0 else 0).toNat = lo := ⟨_, rfl⟩
  rw [hlo]
  have hBf := hG.f W hGW
  have hlo1 : (lo : Int) = 0 ∨ (lo : Int) = from0 := by split at hlo <;> omega
  have hlo2 : from0 ≤ lo := by split at hlo <;> omega
  have hn1 : (n : Int) ≤ 0 ∨ (lo + n ≤ k0 ∧ (lo : Int) + n ≤ (l0.length : Int) * 8) := by split at hn <;> split at hlo <;> omega
  have hn2 : k0 ≤ lo + n ∨ (l0.length : Int) * 8 ≤ (lo : Int) + n := by split at hn <;> split at hlo <;> omega
  have HN1 := Lib.hid hn1
  have HN2 := Lib.hid hn2
  have HLO := Lib.hid hlo1
  clear hn hlo hlo1 hn1 hn2
  gi_wp2
  all_goals
    gi_loopw [5] (fun i wr => ∃ k : Nat, k ≤ n ∧ i = .int .i64 ((lo + k : Nat) : Int) ∧ J (List.range' lo k) wr ∧ G wr) (fun i _ => lo + n - (intOf i).toNat)
    case atStart =>
      refine ⟨0, Nat.zero_le _, ?_, h0, hGW⟩
      have := HLO.out
      congr 1
      omega
    case round =>
      obtain ⟨k, hk, rfl, hJs, hnx⟩ := hrel
      have hBn' := hG.n wr hnx
      have hBb' := hG.b wr hnx
      have HR' := Lib.hid (hG.C wr hnx)
      by_cases hlt : k < n
      · have hg := get_some l0 (lo + k) (by have := HN1.out; omega)
        have h1 : ((lo + k : Nat) : Int) < k0 := by have := HN1.out; omega
        have h2 : ((lo + k : Nat) : Int) < (l0.length : Int) * 8 := by have := HN1.out; omega
        have hlt' : (List.range' lo k).length < n := by simpa using hlt
        gi_wp2_with (refine ⟨trivial, ?_⟩; gi_at_call 46; refine (callsIn_wide.2 (bits_Get.calls A0 c0 l0 _ _ _ HR'.out hc0 hg)).mono ?_; rintro e w' ⟨rfl, hd⟩; obtain ⟨nd, rfl⟩ := hd.out; obtain ⟨fn, tmps, assign, body, hy, hR⟩ := hY _ (lo + k) (wr.drewN nd) (abides_drewN hJ hJs nd) hlt'; dsimp only [encB] at hy; rw [Int.natCast_add] at hy; clear hd)
        all_goals
          refine hR.mono ?_
          rintro e W3 (⟨rfl, hJ3, hk3⟩ | ⟨rfl, hJx3⟩)
          · gi_wp2
            go_roundw
            case rel => exact ⟨k + 1, by omega, by first | (congr 1; done) | (congr 1; omega), by rw [List.range'_concat]; simpa using hJ3, hG.keep _ _ (hG.d _ nd hnx) hk3⟩
            case measure => simp [intOf]; omega
          · gi_wp2
            refine bodyPost_ret (results_none rfl _ _ _) rfl ?_
            refine ⟨⟨_, rfl⟩, .inr ⟨List.range' lo (k + 1), ?_, ?_⟩⟩
            · exact range_prefix lo (k + 1) n hlt
            · rw [List.range'_concat]; simpa using hJx3
      · have hkn : k = n := by omega
        have h2 := HN2.out
        subst hkn
        gi_wp2
        all_goals
          go_end0
          exact ⟨⟨_, rfl⟩, .inl hJs⟩

theorem each_in (A0 : Option Addr) (len0 c0 : Nat) (k0 from0 : Int) (w : World) :
    Calls Try.prog 41 #[.slice A0 len0 c0, .int .i64 k0, .int .i64 from0] w fun e w' => e = .returned (.func (.func 47) #[] #[.pointer (some ⟨w.heap.size + 2, 0, none⟩), .pointer (some ⟨w.heap.size + 1, 0, none⟩), .pointer (some ⟨w.heap.size, 0, none⟩)]) ∧ ((w.alloc (.cells #[.slice A0 len0 c0] 44)).alloc (.cells #[.int .i64 k0] 3)).alloc (.cells #[.int .i64 from0] 3) = w' := by
  go_enter Try.func41, Try.ntmps41
  go_wp2
  go_ret
  exact ⟨rfl, rfl⟩

/-- how many bits are gone over, and from where -/
def eachLo (from0 : Int) : Nat := (if 0 < from0 then from0 else 0).toNat
def eachN (l0 : List Int) (k0 from0 : Int) : Nat := ((if k0 < (l0.length : Int) * 8 then k0 else (l0.length : Int) * 8) - (if 0 < from0 then from0 else 0)).toNat

theorem each_stops (m : Nat) (hm : 1 ≤ m) (Bf Bn Bb c0 : Nat) (A0 : Option Addr) (l0 : List Int) (k0 from0 : Int) (hlen : l0.length ≤ 140737488351232) (w : World)
    (G : World → Prop) (Kp : World → World → Prop) (hG : EachG Bf Bn Bb c0 A0 l0 k0 from0 G Kp) (hG0 : ∀ W, Below w.heap.size w W → G W) (hc0 : l0.length ≤ c0) :
    SeqStopsK Fence.wide m Try.prog 47 #[.pointer (some ⟨Bf, 0, none⟩), .pointer (some ⟨Bn, 0, none⟩), .pointer (some ⟨Bb, 0, none⟩)] (encB l0) Kp
      (fun ys => ys = List.range' (eachLo from0) (eachN l0 k0 from0)) (fun pre => pre <+: List.range' (eachLo from0) (eachN l0 k0 from0)) (eachN l0 k0 from0) w := fun l J Jx W hW hJ _ hY h0 =>
  each1_in _ m hm l Bf Bn Bb c0 A0 l0 k0 from0 hlen G Kp hG J Jx rfl hY W (hG0 W hW) hJ hc0 h0

/-! ### First -/
def firstBit (l : List Int) (xs : List Nat) : Int × Bool := match xs.find? (fun i => !getB l i) with
  | some i => (i, true)
  | none => (0, false)
theorem firstBit_all {l : List Int} {xs : List Nat} (h : ∀ i ∈ xs, getB l i = true) : firstBit l xs = (0, false) := by
  unfold firstBit
  rw [List.find?_eq_none.2 (fun i hi => by simp [h i hi])]
theorem firstBit_at {l : List Int} {pre : List Nat} {x : Nat} {xs : List Nat} (h : ∀ i ∈ pre, getB l i = true) (hx : getB l x = false) (hp : (pre ++ [x]) <+: xs) : firstBit l xs = ((x : Int), true) := by
  obtain ⟨t, rfl⟩ := hp
  unfold firstBit
  rw [List.append_assoc, List.find?_append, List.find?_eq_none.2 (fun i hi => by simp [h i hi])]
  simp [hx]
def bits_First.f (l0 : List Int) (a1 a2 : Int) : Option (Int × Bool) := if l0.length ≤ 140737488351232 then some (firstBit l0 (List.range' (eachLo a2) (eachN l0 a1 a2))) else none

set_option maxRecDepth 100000 in
set_option maxHeartbeats 2000000 in
theorem bits_First.calls (A0 : Option Addr) (c0 : Nat) (l0 : List Int) (a1 a2 : Int) (r1 : Int) (r2 : Bool) (w : World) (hr0 : Kd.C (Kd.int .u8) w A0 l0.length l0) (hc0 : l0.length ≤ c0) (h : bits_First.f l0 a1 a2 = some (r1, r2)) :
    Calls Try.prog 28 #[.slice A0 l0.length c0, .int .i64 a1, .int .i64 a2] w fun e w' => e = .returned (.tuple #[.int .i64 r1, .bool r2]) ∧ Below w.heap.size w w' := by
  unfold bits_First.f at h
  split at h
  case isFalse => cases h
  rename_i hlen
  have hres := Option.some.inj h
  have HRES := Lib.hid hres
  have HC := Lib.hid hr0
  clear h hres hr0
  refine (callsIn_wide (n := 9)).1 ?_
  refine callsIn_of_wp_marks Try.func28 rfl trivial ?_ rfl
  simp only [Try.ntmps28, List.size_toArray, List.length_cons, List.length_nil, Nat.reduceAdd, Nat.reduceSub, Array.replicate_succ, Array.replicate_zero, List.push_toArray, List.append_toArray, List.nil_append, List.cons_append]
  gi_wp2_with (refine ⟨trivial, ?_⟩; gi_at_call 41; refine (callsIn_wide.2 (each_in A0 l0.length c0 a1 a2 _)).mono ?_; rintro e w' ⟨rfl, rfl⟩)
  obtain ⟨w5, hw5⟩ : ∃ w5, (((((w.alloc (.cells #[.int .i64 0] 3)).alloc (.cells #[.bool false] 4)).alloc (.cells #[.slice A0 l0.length c0] 44)).alloc (.cells #[.int .i64 a1] 3)).alloc (.cells #[.int .i64 a2] 3)) = w5 := ⟨_, rfl⟩
  have hsz : w5.heap.size = w.heap.size + 5 := by rw [← hw5]; simp
  have hB5 : Below w.heap.size w w5 := by
    rw [← hw5]
    exact (((((Below.refl _ w).alloc (Nat.le_refl _) _).alloc (by simp) _).alloc (by simp; omega) _).alloc (by simp; omega) _).alloc (by simp; omega) _
  have q0 : w5.heap[w.heap.size]? = some (.cells #[.int .i64 0] 3) := by rw [← hw5]; exact blk_alloc (blk_alloc (blk_alloc (blk_alloc (blk_new w _) _) _) _) _
  have q1 : w5.heap[w.heap.size + 1]? = some (.cells #[.bool false] 4) := by
    rw [← hw5]
    have := blk_alloc (blk_alloc (blk_alloc (blk_new (w.alloc (.cells #[.int .i64 0] 3)) (.cells #[.bool false] 4)) (.cells #[.slice A0 l0.length c0] 44)) (.cells #[.int .i64 a1] 3)) (.cells #[.int .i64 a2] 3)
    rwa [World.size_alloc] at this
  have q2 : w5.heap[w.heap.size + 1 + 1]? = some (.cells #[.slice A0 l0.length c0] 44) := by
    rw [← hw5]
    have := blk_alloc (blk_alloc (blk_new ((w.alloc (.cells #[.int .i64 0] 3)).alloc (.cells #[.bool false] 4)) (.cells #[.slice A0 l0.length c0] 44)) (.cells #[.int .i64 a1] 3)) (.cells #[.int .i64 a2] 3)
    rwa [World.size_alloc, World.size_alloc] at this
  have q3 : w5.heap[w.heap.size + 1 + 1 + 1]? = some (.cells #[.int .i64 a1] 3) := by
    rw [← hw5]
    have := blk_alloc (blk_new (((w.alloc (.cells #[.int .i64 0] 3)).alloc (.cells #[.bool false] 4)).alloc (.cells #[.slice A0 l0.length c0] 44)) (.cells #[.int .i64 a1] 3)) (.cells #[.int .i64 a2] 3)
    rwa [World.size_alloc, World.size_alloc, World.size_alloc] at this
  have q4 : w5.heap[w.heap.size + 1 + 1 + 2]? = some (.cells #[.int .i64 a2] 3) := by
    rw [← hw5]
    have := blk_new ((((w.alloc (.cells #[.int .i64 0] 3)).alloc (.cells #[.bool false] 4)).alloc (.cells #[.slice A0 l0.length c0] 44)).alloc (.cells #[.int .i64 a1] 3)) (.cells #[.int .i64 a2] 3)
    rwa [World.size_alloc, World.size_alloc, World.size_alloc, World.size_alloc] at this
  rw [hw5]
  clear hw5
  have hG : EachG (w.heap.size + 1 + 1 + 2) (w.heap.size + 1 + 1 + 1) (w.heap.size + 1 + 1) c0 A0 l0 a1 a2
      (fun W => Below w.heap.size w W ∧ W.heap[w.heap.size + 1 + 1]? = some (.cells #[.slice A0 l0.length c0] 44) ∧ W.heap[w.heap.size + 1 + 1 + 1]? = some (.cells #[.int .i64 a1] 3) ∧ W.heap[w.heap.size + 1 + 1 + 2]? = some (.cells #[.int .i64 a2] 3))
      (fun A B => Below w.heap.size A B ∧ ∀ b, w.heap.size + 1 + 1 ≤ b → b < w.heap.size + 5 → B.heap[b]? = A.heap[b]?) :=
    ⟨fun W h => (blk_cell h.2.2.2 0).trans rfl, fun W h => (blk_cell h.2.2.1 0).trans rfl, fun W h => (blk_cell h.2.1 0).trans rfl, fun W h => Kd.C_below HC.out h.1, fun W k h => ⟨below_drewN h.1 k, h.2⟩,
      fun A B h k => ⟨h.1.trans k.1, (k.2 _ (by omega) (by omega)).trans h.2.1, (k.2 _ (by omega) (by omega)).trans h.2.2.1, (k.2 _ (by omega) (by omega)).trans h.2.2.2⟩⟩
  refine wpIn_rangeFunc_ownG (F := Fence.wide) rfl (by omega) (gf := 47) (lb := #[.pointer (some ⟨w.heap.size + 1 + 1 + 2, 0, none⟩), .pointer (some ⟨w.heap.size + 1 + 1 + 1, 0, none⟩), .pointer (some ⟨w.heap.size + 1 + 1, 0, none⟩)]) rfl trivial (enters_of Try.func47 (by kernel_rfl) rfl)
    (each_stops 8 (by omega) _ _ _ c0 A0 l0 a1 a2 hlen w5 _ _ hG (fun W hW => ⟨hB5.trans (hW.mono (by omega)), (hW.block _ (by omega)).trans q2, (hW.block _ (by omega)).trans q3, (hW.block _ (by omega)).trans q4⟩) hc0)
    (fun h k => ⟨h.1.trans k.1, fun b h1 h2 => (k.2 b h1 h2).trans (h.2 b h1 h2)⟩)
    (fun W l o o' hl h1 h2 h3 => ⟨belowK_b (w := w5) (by omega) W l o o' hl h1 h2 h3, fun b hb1 hb2 => World.putObj_heap_other (by omega)⟩) (Below.refl _ _) (fun _ => rfl)
    (fun pre W => ((∀ i ∈ pre, getB l0 i = true) ∧ W.cell? ⟨w.heap.size, 0, none⟩ = some (.int .i64 0) ∧ W.cell? ⟨w.heap.size + 1, 0, none⟩ = some (.bool false) ∧ W.frozen? ⟨w.heap.size, 0, none⟩ = false ∧ W.frozen? ⟨w.heap.size + 1, 0, none⟩ = false) ∧ Below w.heap.size w W)
    (fun c pre W => (c = .ret ∧ (∃ p x, pre = p ++ [x] ∧ (∀ i ∈ p, getB l0 i = true) ∧ getB l0 x = false ∧ W.cell? ⟨w.heap.size, 0, none⟩ = some (.int .i64 x)) ∧ W.cell? ⟨w.heap.size + 1, 0, none⟩ = some (.bool true)) ∧ Below w.heap.size w W)
    (OwnFrom.and (Own.from (fun s A B row hs hg hr => ⟨hs.1, cell_kept hs.2.1 hg hr, cell_kept hs.2.2.1 hg hr, (frozen_kept hs.2.1 hg hr).trans hs.2.2.2.1, (frozen_kept hs.2.2.1 hg hr).trans hs.2.2.2.2⟩) _) (ownFrom_below (Nat.le_refl _) (by omega)))
    (fun c => OwnFrom.and (Own.from (fun s A B row hs hg hr => by
      obtain ⟨hc, ⟨p, x, e, h1, h2, h3⟩, h4⟩ := hs
      exact ⟨hc, ⟨p, x, e, h1, h2, cell_kept h3 hg hr⟩, cell_kept h4 hg hr⟩) _) (ownFrom_below (Nat.le_refl _) (by omega)))
    ⟨⟨by simp, (blk_cell q0 0).trans rfl, (blk_cell q1 0).trans rfl, blk_frozen q0 0, blk_frozen q1 0⟩, hB5⟩
    (fun x => { tmps := #[.slice A0 l0.length c0, .int .i64 a1, .int .i64 a2, undef, undef, undef, .pointer (some ⟨w.heap.size, 0, none⟩), .pointer (some ⟨w.heap.size + 1, 0, none⟩), .int .i64 x, .bool (getB l0 x), .slice A0 l0.length c0, .int .i64 a1, .int .i64 a2, .func (.func 47) #[] #[.pointer (some ⟨w.heap.size + 1 + 1 + 2, 0, none⟩), .pointer (some ⟨w.heap.size + 1 + 1 + 1, 0, none⟩), .pointer (some ⟨w.heap.size + 1 + 1, 0, none⟩)], .int .i64 x, .bool (getB l0 x), undef, undef, undef], defers := [] }) ?assign ?body ?done ?stop
  case assign =>
    intro l x W K hK
    gi_wp2
    exact hK
  case body =>
    rintro l pre x W ⟨⟨hp, hcr, hco, hfr, hfo⟩, hB⟩ _
    cases hx : getB l0 x with
    | false =>
      gi_wp2
      refine ⟨((KeepsOthers.setCell _ _ _).trans (KeepsOthers.setCell _ _ _)).from _, ⟨rfl, ⟨pre, x, rfl, hp, hx, ?_⟩, ?_⟩, (hB.setCell (p := ⟨w.heap.size, 0, none⟩) (Nat.le_refl _) _).setCell (p := ⟨w.heap.size + 1, 0, none⟩) (Nat.le_succ _) _⟩
      · go_simp
      · go_simp
    | true =>
      gi_wp2
      exact ⟨(KeepsOthers.refl _).from _, ⟨Below.refl _ _, fun _ _ _ => rfl⟩, ⟨fun y hy => (List.mem_append.1 hy).elim (hp y) (fun e => by simp at e; exact e ▸ hx), hcr, hco, hfr, hfo⟩, hB⟩
  case done =>
    rintro D ys W hD rfl ⟨⟨hne, hcr, hco, hfr, hfo⟩, hB⟩ hK
    have hfin := HRES.out
    rw [firstBit_all hne] at hfin
    obtain ⟨rfl, rfl⟩ : (0 : Int) = r1 ∧ false = r2 := by simpa using hfin
    gi_wp2
    have hK' := ((KeepsOthers.setCell W ⟨w.heap.size, 0, none⟩ (.int .i64 0)).trans (KeepsOthers.setCell _ ⟨w.heap.size + 1, 0, none⟩ (.bool false))).same D _ hK rfl
    refine ⟨by simp, .inl ⟨_, _, rfl, run_takeDeferred hK', ?_⟩⟩
    have e0 : ((W.setCell ⟨w.heap.size, 0, none⟩ (.int .i64 0)).setCell ⟨w.heap.size + 1, 0, none⟩ (.bool false)).cell? ⟨w.heap.size, 0, none⟩ = some (.int .i64 0) := by go_simp
    have e1 : ((W.setCell ⟨w.heap.size, 0, none⟩ (.int .i64 0)).setCell ⟨w.heap.size + 1, 0, none⟩ (.bool false)).cell? ⟨w.heap.size + 1, 0, none⟩ = some (.bool false) := by go_simp
    have hc5 := cell_kept e0 (grownBy_putObj' _ D (.deferred none)) (fun r e => by cases e; exact ⟨_, hK', rfl⟩)
    have hc6 := cell_kept e1 (grownBy_putObj' _ D (.deferred none)) (fun r e => by cases e; exact ⟨_, hK', rfl⟩)
    refine ⟨.tuple #[.int .i64 0, .bool false], ?_, rfl, ((hB.setCell (p := ⟨w.heap.size, 0, none⟩) (Nat.le_refl _) _).setCell (p := ⟨w.heap.size + 1, 0, none⟩) (Nat.le_succ _) _).trans (belowK_b (w := w) (Nat.le_refl _) _ D _ _ (by omega) hK' rfl rfl)⟩
    simp [results, Try.f28, go_sem, hc5, hc6]
  case stop =>
    rintro D c pre W hD hpre ⟨⟨rfl, ⟨p, x, rfl, hp, hx, hcr⟩, hco⟩, hB⟩ hK
    have hfin := HRES.out
    rw [firstBit_at hp hx hpre] at hfin
    obtain ⟨rfl, rfl⟩ : (x : Int) = r1 ∧ true = r2 := by simpa using hfin
    gi_wp2
    refine ⟨by simp, .inl ⟨_, _, rfl, run_takeDeferred hK, ?_⟩⟩
    have hc5 := cell_kept hcr (grownBy_putObj' _ D (.deferred none)) (fun r e => by cases e; exact ⟨_, hK, rfl⟩)
    have hc6 := cell_kept hco (grownBy_putObj' _ D (.deferred none)) (fun r e => by cases e; exact ⟨_, hK, rfl⟩)
    refine ⟨.tuple #[.int .i64 x, .bool true], ?_, rfl, hB.trans (belowK_b (w := w) (Nat.le_refl _) W D _ _ (by omega) hK rfl rfl)⟩
    simp [results, Try.f28, go_sem, hc5, hc6]

/-! ### Count -/
def bits_Count.f (l0 : List Int) (a1 : Int) : Option (Int) := if l0.length ≤ 140737488351232 then some (((List.range' (eachLo 0) (eachN l0 a1 0)).countP (getB l0) : Nat) : Int) else none

set_option maxRecDepth 100000 in
set_option maxHeartbeats 2000000 in
theorem bits_Count.calls (A0 : Option Addr) (c0 : Nat) (l0 : List Int) (a1 : Int) (r : Int) (w : World) (hr0 : Kd.C (Kd.int .u8) w A0 l0.length l0) (hc0 : l0.length ≤ c0) (h : bits_Count.f l0 a1 = some r) :
    Calls Try.prog 35 #[.slice A0 l0.length c0, .int .i64 a1] w fun e w' => e = .returned (.int .i64 r) ∧ Below w.heap.size w w' := by
  unfold bits_Count.f at h
  split at h
  case isFalse => cases h
  rename_i hlen
  have hres := Option.some.inj h
  have HRES := Lib.hid hres
  have HC := Lib.hid hr0
  clear h hres hr0
  have hN : eachN l0 a1 0 ≤ 1125899906809856 := by unfold eachN; split <;> simp <;> omega
  refine (callsIn_wide (n := 9)).1 ?_
  refine callsIn_of_wp_marks Try.func35 rfl trivial ?_ rfl
  simp only [Try.ntmps35, List.size_toArray, List.length_cons, List.length_nil, Nat.reduceAdd, Nat.reduceSub, Array.replicate_succ, Array.replicate_zero, List.push_toArray, List.append_toArray, List.nil_append, List.cons_append]
  gi_wp2_with (refine ⟨trivial, ?_⟩; gi_at_call 41; refine (callsIn_wide.2 (each_in A0 l0.length c0 a1 0 _)).mono ?_; rintro e w' ⟨rfl, rfl⟩)
  obtain ⟨w5, hw5⟩ : ∃ w5, ((((w.alloc (.cells #[.int .i64 0] 3)).alloc (.cells #[.slice A0 l0.length c0] 44)).alloc (.cells #[.int .i64 a1] 3)).alloc (.cells #[.int .i64 0] 3)) = w5 := ⟨_, rfl⟩
  have hsz : w5.heap.size = w.heap.size + 4 := by rw [← hw5]; simp
  have hB5 : Below w.heap.size w w5 := by
    rw [← hw5]
    exact ((((Below.refl _ w).alloc (Nat.le_refl _) _).alloc (by simp) _).alloc (by simp; omega) _).alloc (by simp; omega) _
  have q0 : w5.heap[w.heap.size]? = some (.cells #[.int .i64 0] 3) := by rw [← hw5]; exact blk_alloc (blk_alloc (blk_alloc (blk_new w _) _) _) _
  have q2 : w5.heap[w.heap.size + 1]? = some (.cells #[.slice A0 l0.length c0] 44) := by
    rw [← hw5]
    have := blk_alloc (blk_alloc (blk_new (w.alloc (.cells #[.int .i64 0] 3)) (.cells #[.slice A0 l0.length c0] 44)) (.cells #[.int .i64 a1] 3)) (.cells #[.int .i64 0] 3)
    rwa [World.size_alloc] at this
  have q3 : w5.heap[w.heap.size + 1 + 1]? = some (.cells #[.int .i64 a1] 3) := by
    rw [← hw5]
    have := blk_alloc (blk_new ((w.alloc (.cells #[.int .i64 0] 3)).alloc (.cells #[.slice A0 l0.length c0] 44)) (.cells #[.int .i64 a1] 3)) (.cells #[.int .i64 0] 3)
    rwa [World.size_alloc, World.size_alloc] at this
  have q4 : w5.heap[w.heap.size + 1 + 2]? = some (.cells #[.int .i64 0] 3) := by
    rw [← hw5]
    have := blk_new (((w.alloc (.cells #[.int .i64 0] 3)).alloc (.cells #[.slice A0 l0.length c0] 44)).alloc (.cells #[.int .i64 a1] 3)) (.cells #[.int .i64 0] 3)
    rwa [World.size_alloc, World.size_alloc, World.size_alloc] at this
  rw [hw5]
  clear hw5
  have hG : EachG (w.heap.size + 1 + 2) (w.heap.size + 1 + 1) (w.heap.size + 1) c0 A0 l0 a1 0
      (fun W => Below w.heap.size w W ∧ W.heap[w.heap.size + 1]? = some (.cells #[.slice A0 l0.length c0] 44) ∧ W.heap[w.heap.size + 1 + 1]? = some (.cells #[.int .i64 a1] 3) ∧ W.heap[w.heap.size + 1 + 2]? = some (.cells #[.int .i64 0] 3))
      (fun A B => Below w.heap.size A B ∧ ∀ b, w.heap.size + 1 ≤ b → b < w.heap.size + 4 → B.heap[b]? = A.heap[b]?) :=
    ⟨fun W h => (blk_cell h.2.2.2 0).trans rfl, fun W h => (blk_cell h.2.2.1 0).trans rfl, fun W h => (blk_cell h.2.1 0).trans rfl, fun W h => Kd.C_below HC.out h.1, fun W k h => ⟨below_drewN h.1 k, h.2⟩,
      fun A B h k => ⟨h.1.trans k.1, (k.2 _ (by omega) (by omega)).trans h.2.1, (k.2 _ (by omega) (by omega)).trans h.2.2.1, (k.2 _ (by omega) (by omega)).trans h.2.2.2⟩⟩
  refine wpIn_rangeFunc_ownG (F := Fence.wide) rfl (by omega) (gf := 47) (lb := #[.pointer (some ⟨w.heap.size + 1 + 2, 0, none⟩), .pointer (some ⟨w.heap.size + 1 + 1, 0, none⟩), .pointer (some ⟨w.heap.size + 1, 0, none⟩)]) rfl trivial (enters_of Try.func47 (by kernel_rfl) rfl)
    (each_stops 8 (by omega) _ _ _ c0 A0 l0 a1 0 hlen w5 _ _ hG (fun W hW => ⟨hB5.trans (hW.mono (by omega)), (hW.block _ (by omega)).trans q2, (hW.block _ (by omega)).trans q3, (hW.block _ (by omega)).trans q4⟩) hc0)
    (fun h k => ⟨h.1.trans k.1, fun b h1 h2 => (k.2 b h1 h2).trans (h.2 b h1 h2)⟩)
    (fun W l o o' hl h1 h2 h3 => ⟨belowK_b (w := w5) (by omega) W l o o' hl h1 h2 h3, fun b hb1 hb2 => World.putObj_heap_other (by omega)⟩) (Below.refl _ _) (fun _ => rfl)
    (fun pre W => ((pre.length ≤ eachN l0 a1 0 ∧ W.cell? ⟨w.heap.size, 0, none⟩ = some (.int .i64 ((pre.countP (getB l0) : Nat) : Int)) ∧ W.frozen? ⟨w.heap.size, 0, none⟩ = false)) ∧ Below w.heap.size w W)
    (fun c pre W => False)
    (OwnFrom.and (Own.from (fun s A B row hs hg hr => ⟨hs.1, cell_kept hs.2.1 hg hr, (frozen_kept hs.2.1 hg hr).trans hs.2.2⟩) _) (ownFrom_below (Nat.le_refl _) (by omega)))
    (fun c s A B row hs hg hr => hs)
    ⟨⟨Nat.zero_le _, (blk_cell q0 0).trans rfl, blk_frozen q0 0⟩, hB5⟩
    (fun x => { tmps := #[.slice A0 l0.length c0, .int .i64 a1, undef, undef, .int .i64 0, .pointer (some ⟨w.heap.size, 0, none⟩), undef, .bool (getB l0 x), .slice A0 l0.length c0, .int .i64 a1, .func (.func 47) #[] #[.pointer (some ⟨w.heap.size + 1 + 2, 0, none⟩), .pointer (some ⟨w.heap.size + 1 + 1, 0, none⟩), .pointer (some ⟨w.heap.size + 1, 0, none⟩)], .int .i64 x, .bool (getB l0 x), undef, undef, undef, undef], defers := [] }) ?assign ?body ?done ?stop
  case assign =>
    intro l x W K hK
    gi_wp2
    exact hK
  case body =>
    rintro l pre x W ⟨⟨hpl, hcr, hfr⟩, hB⟩ hlt
    have hcl : pre.countP (getB l0) ≤ 1125899906809856 := Nat.le_trans List.countP_le_length (Nat.le_trans hpl hN)
    cases hx : getB l0 x with
    | true =>
      gi_wp2
      refine ⟨(KeepsOthers.setCell _ _ _).from _, ⟨(Below.refl _ _).setCell (p := ⟨w.heap.size, 0, none⟩) (Nat.le_refl _) _, fun b h1 h2 => Below.heap_setCell _ _ _ _ (by simp only; omega)⟩, ⟨by simp; omega, ?_, ?_⟩, hB.setCell (p := ⟨w.heap.size, 0, none⟩) (Nat.le_refl _) _⟩
      · rw [World.cell?_setCell_same' _ _ _ (by rw [hcr]; rfl)]
        rw [List.countP_append]
        simp [hx]
      · go_simp
    | false =>
      gi_wp2
      refine ⟨(KeepsOthers.refl _).from _, ⟨Below.refl _ _, fun _ _ _ => rfl⟩, ⟨by simp; omega, ?_, hfr⟩, hB⟩
      rw [hcr, List.countP_append]
      simp [hx]
  case done =>
    rintro D ys W hD rfl ⟨⟨hne, hcr, hfr⟩, hB⟩ hK
    have hfin := HRES.out
    gi_wp2
    refine ⟨by simp, .inl ⟨_, _, rfl, run_takeDeferred hK, ?_⟩⟩
    refine ⟨.int .i64 r, ?_, rfl, hB.trans (belowK_b (w := w) (Nat.le_refl _) W D _ _ (by omega) hK rfl rfl)⟩
    rw [← hfin]
    simp [results, Try.f35, go_sem]
  case stop =>
    rintro D c pre W hD hpre h hK
    exact h.elim

/-! ### slices.Clone of bytes -/
theorem info5 : (Try.prog.info? 5).map (fun i => (i.zero, i.size, i.bytes)) = some (some (.int .u8 0), 1, 1) := by kernel_rfl
def slices_Clone_byte_byte.f (l0 : List Int) : Option (List Int) := if l0.length < 140737488351232 then some l0 else none

set_option maxRecDepth 100000 in
set_option maxHeartbeats 1000000 in
theorem slices_Clone_byte_byte.calls (A0 : Option Addr) (c0 : Nat) (l0 : List Int) (r : List Int) (w : World) (hr0 : Kd.C (Kd.int .u8) w A0 l0.length l0) (hc0 : l0.length ≤ c0) (h : slices_Clone_byte_byte.f l0 = some r) :
    Calls Try.prog 38 #[.slice A0 l0.length c0] w fun e w' => ∃ v0_ : Value, e = .returned (v0_) ∧ Kd.R (Kd.int .u8) 5 w' w.heap.size (fun _ => True) v0_ r ∧ Below w.heap.size w w' := by
  unfold slices_Clone_byte_byte.f at h
  split at h
  case isFalse => cases h
  rename_i hlen
  obtain rfl := Option.some.inj h
  have heq := fun (w : World) (a : Option Addr) (n c : Nat) => Lib.run_eql_slice_nil (P := Try.prog) w 44 5 a n c 0 0 Try.underlying44
  cases A0 with
  | none =>
    have hl : l0 = [] := by
      have := hr0.2.2
      cases l0 with
      | nil => rfl
      | cons x l => obtain ⟨ad, e, _⟩ := this (by simp); cases e
    subst hl
    clear hr0 h hc0
    go_enter Try.func38, Try.ntmps38
    go_wp2
    go_ret
    exact ⟨_, rfl, Kd.R_nil _ _ _ _ _, Below.refl _ _⟩
  | some ad =>
    have HC := Lib.hid hr0
    clear hr0 h
    have HO : Hid (Kd.R (Kd.int .u8) 5 (w.alloc (.cells #[] 5)) w.heap.size (fun _ => True) (.slice (some ⟨w.heap.size, 0, none⟩) 0 0) []) := Lib.hid (R_of_block (xs := []) (blk_new w (.cells #[] 5)) (Nat.le_refl _) trivial (by simp))
    go_enter Try.func38, Try.ntmps38
    go_wp2_with (at_builtin; refine Kd.R_append_rows (Kd.int .u8) (w0 := w) w.heap.size rfl (.tmp 5) (.tmp 6) 44 5 (.int .u8 0) 1 rfl Try.underlying44 info5 rfl (by decide) (by omega) (.slice (some ⟨w.heap.size, 0, none⟩) 0 0) [] l0 _ _ c0 (fun _ => True) (fun _ => False) rfl rfl HO.out (Kd.C_alloc HC.out _) (fun _ _ h => h) (fun _ h => h.elim) (fun _ _ => trivial) ((Below.refl _ w).alloc (Nat.le_refl _) _) (by simp) (by simp; omega) ?_; intro v1 w1 hown hb1 hg hat)
    obtain ⟨A1, c1, rfl⟩ := Kd.R_slice hown
    go_wp2
    go_ret
    exact ⟨_, rfl, by simpa using hown, hb1⟩
end Go.Proofs.Ytppjeikkodjjhaa.Given
