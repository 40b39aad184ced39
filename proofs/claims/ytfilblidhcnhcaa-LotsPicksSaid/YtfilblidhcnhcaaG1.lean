/- (*Lot).path and (*Lot).Call of package lots: what each answers and what it leaves in the lot, for every state. -/
import Derived.Test.YtfilblidhcnhcaaPLotsFnsx3
import Derived.Test.YtfilblidhcnhcaaBaseIn
import Derived.Test.YtfilblidhcnhcaaRangeW
import Derived.Lib.Hide
import Derived.Shelf.Abstract
import Derived.Shelf.RegionOpen
import Derived.TacticsInMore
import Derived.LoopNIn
import Derived.LoopIn
import Derived.BigRegionIn
import Derived.Outline
namespace Go.Proofs.Ytfilblidhcnhcaa.Given
open Go.RowKit Go.Shelf Go.Proofs.YtfilblidhcnhcaaW.PrintWords Go.Proofs.YtfilblidhcnhcaaW.PrintLast Go.Proofs.YtfilblidhcnhcaaBase Go.Proofs.Ytfilblidhcnhcaa.PLotsFns
set_option linter.unusedVariables false
set_option linter.unusedSimpArgs false
attribute [local go_sem] Oper.semAt_some

/-- a lot's state behind a draw, and the draw below n -/
def stp (s : Int) : Int := Go.bits .and .i64 (wrap64 (wrap64 (s * 1664525) + 1013904223)) 4294967295
def drw (s n : Int) : Int := if n < 1 then 0 else (stp s / 256).tmod n
/-- the state behind j draws; j draws below n -/
def stpN (s : Int) : Nat → Int
  | 0 => s
  | j + 1 => stp (stpN s j)
def drawL (s n : Int) : Nat → List Int
  | 0 => []
  | j + 1 => drawL s n j ++ [drw (stpN s j) n]
theorem drawL_length (s n : Int) : ∀ j, (drawL s n j).length = j
  | 0 => rfl
  | j + 1 => by simp [drawL, drawL_length s n j]

theorem mask_nonneg (x : Int) : 0 ≤ Go.bits .and .i64 x 4294967295 := by
  unfold Go.bits
  have h2 : (BitVec.ofInt IntKind.i64.bits 4294967295).toNat = 4294967295 := by decide
  have h1 : (BitVec.ofInt IntKind.i64.bits x &&& BitVec.ofInt IntKind.i64.bits 4294967295).toNat ≤ 4294967295 := by
    rw [BitVec.toNat_and, h2]
    exact Nat.and_le_right
  simp only
  generalize (BitVec.ofInt IntKind.i64.bits x &&& BitVec.ofInt IntKind.i64.bits 4294967295).toNat = y at h1 ⊢
  rw [IntKind.wrap_i64]
  omega
theorem stp_nonneg (s : Int) : 0 ≤ stp s := mask_nonneg _
theorem drw_range (s n : Int) (hn : 1 ≤ n) : 0 ≤ drw s n ∧ drw s n < n := by
  unfold drw
  rw [if_neg (by omega)]
  have := stp_nonneg s
  rw [Int.tmod_eq_emod_of_nonneg (by omega)]
  exact ⟨Int.emod_nonneg _ (by omega), Int.emod_lt_of_pos _ (by omega)⟩

/-- the lot at block g is in state s -/
def Lotted (W : World) (g : Nat) (s : Int) : Prop := W.heap[g]? = some (.cells #[.int .i64 s] 44 (0, 0))
theorem Lotted.cell {W : World} {g : Nat} {s : Int} (h : Lotted W g s) : W.cell? ⟨g, 0, none⟩ = some (.int .i64 s) := (blk_cell h 0).trans rfl
theorem Lotted.frozen {W : World} {g : Nat} {s : Int} (h : Lotted W g s) : W.frozen? ⟨g, 0, none⟩ = false := blk_frozen h 0
theorem Lotted.set {W : World} {g : Nat} {s : Int} (h : Lotted W g s) (t : Int) : Lotted (W.setCell ⟨g, 0, none⟩ (.int .i64 t)) g t := by
  have := blk_set h 0 (.int .i64 t)
  unfold Lotted
  simpa using this

theorem Lotted.alloc {W : World} {g : Nat} {s : Int} (h : Lotted W g s) (o : Obj) : Lotted (W.alloc o) g s := blk_alloc h o
theorem Lotted.below {W V : World} {g : Nat} {s : Int} (h : Lotted W g s) (hb : Below W.heap.size W V) : Lotted V g s := (hb.block g (blk_lt h)).trans h

set_option maxHeartbeats 400000 in
theorem next_any (b : Nat) (s n : Int) (w : World) (h : Lotted w b s) :
    Calls Try.prog 10 #[.pointer (some ⟨b, 0, none⟩), .int .i64 n] w fun e w' => e = .returned (.int .i64 (drw s n)) ∧ w.setCell ⟨b, 0, none⟩ (.int .i64 (stp s)) = w' := by
  have hc := h.cell
  have hf := h.frozen
  clear h
  by_cases hn : n < 1
  · go_enter Try.func10, Try.ntmps10
    go_wp2
    go_ret
    exact ⟨by simp [drw, hn], rfl⟩
  · go_enter Try.func10, Try.ntmps10
    go_wp2
    go_ret
    exact ⟨by rw [drw, if_neg (by omega)]; rfl, rfl⟩

/-- a draw below n -/
abbrev Drw (n : Int) : Type := { x : Int // 0 ≤ x ∧ x < n }
abbrev encD (n : Int) (x : Drw n) : Array Value := #[.int .i64 x.val]
def WrLot (g : Nat) (A B : World) : Prop := ∃ s : Int, B = A.setCell ⟨g, 0, none⟩ (.int .i64 s)

structure DrawsG (Bk Bl Bn g : Nat) (k n : Int) (G : World → Prop) (Kp : World → World → Prop) : Prop where
  k : ∀ W, G W → W.cell? ⟨Bk, 0, none⟩ = some (.int .i64 k)
  l : ∀ W, G W → W.cell? ⟨Bl, 0, none⟩ = some (.pointer (some ⟨g, 0, none⟩))
  n : ∀ W, G W → W.cell? ⟨Bn, 0, none⟩ = some (.int .i64 n)
  set : ∀ W v, G W → G (W.setCell ⟨g, 0, none⟩ v)
  keep : ∀ A B, G A → Kp A B → G B
  lot : ∀ A B, Kp A B → B.heap[g]? = A.heap[g]?

set_option maxRecDepth 100000 in
set_option maxHeartbeats 2000000 in
theorem draws1_in (m : Nat) (hm : 1 ≤ m) (lr Bk Bl Bn g K : Nat) (n s : Int) (hn : 1 ≤ n) (hK : (K : Int) ≤ 9223372036854775807)
    (G : World → Prop) (Kp : World → World → Prop) (hG : DrawsG Bk Bl Bn g K n G Kp)
    (J Jx : List (Drw n) → World → Prop) (hJw : ∀ p A B, J p A → WrLot g A B → J p B)
    (hY : ∀ pre x W, J pre W → pre.length < K → YieldAt Fence.wide (m - 1) Try.prog lr (encD n x) W fun e W' =>
      (e = .returned (.bool true) ∧ J (pre ++ [x]) W' ∧ Kp W W') ∨ (e = .returned (.bool false) ∧ Jx (pre ++ [x]) W' ∧ Kp W W'))
    (W : World) (hGW : G W) (hlot : Lotted W g s) (h0 : J [] W) :
    CallsIn Fence.wide m Try.prog 23 #[.func (.yield lr) #[] #[], .pointer (some ⟨Bk, 0, none⟩), .pointer (some ⟨Bl, 0, none⟩), .pointer (some ⟨Bn, 0, none⟩)] W fun e W' => (∃ v, e = .returned v) ∧
      ((∃ ys, (ys.map Subtype.val = drawL s n K ∧ Lotted W' g (stpN s K)) ∧ J ys W') ∨ (∃ pre, True ∧ Jx pre W')) := by
  refine callsIn_of_wp Try.func23 rfl trivial ?_ rfl
  simp only [Try.ntmps23, List.size_toArray, List.length_cons, List.length_nil, Nat.reduceAdd, Nat.reduceSub, Array.replicate_succ, Array.replicate_zero, List.push_toArray, List.append_toArray, List.nil_append, List.cons_append]
  have hBk := hG.k W hGW
  gi_wp2
  gi_loopw [6] (fun i wr => ∃ (j : Nat) (pre : List (Drw n)), j ≤ K ∧ i = .int .i64 (j : Int) ∧ Hid (pre.map Subtype.val = drawL s n j) ∧ J pre wr ∧ G wr ∧ Lotted wr g (stpN s j)) (fun i _ => K - (intOf i).toNat)
  case atStart =>
    exact ⟨0, [], by omega, rfl, Lib.hid rfl, h0, hGW, hlot⟩
  case round =>
    obtain ⟨j, pre, hj, rfl, HP, hJs, hnx, hlt⟩ := hrel
    have hBl' := hG.l wr hnx
    have hBn' := hG.n wr hnx
    by_cases hjK : j < K
    · have hpl : pre.length < K := by
        have := congrArg List.length HP.out
        rw [List.length_map, drawL_length] at this
        omega
      have HL := Lib.hid hlt
      have hrg := drw_range (stpN s j) n hn
      obtain ⟨x, hx⟩ : ∃ x : Drw n, x.val = drw (stpN s j) n := ⟨⟨_, hrg⟩, rfl⟩
      have hj' : (j : Int) < K := by omega
      have HX : Hid (encD n x = #[.int .i64 (drw (stpN s j) n)]) := Lib.hid (by unfold encD; rw [hx])
      have HX0 := Lib.hid hx
      clear hlt hrg hx
      gi_wp2_with (refine ⟨trivial, ?_⟩; gi_at_call 10; refine (callsIn_wide.2 (next_any g _ _ _ HL.out)).mono ?_; rintro e w' ⟨rfl, rfl⟩; obtain ⟨fn, tmps, assign, body, hy, hR⟩ := hY pre x (wr.setCell ⟨g, 0, none⟩ (.int .i64 (stp (stpN s j)))) (hJw _ _ _ hJs ⟨_, rfl⟩) hpl; rw [HX.out] at hy; have HR := Lib.hid hR; clear hR)
      refine HR.out.mono ?_
      rintro e W3 (⟨rfl, hJ3, hk3⟩ | ⟨rfl, hJx3, hk3⟩)
      · clear hy
        gi_wp2
        go_roundw
        case rel =>
          refine ⟨j + 1, pre ++ [x], by omega, by first | (congr 1; done) | (congr 1; omega), Lib.hid ?_, hJ3, hG.keep _ _ (hG.set _ _ hnx) hk3, ?_⟩
          · rw [List.map_append, HP.out]
            simp [drawL, HX0.out]
          · exact (hG.lot _ _ hk3).trans (HL.out.set _)
        case measure => simp [intOf]; omega
      · clear hy
        gi_wp2
        refine bodyPost_ret (results_none rfl _ _ _) rfl ?_
        exact ⟨⟨_, rfl⟩, .inr ⟨_, trivial, hJx3⟩⟩
    · obtain rfl : j = K := by omega
      have HL := Lib.hid hlt
      clear hlt
      gi_wp2
      all_goals
        go_end0
        exact ⟨⟨_, rfl⟩, .inl ⟨pre, ⟨HP.out, HL.out⟩, hJs⟩⟩

theorem draws_in (g : Nat) (k n : Int) (w : World) :
    Calls Try.prog 21 #[.pointer (some ⟨g, 0, none⟩), .int .i64 k, .int .i64 n] w fun e w' => e = .returned (.func (.func 23) #[] #[.pointer (some ⟨w.heap.size + 1, 0, none⟩), .pointer (some ⟨w.heap.size, 0, none⟩), .pointer (some ⟨w.heap.size + 2, 0, none⟩)]) ∧ ((w.alloc (.cells #[.pointer (some ⟨g, 0, none⟩)] 24)).alloc (.cells #[.int .i64 k] 3)).alloc (.cells #[.int .i64 n] 3) = w' := by
  go_enter Try.func21, Try.ntmps21
  go_wp2
  go_ret
  exact ⟨rfl, rfl⟩

/-- the parts of a path, one after the other -/
def partOf (x : Int) : ByteArray := ⟨#[47, 97 + UInt8.ofNat x.toNat]⟩
def pathOf (l : List Int) : ByteArray := l.foldl (fun s x => s ++ partOf x) ⟨#[]⟩
def pathLen (s : Int) : Nat := (drw s 2 + 1).toNat
def lots_Lot_path.f (s0_0 : Int) : Option (ByteArray × Int) := some (pathOf (drawL (stp s0_0) 4 (pathLen s0_0)), stpN (stp s0_0) (pathLen s0_0))

theorem partOf_size (x : Int) : (partOf x).size = 2 := rfl
theorem foldl_size (l : List Int) : ∀ s : ByteArray, (l.foldl (fun s x => s ++ partOf x) s).size = s.size + 2 * l.length := by
  induction l with
  | nil => intro s; simp
  | cons x l ih => intro s; rw [List.foldl_cons, ih, ByteArray.size_append, partOf_size]; simp; omega
theorem pathOf_size (l : List Int) : (pathOf l).size = 2 * l.length := by
  unfold pathOf
  rw [foldl_size]
  simp [ByteArray.size]
theorem pathOf_snoc (l : List Int) (x : Int) : pathOf (l ++ [x]) = pathOf l ++ partOf x := by
  unfold pathOf
  rw [List.foldl_append]
  rfl
theorem part_eq (x : Int) (h0 : 0 ≤ x) (h1 : x < 4) : (⟨#[47]⟩ : ByteArray) ++ (⟨#[97, 98, 99, 100]⟩ : ByteArray).extract x.toNat (x + 1).toNat = partOf x := by
  obtain rfl | rfl | rfl | rfl : x = 0 ∨ x = 1 ∨ x = 2 ∨ x = 3 := by omega
  all_goals rfl

theorem _root_.Go.Proofs.YtfilblidhcnhcaaW.PrintWords.KeepBut.setNew {w W : World} {g : Nat} {row : Option Nat} (h : KeepBut w W g row) {p : Addr} (hp : w.heap.size ≤ p.block) (u : Value) : KeepBut w (W.setCell p u) g row :=
  ⟨by have := h.1; rw [World.size_setCell]; exact this, fun i hi h1 h2 => (Below.heap_setCell W p u i (by omega)).trans (h.2 i hi h1 h2)⟩
theorem ownFrom_keepBut {β : Type} {w : World} {g B : Nat} (hB : w.heap.size ≤ B) : OwnFrom B (fun (_ : β) W => KeepBut w W g none) := fun _ X Y row hs hg hr =>
  hs.trans (KeepBut.of_grown hg g) (by
    cases row with
    | none => exact .inl rfl
    | some b => exact .inr ⟨b, rfl, by have := (hr b rfl).1; omega⟩)

set_option maxRecDepth 100000 in
set_option maxHeartbeats 2000000 in
theorem lots_Lot_path.calls (g : Nat) (s0_0 : Int) (r1 : ByteArray) (r2 : Int) (w0 w : World) (hI : IsS44 w0 w g s0_0) (hB : Below w0.heap.size w0 w) (h : lots_Lot_path.f s0_0 = some (r1, r2)) :
    Calls Try.prog 20 #[.pointer (some ⟨g, 0, none⟩)] w fun e w' => e = .returned (.string r1) ∧ IsS44 w0 w' g r2 ∧ Below w0.heap.size w0 w' ∧ KeepBut w w' g none := by
  have hres := Option.some.inj h
  obtain ⟨hlot, hge⟩ := hI
  have hlt := blk_lt hlot
  have HL : Hid (Lotted w g s0_0) := Lib.hid hlot
  have HB := Lib.hid hB
  have hr2 := drw_range s0_0 2 (by omega)
  obtain ⟨K, hK⟩ : ∃ K : Nat, (K : Int) = drw s0_0 2 + 1 := ⟨pathLen s0_0, by unfold pathLen; omega⟩
  have hKp : pathLen s0_0 = K := by unfold pathLen; omega
  have hK2 : K ≤ 2 := by omega
  rw [hKp] at hres
  obtain ⟨hd0, hd1⟩ := hr2
  obtain ⟨d, hd⟩ : ∃ d, drw s0_0 2 = d := ⟨_, rfl⟩
  rw [hd] at hd0 hd1 hK
  have HD := Lib.hid hd
  have HK := Lib.hid hK
  have HRES := Lib.hid hres
  clear h hres hlot hB hK hKp hd
  refine (callsIn_wide (n := 9)).1 ?_
  refine callsIn_of_wp_marks Try.func20 rfl trivial ?_ rfl
  simp only [Try.ntmps20, List.size_toArray, List.length_cons, List.length_nil, Nat.reduceAdd, Nat.reduceSub, Array.replicate_succ, Array.replicate_zero, List.push_toArray, List.append_toArray, List.nil_append, List.cons_append]
  gi_wp2_with (refine ⟨trivial, ?_⟩; first | (gi_at_call 10; (with_reducible refine (callsIn_wide.2 (next_any g s0_0 2 _ (HL.out.alloc _))).mono ?_); rintro e w' ⟨rfl, rfl⟩; rw [HD.out]) | (gi_at_call 21; (with_reducible refine (callsIn_wide.2 (draws_in g (d + 1) 4 _)).mono ?_); rintro e w' ⟨rfl, rfl⟩))
  obtain ⟨w5, hw5⟩ : ∃ w5, (((((w.setCell ⟨g, 0, none⟩ (.int .i64 (stp s0_0))).alloc (.cells #[.string ⟨#[]⟩] 9)).alloc (.cells #[.pointer (some ⟨g, 0, none⟩)] 24)).alloc (.cells #[.int .i64 (d + 1)] 3)).alloc (.cells #[.int .i64 4] 3)) = w5 := ⟨_, rfl⟩
  have hsz : w5.heap.size = w.heap.size + 4 := by rw [← hw5]; simp
  have hB5 : Below w0.heap.size w0 w5 := by
    rw [← hw5]
    have h0 := HB.out.size
    exact (((((HB.out.setCell (p := ⟨g, 0, none⟩) hge _).alloc (by simp; omega) _).alloc (by simp; omega) _).alloc (by simp; omega) _).alloc (by simp; omega) _)
  have hK5 : KeepBut w w5 g none := by
    rw [← hw5]
    exact keep_alloc (keep_alloc (keep_alloc (keep_alloc ((KeepBut.refl w g none).set_ 0 _) _) _) _) _
  have hL5 : Lotted w5 g (stp s0_0) := by
    rw [← hw5]
    exact ((((HL.out.set _).alloc _).alloc _).alloc _).alloc _
  have q0 : Boxed w5 w.heap.size 9 (.string ⟨#[]⟩) := by
    rw [← hw5]
    have := Boxed.new (w.setCell ⟨g, 0, none⟩ (.int .i64 (stp s0_0))) 9 (.string ⟨#[]⟩)
    rw [World.size_setCell] at this
    exact ((this.alloc _).alloc _).alloc _
  have q1 : Boxed w5 (w.heap.size + 1) 24 (.pointer (some ⟨g, 0, none⟩)) := by
    rw [← hw5]
    have := Boxed.new ((w.setCell ⟨g, 0, none⟩ (.int .i64 (stp s0_0))).alloc (.cells #[.string ⟨#[]⟩] 9)) 24 (.pointer (some ⟨g, 0, none⟩))
    rw [World.size_alloc, World.size_setCell] at this
    exact (this.alloc _).alloc _
  have q2 : Boxed w5 (w.heap.size + 1 + 1) 3 (.int .i64 K) := by
    rw [← hw5, HK.out]
    have := Boxed.new (((w.setCell ⟨g, 0, none⟩ (.int .i64 (stp s0_0))).alloc (.cells #[.string ⟨#[]⟩] 9)).alloc (.cells #[.pointer (some ⟨g, 0, none⟩)] 24)) 3 (.int .i64 (d + 1))
    rw [World.size_alloc, World.size_alloc, World.size_setCell] at this
    exact this.alloc _
  have q3 : Boxed w5 (w.heap.size + 1 + 2) 3 (.int .i64 4) := by
    rw [← hw5]
    have := Boxed.new ((((w.setCell ⟨g, 0, none⟩ (.int .i64 (stp s0_0))).alloc (.cells #[.string ⟨#[]⟩] 9)).alloc (.cells #[.pointer (some ⟨g, 0, none⟩)] 24)).alloc (.cells #[.int .i64 (d + 1)] 3)) 3 (.int .i64 4)
    rwa [World.size_alloc, World.size_alloc, World.size_alloc, World.size_setCell] at this
  rw [hw5]
  clear hw5
  have hG : DrawsG (w.heap.size + 1 + 1) (w.heap.size + 1) (w.heap.size + 1 + 2) g K 4
      (fun W => Boxed W (w.heap.size + 1) 24 (.pointer (some ⟨g, 0, none⟩)) ∧ Boxed W (w.heap.size + 1 + 1) 3 (.int .i64 K) ∧ Boxed W (w.heap.size + 1 + 2) 3 (.int .i64 4))
      (fun A B => (∀ b, w.heap.size + 1 ≤ b → b < w.heap.size + 4 → B.heap[b]? = A.heap[b]?) ∧ B.heap[g]? = A.heap[g]?) :=
    ⟨fun W h => h.2.1.cell, fun W h => h.1.cell, fun W h => h.2.2.cell, fun W v h => ⟨h.1.other (by omega) _, h.2.1.other (by omega) _, h.2.2.other (by omega) _⟩,
      fun A B h k => ⟨(k.1 _ (by omega) (by omega)).trans h.1, (k.1 _ (by omega) (by omega)).trans h.2.1, (k.1 _ (by omega) (by omega)).trans h.2.2⟩, fun A B k => k.2⟩
  refine wpIn_rangeFunc_W (F := Fence.wide) rfl (by omega) (gf := 23) (lb := #[.pointer (some ⟨w.heap.size + 1 + 1, 0, none⟩), .pointer (some ⟨w.heap.size + 1, 0, none⟩), .pointer (some ⟨w.heap.size + 1 + 2, 0, none⟩)]) rfl trivial (enters_of Try.func23 (by kernel_rfl) rfl)
    (encs := encD 4) (Wr := WrLot g) (S := fun ys W => ys.map Subtype.val = drawL (stp s0_0) 4 K ∧ Lotted W g (stpN (stp s0_0) K)) (Sp := fun _ _ => True) (N := K) (w0 := w5)
    (fun l J Jx W hW hJ _ hJw hY h0 => draws1_in 8 (by omega) l _ _ _ g K 4 (stp s0_0) (by omega) (by omega) _ _ hG J Jx hJw hY W
      ⟨(hW.block _ (by omega)).trans q1, (hW.block _ (by omega)).trans q2, (hW.block _ (by omega)).trans q3⟩ (hL5.below hW) h0)
    (fun h k => ⟨fun b h1 h2 => (k.1 b h1 h2).trans (h.1 b h1 h2), k.2.trans h.2⟩)
    (fun W l o o' hl h1 h2 h3 => ⟨fun b hb1 hb2 => World.putObj_heap_other (by omega), World.putObj_heap_other (by omega)⟩)
    (fun A B h => by obtain ⟨s, rfl⟩ := h; exact KeepsOthers.setCell _ _ _) (Below.refl _ _) (fun _ => rfl)
    (fun pre W => (Boxed W w.heap.size 9 (.string (pathOf (pre.map Subtype.val)))) ∧ KeepBut w W g none ∧ Below w0.heap.size w0 W)
    (fun c pre W => False)
    (OwnFrom.and ((boxed_own _ _ _).from _) (OwnFrom.and (ownFrom_keepBut (by omega)) (ownFrom_below (Nat.le_refl _) (by have := HB.out.size; omega))))
    (fun s A B hs hw => by obtain ⟨t, rfl⟩ := hw; exact ⟨hs.1.other (by omega) _, hs.2.1.set_ 0 _, hs.2.2.setCell (p := ⟨g, 0, none⟩) hge _⟩)
    (fun c s A B row hs hg hr => hs)
    (OwnFrom.and (ownFrom_pure _ _) (Own.from (boxed_own g 44 (fun (_ : List (Drw 4)) => .int .i64 (stpN (stp s0_0) K))) _))
    (fun s A B row hs hg hr => trivial)
    ⟨q0, hK5, hB5⟩
    (fun x => { tmps := #[.pointer (some ⟨g, 0, none⟩), undef, .string ⟨#[]⟩, .pointer (some ⟨w.heap.size, 0, none⟩), .int .i64 x.val, .pointer (some ⟨g, 0, none⟩), .pointer (some ⟨g, 0, none⟩), .int .i64 d, .int .i64 (d + 1), .func (.func 23) #[] #[.pointer (some ⟨w.heap.size + 1 + 1, 0, none⟩), .pointer (some ⟨w.heap.size + 1, 0, none⟩), .pointer (some ⟨w.heap.size + 1 + 2, 0, none⟩)], .int .i64 x.val, undef, undef, undef, undef, undef, undef, undef, undef], defers := [] }) ?assign ?body ?done ?stop
  case assign =>
    intro l x W K hK
    gi_wp2
    exact hK
  case body =>
    rintro l pre ⟨y, hy0, hy1⟩ W ⟨hbx, hkb, hbb⟩ hlen
    have hps := pathOf_size (pre.map Subtype.val)
    rw [List.length_map] at hps
    have hcell := hbx.cell
    have hfro := hbx.frozen
    obtain ⟨str, hstr⟩ : ∃ str, pathOf (pre.map Subtype.val) = str := ⟨_, rfl⟩
    rw [hstr] at hcell hps
    have HSTR := Lib.hid hstr
    have hss : str.size ≤ 4 := by omega
    have hy2 : y + 1 ≤ 4 := by omega
    clear hps hstr
    dsimp only
    have hy4 : y = 0 ∨ y = 1 ∨ y = 2 ∨ y = 3 := by omega
    have HX := Lib.hid hbx
    have HKB := Lib.hid hkb
    have HBB := Lib.hid hbb
    have hge2 : w0.heap.size ≤ w.heap.size := HB.out.size
    clear hbx hkb hbb
    rcases hy4 with rfl | rfl | rfl | rfl
    all_goals
      gi_wp2
      gi_region
      all_goals
        refine ⟨((KeepsOthers.setCell W _ _).trans (KeepsOthers.drew _)).from _, ⟨fun b h1 h2 => Below.heap_setCell W _ _ b (by simp only; omega), Below.heap_setCell W _ _ g (by simp only; omega)⟩, ?_, ?_, ?_⟩
        · rw [List.map_append, List.map_cons, List.map_nil, pathOf_snoc, HSTR.out]
          exact HX.out.set _
        · exact keep_drew ((HKB.out.setNew (Nat.le_refl _) _))
        · exact below_drew (HBB.out.setCell (p := ⟨w.heap.size, 0, none⟩) hge2 _)
  case done =>
    rintro D ys W hD ⟨hys, hlt5⟩ ⟨hbx, hkb, hbb⟩ hK
    have hcell := hbx.cell
    have hres := HRES.out
    obtain ⟨rfl, rfl⟩ : pathOf (drawL (stp s0_0) 4 K) = r1 ∧ stpN (stp s0_0) K = r2 := by simpa only [Prod.mk.injEq] using hres
    rw [hys] at hcell
    have HK2 := Lib.hid hkb
    have HB2 := Lib.hid hbb
    have HL5 := Lib.hid hlt5
    clear hres hys hbx hkb hbb hlt5
    gi_wp2
    refine ⟨by simp, .inl ⟨_, _, rfl, run_takeDeferred hK, ?_⟩⟩
    have hgD : g ≠ D := by omega
    refine ⟨.string (pathOf (drawL (stp s0_0) 4 K)), ?_, rfl, ⟨(World.putObj_heap_other hgD).trans HL5.out, hge⟩, HB2.out.trans (belowK_b (w := w) HB.out.size W D _ _ (by omega) hK rfl rfl), HK2.out.trans (KeepBut.of_grown (grownBy_putObj' _ D (.deferred none)) g) (.inr ⟨D, rfl, by omega⟩)⟩
    simp [results, Try.f20, go_sem]
  case stop =>
    rintro D c pre W hD hpre h hK
    exact h.elim
end Go.Proofs.Ytfilblidhcnhcaa.Given
