/- dinode.Read: what it answers, for all bytes. -/
import Derived.Test.YtdjncafofcpoiaaG3
import Derived.Test.YtdjncafofcpoiaaPEqualx1
import Derived.Laws.Rows
namespace Go.Proofs.Ytdjncafofcpoiaa.Given
open Go.RowKit Go.Proofs.YtdjncafofcpoiaaW.PrintWords Go.Proofs.YtdjncafofcpoiaaW.PrintLast Go.Proofs.YtdjncafofcpoiaaW.PrintMore Go.Proofs.YtdjncafofcpoiaaBase Go.Proofs.Ytdjncafofcpoiaa.PDFns Go.Proofs.Ytdjncafofcpoiaa.PEqual
set_option linter.unusedVariables false
set_option linter.unusedSimpArgs false
attribute [local go_sem ↓] zero24

theorem str_inj {xs ys : List Int} (hx : ∀ x ∈ xs, 0 ≤ x ∧ x < 256) (hy : ∀ x ∈ ys, 0 ≤ x ∧ x < 256) (h : (strOfNums xs).toList = (strOfNums ys).toList) : xs = ys := by
  rw [ByteArray.toList_eq, ByteArray.toList_eq, strOfNums_data, strOfNums_data] at h
  have hl : xs.length = ys.length := by have := congrArg List.length h; simpa using this
  apply List.ext_getElem hl
  intro j h1 h2
  have := congrArg (fun l => l[j]?) h
  simp only [List.getElem?_map, List.getElem?_eq_getElem h1, List.getElem?_eq_getElem h2, Option.map_some] at this
  have := congrArg UInt8.toNat (Option.some.inj this)
  have a := hx _ (List.getElem_mem h1)
  have b := hy _ (List.getElem_mem h2)
  simp at this
  omega
/-- is a row of bytes an inode? -/
def isI (l : List Int) : Bool := decide (l.length = 64) && (okI (readI l) && (packI (readI l) == l))
def Bytes (l : List Int) : Prop := ∀ x ∈ l, 0 ≤ x ∧ x < 256
theorem equal_tells {l : List Int} (hb : Bytes l) (x : Ino) : bytes_Equal.f (packI x) l = some (packI x == l) := by
  unfold bytes_Equal.f
  congr 1
  by_cases h : packI x = l
  · rw [h]; simp
  · rw [beq_eq_false_iff_ne.2 h, beq_eq_false_iff_ne.2 (fun e => h (str_inj (pack_rng x) hb e))]
theorem cutB (A : Option Addr) (c : Nat) (l : List Int) (n0 : Nat) (hl : l.length = n0) (hc : n0 ≤ c) (a n : Nat) (h : a + n ≤ n0) :
    ∃ A' : Option Addr, (∀ W : World, (Instr.slice 26 (.slice A n0 c) (some (.int .i64 (a : Int))) (some (.int .i64 ((a + n : Nat) : Int))) none).run Try.prog W = .ok (.slice A' n (c - a)) W) ∧
      (∀ W : World, Kd.C (Kd.int .u8) W A n0 l → Kd.C (Kd.int .u8) W A' n ((l.take (a + n)).drop a)) ∧ n ≤ c - a := by
  subst hl
  obtain ⟨i0, hi, _, hsz, _⟩ := info_parts info5
  obtain ⟨A', h1, h2, h3⟩ := print_mid_of (P := Try.prog) (Value.int .u8) 0 26 5 .i64 .i64 Try.underlying26 hi hsz A c l (a : Int) ((a + n : Nat) : Int) (by omega) (by omega) (by omega) hc
  have hln : ((l.take (a + n)).drop a).length = n := by rw [List.length_drop, List.length_take]; omega
  simp only [Int.toNat_natCast] at h1 h2 h3
  rw [hln] at h1 h2 h3
  exact ⟨A', h1, fun W hC => Kd.C_of_reads (h1 := fun _ => rfl) (h2 W (Kd.reads_of_C hC)), h3⟩
theorem get_any (A : Option Addr) (c n : Nat) (xs : List Int) (hx : xs.length = n) (hc : n ≤ c) (r : Int) (W : World) (hC : Kd.C (Kd.int .u8) W A n xs) (h : dinode_Get_int.f 9 xs = some r) :
    Calls Try.prog 23 #[.slice A n c] W fun e w' => e = .returned (.int .i64 r) ∧ Drawn0 W w' := by
  subst hx
  exact dinode_Get_int.calls 9 A c xs r W hC hc h
theorem build24 (w : World) (k l s n m : Int) : (Instr.build 24 #[(0, .int .i64 k), (1, .int .i64 l), (2, .int .i64 s), (4, .int .i64 n), (5, .int .i64 m)]).run Try.prog w = .ok (.agg #[.int .i64 k, .int .i64 l, .int .i64 s, .int .i64 0, .int .i64 0, .int .i64 0, .int .i64 0, .int .i64 0, .int .i64 0, .int .i64 0, .int .i64 0, .int .i64 n, .int .i64 m]) w := run_build w 24 _ _ (by kernel_rfl)
attribute [local go_sem ↓] build24

/-- the inode that is being read, with k of its direct pointers -/
def inoD (l : List Int) (k : Nat) : Ino := ⟨at2 l 0, at2 l 2, at4 l 4, if 0 < k then at4 l 8 else 0, if 1 < k then at4 l 12 else 0, if 2 < k then at4 l 16 else 0, if 3 < k then at4 l 20 else 0, if 4 < k then at4 l 24 else 0, if 5 < k then at4 l 28 else 0, if 6 < k then at4 l 32 else 0, if 7 < k then at4 l 36 else 0, at4 l 40, at4 l 44⟩
theorem inoD_zero (l : List Int) : inoD l 0 = ⟨at2 l 0, at2 l 2, at4 l 4, 0, 0, 0, 0, 0, 0, 0, 0, at4 l 40, at4 l 44⟩ := by simp [inoD]
theorem inoD_all (l : List Int) : inoD l 8 = readI l := rfl
theorem inoD_set (l : List Int) (k : Nat) (hk : k < 8) : (inoD l k).cells.setIfInBounds (3 + k) (.int .i64 (at4 l (8 + 4 * k))) = (inoD l (k + 1)).cells := by
  match k, hk with
  | 0, _ => rfl
  | 1, _ => rfl
  | 2, _ => rfl
  | 3, _ => rfl
  | 4, _ => rfl
  | 5, _ => rfl
  | 6, _ => rfl
  | 7, _ => rfl
def ReadP (l : List Int) (w : World) (e : Ending) (w' : World) : Prop := e = .returned (.tuple #[.agg (if isI l = true then readI l else Ino.zero).cells, .int .i64 (if isI l = true then 0 else 5)]) ∧ Below w.heap.size w w'
theorem readP_no {l : List Int} {w w' : World} (h : isI l = false) (hb : Below w.heap.size w w') : ReadP l w (.returned (.tuple #[.agg Ino.zero.cells, .int .i64 5])) w' := ⟨by rw [h]; rfl, hb⟩
theorem readP_yes {l : List Int} {w w' : World} (h : isI l = true) (hb : Below w.heap.size w w') : ReadP l w (.returned (.tuple #[.agg (readI l).cells, .int .i64 0])) w' := ⟨by rw [h]; rfl, hb⟩
theorem info24 : (Try.prog.info? 24).map (·.size) = some 13 := by kernel_rfl

set_option maxRecDepth 100000 in
set_option maxHeartbeats 2000000 in
theorem Read_short (A0 : Option Addr) (c0 : Nat) (l : List Int) (w : World) (hl : l.length ≠ 64) : Calls Try.prog 12 #[.slice A0 l.length c0] w (ReadP l w) := by
  have HNO : Hid (isI l = false) := Lib.hid (by simp [isI, hl])
  have hl' : ((l.length : Int) != 64) = true := by simp; omega
  have hl2 : ((l.length : Int) == 64) = false := by simp; omega
  clear hl
  go_enter Try.func12, Try.ntmps12
  go_wp2
  exact bodyPost_ret (results_ct rfl _ _ w.heap.size 24 Ino.zero.cells (0, 0) _ rfl (by first | exact blk_new _ _ | exact blk_new w _) Try.underlying24 rfl info24) rfl (readP_no HNO.out (by repeat (first | exact Below.refl _ _ | apply pw_below_drewN | apply below_alloc)))

/-- the inode that is being read lies in a block of its own, the result's block is as it was made -/
structure RD (w : World) (B : Nat) (x : Ino) (W : World) : Prop where
  b : W.heap[B]? = some (.cells x.cells 24)
  z : W.heap[w.heap.size]? = some (.cells Ino.zero.cells 24)
  bel : Below w.heap.size w W
  lt : w.heap.size < B
theorem RD.drewN {w : World} {B : Nat} {x : Ino} {W : World} (h : RD w B x W) (n : Nat) : RD w B x (W.drewN n) := ⟨blk_drewN h.b n, blk_drewN h.z n, pw_below_drewN h.bel n, h.lt⟩
theorem RD.below {w : World} {B : Nat} {x : Ino} {W W' : World} (h : RD w B x W) (hb : Below W.heap.size W W') : RD w B x W' := ⟨blk_below h.b hb, blk_below h.z hb, h.bel.trans (hb.mono h.bel.size), h.lt⟩
theorem RD.set {w : World} {B : Nat} {x y : Ino} {W : World} (h : RD w B x W) (j : Nat) (v : Value) (he : x.cells.setIfInBounds j v = y.cells) : RD w B y (W.setCell ⟨B, j, none⟩ v) :=
  ⟨by rw [blk_set h.b, he], blk_far h.z (by have := h.lt; simp only; omega) _, h.bel.setCell (p := ⟨B, j, none⟩) (Nat.le_of_lt h.lt) _, h.lt⟩
theorem RD.built {w V : World} (k l s n m : Int) (h0 : V.heap[w.heap.size]? = some (.cells Ino.zero.cells 24)) (h1 : V.heap[w.heap.size + 1]? = some (.cells Ino.zero.cells 24)) (h2 : Below w.heap.size w V) :
    RD w (w.heap.size + 1) ⟨k, l, s, 0, 0, 0, 0, 0, 0, 0, 0, n, m⟩ (((((((((((((V.setCell ⟨w.heap.size + 1, 0, none⟩ (.int .i64 k)).setCell ⟨w.heap.size + 1, 1, none⟩ (.int .i64 l)).setCell ⟨w.heap.size + 1, 2, none⟩ (.int .i64 s)).setCell ⟨w.heap.size + 1, 3, none⟩ (.int .i64 0)).setCell ⟨w.heap.size + 1, 4, none⟩ (.int .i64 0)).setCell ⟨w.heap.size + 1, 5, none⟩ (.int .i64 0)).setCell ⟨w.heap.size + 1, 6, none⟩ (.int .i64 0)).setCell ⟨w.heap.size + 1, 7, none⟩ (.int .i64 0)).setCell ⟨w.heap.size + 1, 8, none⟩ (.int .i64 0)).setCell ⟨w.heap.size + 1, 9, none⟩ (.int .i64 0)).setCell ⟨w.heap.size + 1, 10, none⟩ (.int .i64 0)).setCell ⟨w.heap.size + 1, 11, none⟩ (.int .i64 n)).setCell ⟨w.heap.size + 1, 12, none⟩ (.int .i64 m)) := by
  have hp : ∀ v0 v1 v2 v3 v4 v5 v6 v7 v8 v9 v10 v11 v12 : Value, (((((((((((((Ino.zero.cells.setIfInBounds 0 v0).setIfInBounds 1 v1).setIfInBounds 2 v2).setIfInBounds 3 v3).setIfInBounds 4 v4).setIfInBounds 5 v5).setIfInBounds 6 v6).setIfInBounds 7 v7).setIfInBounds 8 v8).setIfInBounds 9 v9).setIfInBounds 10 v10).setIfInBounds 11 v11).setIfInBounds 12 v12) = #[v0, v1, v2, v3, v4, v5, v6, v7, v8, v9, v10, v11, v12] := by
    intros
    simp only [Ino.cells, List.setIfInBounds_toArray, List.set_cons_zero, List.set_cons_succ]
  refine ⟨?_, (blk_far (blk_far (blk_far (blk_far (blk_far (blk_far (blk_far (blk_far (blk_far (blk_far (blk_far (blk_far (blk_far h0 (p := ⟨w.heap.size + 1, 0, none⟩) (by simp) _) (p := ⟨w.heap.size + 1, 1, none⟩) (by simp) _) (p := ⟨w.heap.size + 1, 2, none⟩) (by simp) _) (p := ⟨w.heap.size + 1, 3, none⟩) (by simp) _) (p := ⟨w.heap.size + 1, 4, none⟩) (by simp) _) (p := ⟨w.heap.size + 1, 5, none⟩) (by simp) _) (p := ⟨w.heap.size + 1, 6, none⟩) (by simp) _) (p := ⟨w.heap.size + 1, 7, none⟩) (by simp) _) (p := ⟨w.heap.size + 1, 8, none⟩) (by simp) _) (p := ⟨w.heap.size + 1, 9, none⟩) (by simp) _) (p := ⟨w.heap.size + 1, 10, none⟩) (by simp) _) (p := ⟨w.heap.size + 1, 11, none⟩) (by simp) _) (p := ⟨w.heap.size + 1, 12, none⟩) (by simp) _), (((((((((((((h2.setCell (p := ⟨w.heap.size + 1, 0, none⟩) (Nat.le_succ _) _).setCell (p := ⟨w.heap.size + 1, 1, none⟩) (Nat.le_succ _) _).setCell (p := ⟨w.heap.size + 1, 2, none⟩) (Nat.le_succ _) _).setCell (p := ⟨w.heap.size + 1, 3, none⟩) (Nat.le_succ _) _).setCell (p := ⟨w.heap.size + 1, 4, none⟩) (Nat.le_succ _) _).setCell (p := ⟨w.heap.size + 1, 5, none⟩) (Nat.le_succ _) _).setCell (p := ⟨w.heap.size + 1, 6, none⟩) (Nat.le_succ _) _).setCell (p := ⟨w.heap.size + 1, 7, none⟩) (Nat.le_succ _) _).setCell (p := ⟨w.heap.size + 1, 8, none⟩) (Nat.le_succ _) _).setCell (p := ⟨w.heap.size + 1, 9, none⟩) (Nat.le_succ _) _).setCell (p := ⟨w.heap.size + 1, 10, none⟩) (Nat.le_succ _) _).setCell (p := ⟨w.heap.size + 1, 11, none⟩) (Nat.le_succ _) _).setCell (p := ⟨w.heap.size + 1, 12, none⟩) (Nat.le_succ _) _), by omega⟩
  refine Eq.trans (blk_set (blk_set (blk_set (blk_set (blk_set (blk_set (blk_set (blk_set (blk_set (blk_set (blk_set (blk_set (blk_set h1 0 _) 1 _) 2 _) 3 _) 4 _) 5 _) 6 _) 7 _) 8 _) 9 _) 10 _) 11 _) 12 _) ?_
  rw [hp]

theorem blk_newAt {X : World} {g : Nat} {o : Obj} (h : X.heap.size = g) : (X.alloc o).heap[g]? = some o := by rw [← h]; exact blk_new X o

theorem RD.made {w X : World} {x : Ino} (hs : X.heap.size = w.heap.size + 1) (h0 : X.heap[w.heap.size]? = some (.cells Ino.zero.cells 24)) (h2 : Below w.heap.size w X) : RD w (w.heap.size + 1) x (X.alloc (.cells x.cells 24)) :=
  ⟨blk_newAt hs, blk_alloc h0 _, h2.alloc (by omega) _, by omega⟩

theorem cells13 {W : World} {B : Nat} {x : Ino} (h : W.heap[B]? = some (.cells x.cells 24)) : W.cell? ⟨B, 0, none⟩ = some (.int .i64 x.k) ∧ W.cell? ⟨B, 1, none⟩ = some (.int .i64 x.l) ∧ W.cell? ⟨B, 2, none⟩ = some (.int .i64 x.s) ∧ W.cell? ⟨B, 3, none⟩ = some (.int .i64 x.d0) ∧ W.cell? ⟨B, 4, none⟩ = some (.int .i64 x.d1) ∧ W.cell? ⟨B, 5, none⟩ = some (.int .i64 x.d2) ∧ W.cell? ⟨B, 6, none⟩ = some (.int .i64 x.d3) ∧ W.cell? ⟨B, 7, none⟩ = some (.int .i64 x.d4) ∧ W.cell? ⟨B, 8, none⟩ = some (.int .i64 x.d5) ∧ W.cell? ⟨B, 9, none⟩ = some (.int .i64 x.d6) ∧ W.cell? ⟨B, 10, none⟩ = some (.int .i64 x.d7) ∧ W.cell? ⟨B, 11, none⟩ = some (.int .i64 x.n) ∧ W.cell? ⟨B, 12, none⟩ = some (.int .i64 x.m) :=
  ⟨(blk_cell h 0).trans rfl, (blk_cell h 1).trans rfl, (blk_cell h 2).trans rfl, (blk_cell h 3).trans rfl, (blk_cell h 4).trans rfl, (blk_cell h 5).trans rfl, (blk_cell h 6).trans rfl, (blk_cell h 7).trans rfl, (blk_cell h 8).trans rfl, (blk_cell h 9).trans rfl, (blk_cell h 10).trans rfl, (blk_cell h 11).trans rfl, (blk_cell h 12).trans rfl⟩
theorem equal_any (A0 : Option Addr) (c0 : Nat) (xs : List Int) (A1 : Option Addr) (c1 : Nat) (l : List Int) (n : Nat) (hl : l.length = n) (hc : n ≤ c1) (r : Bool) (W : World) (h0 : Kd.C (Kd.int .u8) W A0 xs.length xs) (h1 : xs.length ≤ c0) (h2 : Kd.C (Kd.int .u8) W A1 n l) (h : bytes_Equal.f xs l = some r) :
    Calls Try.prog 24 #[.slice A0 xs.length c0, .slice A1 n c1] W fun e w' => e = .returned (.bool r) ∧ Drawn0 W w' := by
  subst hl
  exact bytes_Equal.calls A0 c0 xs A1 c1 l r W h0 h1 h2 hc h
abbrev setsI (V : World) (g : Nat) (x : Ino) : World := (((((((((((((V.setCell ⟨g, 0, none⟩ (.int .i64 x.k)).setCell ⟨g, 1, none⟩ (.int .i64 x.l)).setCell ⟨g, 2, none⟩ (.int .i64 x.s)).setCell ⟨g, 3, none⟩ (.int .i64 x.d0)).setCell ⟨g, 4, none⟩ (.int .i64 x.d1)).setCell ⟨g, 5, none⟩ (.int .i64 x.d2)).setCell ⟨g, 6, none⟩ (.int .i64 x.d3)).setCell ⟨g, 7, none⟩ (.int .i64 x.d4)).setCell ⟨g, 8, none⟩ (.int .i64 x.d5)).setCell ⟨g, 9, none⟩ (.int .i64 x.d6)).setCell ⟨g, 10, none⟩ (.int .i64 x.d7)).setCell ⟨g, 11, none⟩ (.int .i64 x.n)).setCell ⟨g, 12, none⟩ (.int .i64 x.m))
theorem set13 {V : World} {g : Nat} {y : Ino} (x : Ino) (h : V.heap[g]? = some (.cells y.cells 24)) : (setsI V g x).heap[g]? = some (.cells x.cells 24) := by
  have hp : ∀ v0 v1 v2 v3 v4 v5 v6 v7 v8 v9 v10 v11 v12 : Value, (((((((((((((y.cells.setIfInBounds 0 v0).setIfInBounds 1 v1).setIfInBounds 2 v2).setIfInBounds 3 v3).setIfInBounds 4 v4).setIfInBounds 5 v5).setIfInBounds 6 v6).setIfInBounds 7 v7).setIfInBounds 8 v8).setIfInBounds 9 v9).setIfInBounds 10 v10).setIfInBounds 11 v11).setIfInBounds 12 v12) = #[v0, v1, v2, v3, v4, v5, v6, v7, v8, v9, v10, v11, v12] := by
    intros
    simp only [Ino.cells, List.setIfInBounds_toArray, List.set_cons_zero, List.set_cons_succ]
  refine Eq.trans (blk_set (blk_set (blk_set (blk_set (blk_set (blk_set (blk_set (blk_set (blk_set (blk_set (blk_set (blk_set (blk_set h 0 _) 1 _) 2 _) 3 _) 4 _) 5 _) 6 _) 7 _) 8 _) 9 _) 10 _) 11 _) 12 _) ?_
  rw [hp]
theorem below13 {w V : World} {g : Nat} (x : Ino) (h : Below w.heap.size w V) (hg : w.heap.size ≤ g) : Below w.heap.size w (setsI V g x) := (((((((((((((h.setCell (p := ⟨g, 0, none⟩) hg _).setCell (p := ⟨g, 1, none⟩) hg _).setCell (p := ⟨g, 2, none⟩) hg _).setCell (p := ⟨g, 3, none⟩) hg _).setCell (p := ⟨g, 4, none⟩) hg _).setCell (p := ⟨g, 5, none⟩) hg _).setCell (p := ⟨g, 6, none⟩) hg _).setCell (p := ⟨g, 7, none⟩) hg _).setCell (p := ⟨g, 8, none⟩) hg _).setCell (p := ⟨g, 9, none⟩) hg _).setCell (p := ⟨g, 10, none⟩) hg _).setCell (p := ⟨g, 11, none⟩) hg _).setCell (p := ⟨g, 12, none⟩) hg _)

set_option maxRecDepth 100000 in
set_option maxHeartbeats 2000000 in
theorem Read_long (A0 : Option Addr) (c0 : Nat) (l : List Int) (w : World) (hC : Kd.C (Kd.int .u8) w A0 64 l) (hc : 64 ≤ c0) (hb : Bytes l) (hl : l.length = 64) : Calls Try.prog 12 #[.slice A0 64 c0] w (ReadP l w) := by
  have HC := Lib.hid hC
  have HB := Lib.hid hb
  have HL := Lib.hid hl
  have HCC := Lib.hid hc
  have hci : (64 : Int) ≤ (c0 : Int) := by omega
  obtain ⟨S0, r0, q0, z0⟩ := cutB A0 c0 l 64 hl hc 0 2 (by omega)
  replace r0 : ∀ W : World, (Instr.slice 26 (.slice A0 64 c0) (some (.int .i64 0)) (some (.int .i64 2)) none).run Try.prog W = .ok (.slice S0 2 c0) W := r0
  have X0 := Lib.hid (fun W hW => get_any S0 c0 2 _ (by rw [List.length_drop, List.length_take]; omega) z0 (at2 l 0) W (q0 W hW) (get2 4 l hb 0 (by omega)))
  clear q0 z0
  obtain ⟨S1, r1, q1, z1⟩ := cutB A0 c0 l 64 hl hc 2 2 (by omega)
  replace r1 : ∀ W : World, (Instr.slice 26 (.slice A0 64 c0) (some (.int .i64 2)) (some (.int .i64 4)) none).run Try.prog W = .ok (.slice S1 2 (c0 - 2)) W := r1
  have X1 := Lib.hid (fun W hW => get_any S1 (c0 - 2) 2 _ (by rw [List.length_drop, List.length_take]; omega) z1 (at2 l 2) W (q1 W hW) (get2 4 l hb 2 (by omega)))
  clear q1 z1
  obtain ⟨S2, r2, q2, z2⟩ := cutB A0 c0 l 64 hl hc 4 4 (by omega)
  replace r2 : ∀ W : World, (Instr.slice 26 (.slice A0 64 c0) (some (.int .i64 4)) (some (.int .i64 8)) none).run Try.prog W = .ok (.slice S2 4 (c0 - 4)) W := r2
  have X2 := Lib.hid (fun W hW => get_any S2 (c0 - 4) 4 _ (by rw [List.length_drop, List.length_take]; omega) z2 (at4 l 4) W (q2 W hW) (get4 4 l hb 4 (by omega)))
  clear q2 z2
  obtain ⟨S3, r3, q3, z3⟩ := cutB A0 c0 l 64 hl hc 40 4 (by omega)
  replace r3 : ∀ W : World, (Instr.slice 26 (.slice A0 64 c0) (some (.int .i64 40)) (some (.int .i64 44)) none).run Try.prog W = .ok (.slice S3 4 (c0 - 40)) W := r3
  have X3 := Lib.hid (fun W hW => get_any S3 (c0 - 40) 4 _ (by rw [List.length_drop, List.length_take]; omega) z3 (at4 l 40) W (q3 W hW) (get4 4 l hb 40 (by omega)))
  clear q3 z3
  obtain ⟨S4, r4, q4, z4⟩ := cutB A0 c0 l 64 hl hc 44 4 (by omega)
  replace r4 : ∀ W : World, (Instr.slice 26 (.slice A0 64 c0) (some (.int .i64 44)) (some (.int .i64 48)) none).run Try.prog W = .ok (.slice S4 4 (c0 - 44)) W := r4
  have X4 := Lib.hid (fun W hW => get_any S4 (c0 - 44) 4 _ (by rw [List.length_drop, List.length_take]; omega) z4 (at4 l 44) W (q4 W hW) (get4 4 l hb 44 (by omega)))
  clear q4 z4
  obtain ⟨i5, hi5, _, hsz5, _⟩ := info_parts info5
  clear hC hc hb hl
  go_enter Try.func12, Try.ntmps12
  go_upto_region 3 with fail
  go_cut [4] (fun s4 wx => ∃ B : Nat, s4 = .pointer (some ⟨B, 0, none⟩) ∧ Hid (RD w B (inoD l 0) wx))
  case first =>
    go_region_held3 (fun _ => True) (first | trivial | go_keep)
      (first
        | (go_at_call 23; (with_reducible refine (X0.out _ ?_).mono ?_); (repeat (first | exact HC.out | apply Kd.C_alloc | apply Kd.C_drew | apply Kd.C_drewN)); rintro e w' ⟨rfl, hd⟩; obtain ⟨nd, rfl⟩ := hd.out; clear hd)
        | (go_at_call 23; (with_reducible refine (X1.out _ ?_).mono ?_); (repeat (first | exact HC.out | apply Kd.C_alloc | apply Kd.C_drew | apply Kd.C_drewN)); rintro e w' ⟨rfl, hd⟩; obtain ⟨nd, rfl⟩ := hd.out; clear hd)
        | (go_at_call 23; (with_reducible refine (X2.out _ ?_).mono ?_); (repeat (first | exact HC.out | apply Kd.C_alloc | apply Kd.C_drew | apply Kd.C_drewN)); rintro e w' ⟨rfl, hd⟩; obtain ⟨nd, rfl⟩ := hd.out; clear hd)
        | (go_at_call 23; (with_reducible refine (X3.out _ ?_).mono ?_); (repeat (first | exact HC.out | apply Kd.C_alloc | apply Kd.C_drew | apply Kd.C_drewN)); rintro e w' ⟨rfl, hd⟩; obtain ⟨nd, rfl⟩ := hd.out; clear hd)
        | (go_at_call 23; (with_reducible refine (X4.out _ ?_).mono ?_); (repeat (first | exact HC.out | apply Kd.C_alloc | apply Kd.C_drew | apply Kd.C_drewN)); rintro e w' ⟨rfl, hd⟩; obtain ⟨nd, rfl⟩ := hd.out; clear hd))
    all_goals
      go_wp2_with fail
      go_meet
      refine ⟨w.heap.size + 1, rfl, Lib.hid ?_⟩
      rw [inoD_zero]
      first
        | ((with_reducible refine RD.made ?_ ?_ ?_)
           · simp
           · (repeat (first | exact blk_new w _ | apply blk_drewN | apply blk_alloc))
           · (repeat (first | exact Below.refl _ _ | apply pw_below_drewN | apply below_alloc)))
        | ((with_reducible refine RD.built _ _ _ _ _ ?_ ?_ ?_)
           · (repeat (first | exact blk_new w _ | apply blk_drewN | apply blk_alloc))
           · (repeat (first | apply blk_drewN | exact blk_newAt (by simp)))
           · (repeat (first | exact Below.refl _ _ | apply pw_below_drewN | apply below_alloc)))
  case rest =>
    obtain ⟨B, rfl, HF⟩ := hcut
    clear X0 X1 X2 X3 X4 r0 r1 r2 r3 r4
    go_wp2_with fail
    go_loopw [28] (fun i wr => ∃ k : Nat, k ≤ 8 ∧ i = .int .i64 (k : Int) ∧ Hid (RD w B (inoD l k) wr)) (fun i _ => 8 - (intOf i).toNat)
    case atStart => exact ⟨0, by omega, rfl, HF⟩
    case round =>
      obtain ⟨k, hk, rfl, HR⟩ := hrel
      have hblt : B < wr.heap.size := blk_lt HR.out.b
      by_cases hlt : k < 8
      · have hlt' : (k : Int) < 8 := by omega
        obtain ⟨S, r, q, z⟩ := cutB A0 c0 l 64 HL.out HCC.out (8 + 4 * k) 4 (by omega)
        have X := Lib.hid (fun W hW => get_any S (c0 - (8 + 4 * k)) 4 _ (by rw [List.length_drop, List.length_take, HL.out]; omega) z (at4 l (8 + 4 * k)) W (q W hW) (get4 4 l HB.out (8 + 4 * k) (by rw [HL.out]; omega)))
        have e1 : ((8 + 4 * k : Nat) : Int) = 8 + 4 * (k : Int) := by omega
        have e2 : ((8 + 4 * k + 4 : Nat) : Int) = 8 + 4 * (k : Int) + 4 := by omega
        rw [e1, e2] at r
        clear e1 e2 q z
        have hcd := cell_ds HR.out.b k hlt
        have hfr := blk_frozen HR.out.b (3 + k)
        have HC2 := Lib.hid (Kd.C_below HC.out HR.out.bel)
        go_wp2_with (go_at_call 23; (with_reducible refine (X.out _ ?_).mono ?_); (exact HC2.out); rintro e w' ⟨rfl, hd⟩; obtain ⟨nd, rfl⟩ := hd.out; clear hd)
        go_roundw
        case rel => exact ⟨k + 1, by omega, by go_num, Lib.hid ((HR.out.drewN _).set _ _ (inoD_set l k hlt))⟩
        case measure => simp [intOf]; omega
      · obtain rfl : k = 8 := by omega
        rw [inoD_all] at HR
        have HCw := Lib.hid (Kd.C_below HC.out HR.out.bel)
        obtain ⟨p0, p1, p2, p3, p4, p5, p6, p7, p8, p9, p10, p11, p12⟩ := cells13 HR.out.b
        cases hok : okI (readI l) with
        | false =>
          have HNO : Hid (isI l = false) := Lib.hid (by simp [isI, hok])
          have HP := Lib.hid (Pack_bad (readI l) wr hok)
          clear hok
          go_wp2_with (go_at_call 9; (with_reducible refine HP.out.mono ?_); rintro e w5 ⟨v5, rfl, hR5, hb5⟩; have HR5 := Lib.hid (HR.out.below hb5); have hz5 := HR5.out.z; obtain ⟨z0, z1, z2, z3, z4, z5, z6, z7, z8, z9, z10, z11, z12⟩ := cells13 hz5; have hfz := fun j => blk_frozen hz5 j; clear hR5 hb5 hz5)
          refine bodyPost_ret (v := .tuple #[.agg Ino.zero.cells, .int .i64 5]) ?_ rfl ?_
          · refine Eq.trans (results_ct (p := 2) (u := 3) rfl _ _ w.heap.size 24 Ino.zero.cells (0, 0) _ ?_ (set13 Ino.zero HR5.out.z) Try.underlying24 rfl info24) ?_
            · rfl
            · rfl
          · exact readP_no HNO.out (below13 Ino.zero HR5.out.bel (Nat.le_refl _))
        | true =>
          cases hpk : (packI (readI l) == l) with
          | false =>
            have HNO : Hid (isI l = false) := Lib.hid (by simp [isI, hpk])
            have HP := Lib.hid (Pack_ok (readI l) wr hok)
            have HE : Hid (bytes_Equal.f (packI (readI l)) l = some false) := Lib.hid (by rw [equal_tells HB.out, hpk])
            clear hok hpk
            go_wp2_with (first
              | (go_at_call 9; (with_reducible refine HP.out.mono ?_); rintro e w5 ⟨v5, rfl, hR5, hb5⟩; obtain ⟨A5, c5, rfl⟩ := Kd.R_slice hR5; have HC5 := Lib.hid (Kd.C_below HCw.out hb5); have HO5 := Lib.hid (Kd.R_reads' hR5); have HR5 := Lib.hid (HR.out.below hb5); have hz5 := HR5.out.z; obtain ⟨z0, z1, z2, z3, z4, z5, z6, z7, z8, z9, z10, z11, z12⟩ := cells13 hz5; have hfz := fun j => blk_frozen hz5 j; clear hR5 hb5 hz5)
              | (go_at_call 24; (refine (equal_any A5 c5 (packI (readI l)) A0 c0 l 64 HL.out HCC.out false _ HO5.out.2.2 HO5.out.2.1 HC5.out HE.out).mono ?_); rintro e w6 ⟨rfl, hd⟩; obtain ⟨nd, rfl⟩ := hd.out; clear hd))
            refine bodyPost_ret (v := .tuple #[.agg Ino.zero.cells, .int .i64 5]) ?_ rfl ?_
            · refine Eq.trans (results_ct (p := 2) (u := 3) rfl _ _ w.heap.size 24 Ino.zero.cells (0, 0) _ ?_ (set13 Ino.zero (HR5.out.drewN nd).z) Try.underlying24 rfl info24) ?_
              · rfl
              · rfl
            · exact readP_no HNO.out (below13 Ino.zero (HR5.out.drewN nd).bel (Nat.le_refl _))
          | true =>
            have HYES : Hid (isI l = true) := Lib.hid (by simp [isI, hpk, hok, HL.out])
            have HP := Lib.hid (Pack_ok (readI l) wr hok)
            have HE : Hid (bytes_Equal.f (packI (readI l)) l = some true) := Lib.hid (by rw [equal_tells HB.out, hpk])
            clear hok hpk
            go_wp2_with (first
              | (go_at_call 9; (with_reducible refine HP.out.mono ?_); rintro e w5 ⟨v5, rfl, hR5, hb5⟩; obtain ⟨A5, c5, rfl⟩ := Kd.R_slice hR5; have HC5 := Lib.hid (Kd.C_below HCw.out hb5); have HO5 := Lib.hid (Kd.R_reads' hR5); have HR5 := Lib.hid (HR.out.below hb5); have hz5 := HR5.out.z; obtain ⟨z0, z1, z2, z3, z4, z5, z6, z7, z8, z9, z10, z11, z12⟩ := cells13 hz5; have hfz := fun j => blk_frozen hz5 j; obtain ⟨y0, y1, y2, y3, y4, y5, y6, y7, y8, y9, y10, y11, y12⟩ := cells13 HR5.out.b; clear hR5 hb5 hz5)
              | (go_at_call 24; (refine (equal_any A5 c5 (packI (readI l)) A0 c0 l 64 HL.out HCC.out true _ HO5.out.2.2 HO5.out.2.1 HC5.out HE.out).mono ?_); rintro e w6 ⟨rfl, hd⟩; obtain ⟨nd, rfl⟩ := hd.out; clear hd))
            refine bodyPost_ret (v := .tuple #[.agg (readI l).cells, .int .i64 0]) ?_ rfl ?_
            · refine Eq.trans (results_ct (p := 2) (u := 3) rfl _ _ w.heap.size 24 (readI l).cells (0, 0) _ ?_ (set13 (readI l) (HR5.out.drewN nd).z) Try.underlying24 rfl info24) ?_
              · rfl
              · rfl
            · exact readP_yes HYES.out (below13 (readI l) (HR5.out.drewN nd).bel (Nat.le_refl _))
end Go.Proofs.Ytdjncafofcpoiaa.Given
