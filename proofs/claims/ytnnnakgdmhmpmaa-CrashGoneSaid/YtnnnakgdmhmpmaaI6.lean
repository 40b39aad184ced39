/- (*Watch).node: whether what is found of a node may be. -/
import Derived.Test.YtnnnakgdmhmpmaaI3
import Derived.Test.YtnnnakgdmhmpmaaI4
import Derived.Test.YtnnnakgdmhmpmaaI5
namespace Go.Proofs.Ytnnnakgdmhmpmaa.Given
open Go.RowKit Go.Proofs.YtnnnakgdmhmpmaaW.PrintWords Go.Proofs.YtnnnakgdmhmpmaaW.PrintLast Go.Proofs.YtnnnakgdmhmpmaaW.PrintMore Go.Proofs.YtnnnakgdmhmpmaaBase
set_option linter.unusedVariables false
set_option linter.unusedSimpArgs false

/-- a name may be found that names this inode -/
def NameOk (N : List NS) (d : Int) (e : S33) : Prop := e.f0 = 0 ∨ ∃ x ∈ N, x.dir = d ∧ x.nm = e.f1 ∧ e.f0 ∈ x.ever
/-- a block may be found with these bytes -/
def BlockOk (Q : List PS) (d : Int) (p : S39) : Prop := blk p.f1 = blk [] ∨ ∃ x ∈ Q, x.ino = d ∧ x.pos = p.f0 ∧ blk p.f1 ∈ x.ever
def NodeOk (N : List NS) (Q : List PS) (n : S29) : Prop := (∀ e ∈ n.f5, NameOk N n.f0 e) ∧ ∀ p ∈ n.f4, BlockOk Q n.f0 p
def NodeP (N : List NS) (Q : List PS) (n : S29) (w : World) (e : Ending) (w' : World) : Prop := ∃ b : Bool, e = .returned (.bool b) ∧ (b = true ↔ NodeOk N Q n) ∧ Below w.heap.size w w'
/-- the numbers of a node, and its names, are such as Go's values are -/
structure NodeFit (n : S29) : Prop where
  ino : I64 n.f0
  names : ∀ e ∈ n.f5, I64 e.f0 ∧ e.f1.size ≤ maxLen
  parts : ∀ p ∈ n.f4, I64 p.f0

theorem look_I {w : World} {b : Nat} {l : List Int} (h : MapAt Try.prog 3 w b (l.map onI)) {i : Int} (hi : I64 i) : (i ∈ l → (Instr.lookup 49 (.map (some b)) (.int .i64 i) false).run Try.prog w = .ok (.bool true) w) ∧ (i ∉ l → (Instr.lookup 49 (.map (some b)) (.int .i64 i) false).run Try.prog w = .ok (.bool false) w) := by
  refine ⟨fun hm => h.look_hit law3 Try.underlying49 (key3 hi) (List.mem_map.2 ⟨i, hm, rfl⟩) false, fun hm => h.look_miss law3 Try.underlying49 (z := .bool false) (by kernel_rfl) (key3 hi) (fun p hp e => ?_) false⟩
  obtain ⟨j, hj, rfl⟩ := List.mem_map.1 hp
  simp only [onI, Value.int.injEq, true_and] at e
  exact hm (e ▸ hj)
theorem look_S {w : World} {b : Nat} {l : List ByteArray} (h : MapAt Try.prog 9 w b (l.map onS)) {i : ByteArray} (hi : i.size ≤ maxLen) : (i ∈ l → (Instr.lookup 56 (.map (some b)) (.string i) false).run Try.prog w = .ok (.bool true) w) ∧ (i ∉ l → (Instr.lookup 56 (.map (some b)) (.string i) false).run Try.prog w = .ok (.bool false) w) := by
  obtain ⟨kl, hkl⟩ := key9 hi
  refine ⟨fun hm => h.look_hit law9 Try.underlying56 hkl (List.mem_map.2 ⟨i, hm, rfl⟩) false, fun hm => h.look_miss law9 Try.underlying56 (z := .bool false) (by kernel_rfl) hkl (fun p hp e => ?_) false⟩
  obtain ⟨j, hj, rfl⟩ := List.mem_map.1 hp
  simp only [onS, Value.string.injEq] at e
  exact hm (e ▸ hj)
theorem look_nilS (w : World) {s : ByteArray} (hs : s.size ≤ maxLen) : (Instr.lookup 56 (.map none) (.string s) false).run Try.prog w = .ok (.bool false) w := by
  obtain ⟨kl, hkl⟩ := key9 hs
  exact Maps.look_nil false law9 Try.underlying56 (z := .bool false) (by kernel_rfl) hkl
theorem block_nil (w : World) : Calls Try.prog 14 #[.slice none 0 0] w fun e w' => e = .returned (.string (blk [])) ∧ Below w.heap.size w w' := block_calls none 0 [] w (Kd.C_nil _ _) (by simp)
theorem toList_inj {a b : ByteArray} (h : a.toList = b.toList) : a = b := by
  rw [ByteArray.toList_eq, ByteArray.toList_eq] at h
  cases a
  cases b
  congr
  exact Array.toList_inj.1 h
theorem bs_eq {a b : ByteArray} (h : a = b) : (a.toList == b.toList) = true := by rw [h]; simp
theorem bs_eq' {a b : ByteArray} (h : a = b) : (a.toList != b.toList) = false := by rw [h]; simp
theorem bs_ne {a b : ByteArray} (h : ¬ a = b) : (a.toList == b.toList) = false := by
  rw [beq_eq_false_iff_ne]
  exact fun e => h (toList_inj e)
theorem bs_ne' {a b : ByteArray} (h : ¬ a = b) : (a.toList != b.toList) = true := by
  rw [bne_iff_ne]
  exact fun e => h (toList_inj e)
theorem inj_of_nodup {α β : Type} {f : α → β} : ∀ {l : List α}, (l.map f).Nodup → ∀ {x y : α}, x ∈ l → y ∈ l → f x = f y → x = y
  | [], _, _, _, hx, _, _ => by cases hx
  | a :: l, h, x, y, hx, hy, e => by
    rw [List.map_cons, List.nodup_cons] at h
    rcases List.mem_cons.1 hx with e1 | hx1
    · rcases List.mem_cons.1 hy with e2 | hy1
      · rw [e1, e2]
      · exact absurd (List.mem_map.2 ⟨y, hy1, by rw [← e1]; exact e.symm⟩) h.1
    · rcases List.mem_cons.1 hy with e2 | hy1
      · exact absurd (List.mem_map.2 ⟨x, hx1, by rw [← e2]; exact e⟩) h.1
      · exact inj_of_nodup h.2 hx1 hy1 e
theorem IsW.key_eq {base : Nat} {w : World} {g bn bp : Nat} {N : List (NS × Nat × Nat)} {Q : List (PS × Nat)} (h : IsW base w g bn bp N Q) {x y : NS × Nat × Nat} (hx : x ∈ N) (hy : y ∈ N) (hd : x.1.dir = y.1.dir) (hs : x.1.nm = y.1.nm) : x = y := by
  have hnd := h.hn.nodup
  rw [List.map_map] at hnd
  refine inj_of_nodup hnd hx hy ?_
  simp [entN, hd, hs]
theorem IsW.keyQ_eq {base : Nat} {w : World} {g bn bp : Nat} {N : List (NS × Nat × Nat)} {Q : List (PS × Nat)} (h : IsW base w g bn bp N Q) {x y : PS × Nat} (hx : x ∈ Q) (hy : y ∈ Q) (hd : x.1.ino = y.1.ino) (hs : x.1.pos = y.1.pos) : x = y := by
  have hnd := h.hp.nodup
  rw [List.map_map] at hnd
  refine inj_of_nodup hnd hx hy ?_
  simp [entP, hd, hs]

def NodeBox (w : World) (n : S29) (A4 : Option Addr) (c4 : Nat) (A5 : Option Addr) (c5 : Nat) (wr : World) : Prop :=
  wr.heap[w.heap.size]? = some (.cells #[.int .i64 n.f0, .int .i64 n.f1, .int .i64 n.f2, .int .i64 n.f3, .slice A4 n.f4.length c4, .slice A5 n.f5.length c5] 29 (0, 0)) ∧ Below w.heap.size w wr

set_option maxRecDepth 100000 in
set_option maxHeartbeats 4000000 in
theorem node_calls {base : Nat} {w : World} {g bn bp : Nat} {N : List (NS × Nat × Nat)} {Q : List (PS × Nat)} (h : IsW base w g bn bp N Q) {n : S29} {A4 : Option Addr} {c4 : Nat} {A5 : Option Addr} {c5 : Nat} (hn : Node w n A4 c4 A5 c5) (hf : NodeFit n) :
    Calls Try.prog 12 #[.pointer (some ⟨g, 0, none⟩), .agg #[.int .i64 n.f0, .int .i64 n.f1, .int .i64 n.f2, .int .i64 n.f3, .slice A4 n.f4.length c4, .slice A5 n.f5.length c5]] w (NodeP (N.map (·.1)) (Q.map (·.1)) n w) := by
  have hl5 := hn.C5.2.1
  have hl4 := hn.C4.2.1
  have HB0 : Hid (NodeBox w n A4 c4 A5 c5 (w.alloc (.cells #[.int .i64 n.f0, .int .i64 n.f1, .int .i64 n.f2, .int .i64 n.f3, .slice A4 n.f4.length c4, .slice A5 n.f5.length c5] 29))) := Lib.hid ⟨blk_new w _, below_alloc (Below.refl _ _) _⟩
  have HI := Lib.hid h
  have HN := Lib.hid hn
  have HF := Lib.hid hf
  have hlw := fun (b : Nat) (hb : b ∈ bls g bn bp N Q) => h.lt b hb
  have HLW := Lib.hid hlw
  clear h hn hf hlw
  go_enter Try.func12, Try.ntmps12
  go_wp2
  go_loopw [15] (fun i wr => ∃ m : Nat, m ≤ n.f5.length ∧ i = .int .i64 (m : Int) ∧ Hid (NodeBox w n A4 c4 A5 c5 wr) ∧ Hid (∀ j, j < m → NameOk (N.map (·.1)) n.f0 (rd33 n.f5 j))) (fun i _ => n.f5.length - (intOf i).toNat)
  case atStart => exact ⟨0, Nat.zero_le _, rfl, HB0, Lib.hid (fun j hj => absurd hj (Nat.not_lt_zero _))⟩
  case round =>
    obtain ⟨m, hm, rfl, HB, HOK⟩ := hrel
    have hbx := HB.out.1
    have c0 := blk_cell hbx 0
    have c4' := blk_cell hbx 4
    simp only [List.getElem?_toArray, List.getElem?_cons_zero, List.getElem?_cons_succ] at c0 c4'
    by_cases hlt : m < n.f5.length
    · have hlti : (m : Int) < (n.f5.length : Int) := by omega
      have hNr := HN.out.below HB.out.2
      obtain ⟨ad, rfl, e0, e1⟩ := at33 hNr.C5 m hlt
      have hmem : rd33 n.f5 m ∈ n.f5 := by
        unfold rd33
        rw [List.getD_eq_getElem?_getD, List.getElem?_eq_getElem hlt, Option.getD_some]
        exact List.getElem_mem _
      obtain ⟨hfi, hfs⟩ := HF.out.names _ hmem
      have HMEM := Lib.hid hmem
      obtain ⟨y, hy⟩ : ∃ y, rd33 n.f5 m = y := ⟨_, rfl⟩
      rw [hy] at e0 e1 hfi hfs HMEM
      have HY := Lib.hid hy
      have HFI := Lib.hid hfi
      have HFS := Lib.hid hfs
      have hV : NodeBox w n A4 c4 (some ad) c5 (wr.alloc (.cells #[.int .i64 y.f0, .string y.f1] 33)) := ⟨(blk_alloc HB.out.1 _), below_alloc HB.out.2 _⟩
      have HV := Lib.hid hV
      have HE : Hid ((wr.alloc (.cells #[.int .i64 y.f0, .string y.f1] 33)).heap[wr.heap.size]? = some (.cells #[.int .i64 y.f0, .string y.f1] 33 (0, 0))) := Lib.hid (blk_new wr _)
      clear hNr hmem hy hfi hfs hV
      by_cases hz : y.f0 = 0
      · have hok : NameOk (N.map (·.1)) n.f0 (rd33 n.f5 m) := .inl (by rw [HY.out]; exact hz)
        have HOK2 := Lib.hid hok
        have z1 : (y.f0 == 0) = true := by simpa using hz
        have z2 : decide (y.f0 = 0) = true := by simpa using hz
        have HZ := Lib.hid hz
        clear hz hok
        go_wp2
        go_roundw
        case rel => exact ⟨m + 1, by omega, by go_num, HV, Lib.hid (fun j hj => by rcases Nat.lt_succ_iff_lt_or_eq.1 hj with h | rfl; exact HOK.out j h; exact HOK2.out)⟩
        case measure => simp [intOf]; omega
      · have z1 : (y.f0 == 0) = false := by simpa using hz
        have z2 : decide (y.f0 = 0) = false := by simpa using hz
        have HZ := Lib.hid hz
        clear hz
        obtain ⟨kl, hkl⟩ := key47 HF.out.ino HFS.out
        have HI5 := Lib.hid (HI.out.below (below_drew HV.out.2))
        have HE5 : Hid ((wr.alloc (.cells #[.int .i64 y.f0, .string y.f1] 33)).drew.heap[wr.heap.size]? = some (.cells #[.int .i64 y.f0, .string y.f1] 33 (0, 0))) := Lib.hid HE.out
        have HV5 : Hid (NodeBox w n A4 c4 (some ad) c5 (wr.alloc (.cells #[.int .i64 y.f0, .string y.f1] 33)).drew) := Lib.hid ⟨HV.out.1, below_drew HV.out.2⟩
        have HKL := Lib.hid hkl
        clear hkl HE HV
        rcases find_N N n.f0 y.f1 with ⟨N1, ⟨x, xb, mb⟩, N2, rfl, hxd, hxs, hno⟩ | hno
        · by_cases hin : y.f0 ∈ x.ever
          · have HIN := Lib.hid hin
            clear hin
            have hmk : (keyN n.f0 y.f1, Value.pointer (some ⟨xb, 0, none⟩)) ∈ (N1 ++ (x, xb, mb) :: N2).map entN := by rw [← hxd, ← hxs]; simp [entN]
            have HS5 := Lib.hid (And.intro (blk_cell HI5.out.hg 0) (And.intro (blk_cell HV5.out.1 0) (And.intro (blk_cell HE5.out 1) (HI5.out.hn.look_hit law47 Try.underlying42 HKL.out hmk false))))
            have hxm : (x, xb, mb) ∈ N1 ++ (x, xb, mb) :: N2 := by simp
            have HXM := Lib.hid hxm
            have HXE := Lib.hid (And.intro hxd hxs)
            clear hmk hno hxd hxs hxm
            go_wp2
            refine start_ (n := 11) (S := fun W => W.cell? ⟨g, 0, none⟩ = some (.map (some bn)) ∧ W.cell? ⟨w.heap.size, 0, none⟩ = some (.int .i64 n.f0) ∧ W.cell? ⟨wr.heap.size, 1, none⟩ = some (.string y.f1) ∧ (Instr.lookup 42 (.map (some bn)) (.agg #[.int .i64 n.f0, .string y.f1]) false).run Try.prog W = .ok (.pointer (some ⟨xb, 0, none⟩)) W) (ds := []) #[false, false, false, false, false, false, false, false, false, false, false] (by kernel_rfl) rfl rfl HS5.out (fun hHeld => ?_)
            refine pure_ (i := 0) (N := some 22) (v := ?_) (a' := ?_) (bm 11 1) rfl rfl (by kernel_rfl) (fun _ _ _ h => h) (Or.inl ⟨by rfl, ?_⟩) ?_ ?_
            rotate_left
            · intro w'
              go_simp
              with_reducible rfl
            rotate_left
            · simp only [Act.put, List.setIfInBounds_toArray, List.set_cons_zero, List.set_cons_succ, i64_w, i32_w]
              rfl
            refine pure_ (i := 1) (N := some 23) (v := ?_) (a' := ?_) (bm 11 3) rfl rfl (by kernel_rfl) (fun _ _ _ h => h) (Or.inl ⟨by rfl, ?_⟩) ?_ ?_
            rotate_left
            · intro w'
              go_simp
              with_reducible rfl
            rotate_left
            · simp only [Act.put, List.setIfInBounds_toArray, List.set_cons_zero, List.set_cons_succ, i64_w, i32_w]
              rfl
            refine pure_ (i := 2) (N := some 24) (v := ?_) (a' := ?_) (bm 11 7) rfl rfl (by kernel_rfl) (fun _ _ _ h => h) (Or.inl ⟨by rfl, ?_⟩) ?_ ?_
            rotate_left
            · intro w'
              go_simp
              with_reducible rfl
            rotate_left
            · simp only [Act.put, List.setIfInBounds_toArray, List.set_cons_zero, List.set_cons_succ, i64_w, i32_w]
              rfl
            refine take_ (i := 3) (N := some 25) (v := ?_) (a' := ?_) (bm 11 15) rfl rfl (by kernel_rfl) (fun _ _ _ h => h) (Or.inl ⟨by rfl, ?_⟩) hHeld ?_ ?_
            rotate_left
            · rintro w' ⟨s0, s1, s2, s3⟩
              go_simp
              with_reducible rfl
            rotate_left
            · simp only [Act.put, List.setIfInBounds_toArray, List.set_cons_zero, List.set_cons_succ, i64_w, i32_w]
              rfl
            refine pure_ (i := 4) (N := some 26) (v := ?_) (a' := ?_) (bm 11 31) rfl rfl (by kernel_rfl) (fun _ _ _ h => h) (Or.inl ⟨by rfl, ?_⟩) ?_ ?_
            rotate_left
            · intro w'
              go_simp
              with_reducible rfl
            rotate_left
            · simp only [Act.put, List.setIfInBounds_toArray, List.set_cons_zero, List.set_cons_succ, i64_w, i32_w]
              rfl
            refine take_ (i := 5) (N := some 27) (v := ?_) (a' := ?_) (bm 11 63) rfl rfl (by kernel_rfl) (fun _ _ _ h => h) (Or.inl ⟨by rfl, ?_⟩) hHeld ?_ ?_
            rotate_left
            · rintro w' ⟨s0, s1, s2, s3⟩
              go_simp
              with_reducible rfl
            rotate_left
            · simp only [Act.put, List.setIfInBounds_toArray, List.set_cons_zero, List.set_cons_succ, i64_w, i32_w]
              rfl
            refine pure_ (i := 6) (N := some 28) (v := ?_) (a' := ?_) (bm 11 127) rfl rfl (by kernel_rfl) (fun _ _ _ h => h) (Or.inl ⟨by rfl, ?_⟩) ?_ ?_
            rotate_left
            · intro w'
              go_simp
              with_reducible rfl
            rotate_left
            · simp only [Act.put, List.setIfInBounds_toArray, List.set_cons_zero, List.set_cons_succ, i64_w, i32_w]
              rfl
            refine take_ (i := 7) (N := some 29) (v := ?_) (a' := ?_) (bm 11 255) rfl rfl (by kernel_rfl) (fun _ _ _ h => h) (Or.inl ⟨by rfl, ?_⟩) hHeld ?_ ?_
            rotate_left
            · rintro w' ⟨s0, s1, s2, s3⟩
              go_simp
              with_reducible rfl
            rotate_left
            · simp only [Act.put, List.setIfInBounds_toArray, List.set_cons_zero, List.set_cons_succ, i64_w, i32_w]
              rfl
            refine pure_ (i := 8) (N := some 30) (v := ?_) (a' := ?_) (bm 11 511) rfl rfl (by kernel_rfl) (fun _ _ _ h => h) (Or.inl ⟨by rfl, ?_⟩) ?_ ?_
            rotate_left
            · intro w'
              go_simp
              with_reducible rfl
            rotate_left
            · simp only [Act.put, List.setIfInBounds_toArray, List.set_cons_zero, List.set_cons_succ, i64_w, i32_w]
              rfl
            refine take_ (i := 9) (N := some 31) (v := ?_) (a' := ?_) (bm 11 1023) rfl rfl (by kernel_rfl) (fun _ _ _ h => h) (Or.inl ⟨by rfl, ?_⟩) hHeld ?_ ?_
            rotate_left
            · rintro w' ⟨s0, s1, s2, s3⟩
              go_simp
              with_reducible rfl
            rotate_left
            · simp only [Act.put, List.setIfInBounds_toArray, List.set_cons_zero, List.set_cons_succ, i64_w, i32_w]
              rfl
            refine pure_ (i := 10) (N := some 7) (v := ?_) (a' := ?_) (bm 11 2047) rfl rfl (by kernel_rfl) (fun _ _ _ h => h) (Or.inl ⟨by rfl, ?_⟩) ?_ ?_
            rotate_left
            · intro w'
              go_simp
              with_reducible rfl
            rotate_left
            · simp only [Act.put, List.setIfInBounds_toArray, List.set_cons_zero, List.set_cons_succ, i64_w, i32_w]
              rfl
            refine done_ (by kernel_rfl) ?_
            clear hHeld
            generalize (wr.alloc (.cells #[.int .i64 y.f0, .string y.f1] 33)).drew = V at *
            go_wp2
            have hx6 := (HI5.out.below (below_drew (Below.refl _ V))).hx _ HXM.out
            have HV6 : Hid (NodeBox w n A4 c4 (some ad) c5 V.drew) := Lib.hid ⟨HV5.out.1, below_drew HV5.out.2⟩
            have HS6 : Hid (V.drew.cell? ⟨xb, 1, none⟩ = some (.map (some mb)) ∧ V.drew.cell? ⟨wr.heap.size, 0, none⟩ = some (.int .i64 y.f0) ∧ (Instr.lookup 49 (.map (some mb)) (.int .i64 y.f0) false).run Try.prog V.drew = .ok (.bool true) V.drew) := Lib.hid ⟨blk_cell hx6.blk 1, blk_cell HE5.out 0, (look_I hx6.map HFI.out).1 HIN.out⟩
            clear hx6 HI5 HE5 HV5
            refine start_ (n := 12) (S := fun W => W.cell? ⟨xb, 1, none⟩ = some (.map (some mb)) ∧ W.cell? ⟨wr.heap.size, 0, none⟩ = some (.int .i64 y.f0) ∧ (Instr.lookup 49 (.map (some mb)) (.int .i64 y.f0) false).run Try.prog W = .ok (.bool true) W) (ds := []) #[false, false, false, false, false, false, false, false, false, false, false, false] (by kernel_rfl) rfl rfl HS6.out (fun hHeld => ?_)
            refine pure_ (i := 0) (N := some 32) (v := ?_) (a' := ?_) (bm 12 1) rfl rfl (by kernel_rfl) (fun _ _ _ h => h) (Or.inl ⟨by rfl, ?_⟩) ?_ ?_
            rotate_left
            · intro w'
              go_simp
              with_reducible rfl
            rotate_left
            · simp only [Act.put, List.setIfInBounds_toArray, List.set_cons_zero, List.set_cons_succ, i64_w, i32_w]
              rfl
            refine pure_ (i := 1) (N := some 33) (v := ?_) (a' := ?_) (bm 12 3) rfl rfl (by kernel_rfl) (fun _ _ _ h => h) (Or.inl ⟨by rfl, ?_⟩) ?_ ?_
            rotate_left
            · intro w'
              go_simp
              with_reducible rfl
            rotate_left
            · simp only [Act.put, List.setIfInBounds_toArray, List.set_cons_zero, List.set_cons_succ, i64_w, i32_w]
              rfl
            refine pure_ (i := 2) (N := some 34) (v := ?_) (a' := ?_) (bm 12 7) rfl rfl (by kernel_rfl) (fun _ _ _ h => h) (Or.inl ⟨by rfl, ?_⟩) ?_ ?_
            rotate_left
            · intro w'
              go_simp
              with_reducible rfl
            rotate_left
            · simp only [Act.put, List.setIfInBounds_toArray, List.set_cons_zero, List.set_cons_succ, i64_w, i32_w]
              rfl
            refine pure_ (i := 3) (N := some 35) (v := ?_) (a' := ?_) (bm 12 15) rfl rfl (by kernel_rfl) (fun _ _ _ h => h) (Or.inl ⟨by rfl, ?_⟩) ?_ ?_
            rotate_left
            · intro w'
              go_simp
              with_reducible rfl
            rotate_left
            · simp only [Act.put, List.setIfInBounds_toArray, List.set_cons_zero, List.set_cons_succ, i64_w, i32_w]
              rfl
            refine pure_ (i := 4) (N := some 36) (v := ?_) (a' := ?_) (bm 12 31) rfl rfl (by kernel_rfl) (fun _ _ _ h => h) (Or.inl ⟨by rfl, ?_⟩) ?_ ?_
            rotate_left
            · intro w'
              go_simp
              with_reducible rfl
            rotate_left
            · simp only [Act.put, List.setIfInBounds_toArray, List.set_cons_zero, List.set_cons_succ, i64_w, i32_w]
              rfl
            refine pure_ (i := 5) (N := some 37) (v := ?_) (a' := ?_) (bm 12 63) rfl rfl (by kernel_rfl) (fun _ _ _ h => h) (Or.inl ⟨by rfl, ?_⟩) ?_ ?_
            rotate_left
            · intro w'
              go_simp
              with_reducible rfl
            rotate_left
            · simp only [Act.put, List.setIfInBounds_toArray, List.set_cons_zero, List.set_cons_succ, i64_w, i32_w]
              rfl
            refine take_ (i := 6) (N := some 38) (v := ?_) (a' := ?_) (bm 12 127) rfl rfl (by kernel_rfl) (fun _ _ _ h => h) (Or.inl ⟨by rfl, ?_⟩) hHeld ?_ ?_
            rotate_left
            · rintro w' ⟨s0, s1, s2⟩
              go_simp
              with_reducible rfl
            rotate_left
            · simp only [Act.put, List.setIfInBounds_toArray, List.set_cons_zero, List.set_cons_succ, i64_w, i32_w]
              rfl
            refine pure_ (i := 7) (N := some 39) (v := ?_) (a' := ?_) (bm 12 255) rfl rfl (by kernel_rfl) (fun _ _ _ h => h) (Or.inl ⟨by rfl, ?_⟩) ?_ ?_
            rotate_left
            · intro w'
              go_simp
              with_reducible rfl
            rotate_left
            · simp only [Act.put, List.setIfInBounds_toArray, List.set_cons_zero, List.set_cons_succ, i64_w, i32_w]
              rfl
            refine take_ (i := 8) (N := some 40) (v := ?_) (a' := ?_) (bm 12 511) rfl rfl (by kernel_rfl) (fun _ _ _ h => h) (Or.inl ⟨by rfl, ?_⟩) hHeld ?_ ?_
            rotate_left
            · rintro w' ⟨s0, s1, s2⟩
              go_simp
              with_reducible rfl
            rotate_left
            · simp only [Act.put, List.setIfInBounds_toArray, List.set_cons_zero, List.set_cons_succ, i64_w, i32_w]
              rfl
            refine take_ (i := 9) (N := some 41) (v := ?_) (a' := ?_) (bm 12 1023) rfl rfl (by kernel_rfl) (fun _ _ _ h => h) (Or.inl ⟨by rfl, ?_⟩) hHeld ?_ ?_
            rotate_left
            · rintro w' ⟨s0, s1, s2⟩
              go_simp
              with_reducible rfl
            rotate_left
            · simp only [Act.put, List.setIfInBounds_toArray, List.set_cons_zero, List.set_cons_succ, i64_w, i32_w]
              rfl
            refine pure_ (i := 10) (N := some 42) (v := ?_) (a' := ?_) (bm 12 2047) rfl rfl (by kernel_rfl) (fun _ _ _ h => h) (Or.inl ⟨by rfl, ?_⟩) ?_ ?_
            rotate_left
            · intro w'
              go_simp
              with_reducible rfl
            rotate_left
            · simp only [Act.put, List.setIfInBounds_toArray, List.set_cons_zero, List.set_cons_succ, i64_w, i32_w]
              rfl
            refine pure_ (i := 11) (N := some 43) (v := ?_) (a' := ?_) (bm 12 4095) rfl rfl (by kernel_rfl) (fun _ _ _ h => h) (Or.inl ⟨by rfl, ?_⟩) ?_ ?_
            rotate_left
            · intro w'
              go_simp
              with_reducible rfl
            rotate_left
            · simp only [Act.put, List.setIfInBounds_toArray, List.set_cons_zero, List.set_cons_succ, i64_w, i32_w]
              rfl
            refine done_ (by kernel_rfl) ?_
            clear hHeld
            go_wp2
            have hok : NameOk ((N1 ++ (x, xb, mb) :: N2).map (·.1)) n.f0 (rd33 n.f5 m) := .inr ⟨x, List.mem_map.2 ⟨_, HXM.out, rfl⟩, HXE.out.1, by rw [HY.out]; exact HXE.out.2, by rw [HY.out]; exact HIN.out⟩
            have HOK2 := Lib.hid hok
            clear hok
            go_roundw
            case rel => exact ⟨m + 1, by omega, by go_num, HV6, Lib.hid (fun j hj => by rcases Nat.lt_succ_iff_lt_or_eq.1 hj with h | rfl; exact HOK.out j h; exact HOK2.out)⟩
            case measure => simp [intOf]; omega
          · have HIN := Lib.hid hin
            clear hin
            have hmk : (keyN n.f0 y.f1, Value.pointer (some ⟨xb, 0, none⟩)) ∈ (N1 ++ (x, xb, mb) :: N2).map entN := by rw [← hxd, ← hxs]; simp [entN]
            have HS5 := Lib.hid (And.intro (blk_cell HI5.out.hg 0) (And.intro (blk_cell HV5.out.1 0) (And.intro (blk_cell HE5.out 1) (HI5.out.hn.look_hit law47 Try.underlying42 HKL.out hmk false))))
            have hxm : (x, xb, mb) ∈ N1 ++ (x, xb, mb) :: N2 := by simp
            have HXM := Lib.hid hxm
            have HXE := Lib.hid (And.intro hxd hxs)
            clear hmk hno hxd hxs hxm
            go_wp2
            refine start_ (n := 11) (S := fun W => W.cell? ⟨g, 0, none⟩ = some (.map (some bn)) ∧ W.cell? ⟨w.heap.size, 0, none⟩ = some (.int .i64 n.f0) ∧ W.cell? ⟨wr.heap.size, 1, none⟩ = some (.string y.f1) ∧ (Instr.lookup 42 (.map (some bn)) (.agg #[.int .i64 n.f0, .string y.f1]) false).run Try.prog W = .ok (.pointer (some ⟨xb, 0, none⟩)) W) (ds := []) #[false, false, false, false, false, false, false, false, false, false, false] (by kernel_rfl) rfl rfl HS5.out (fun hHeld => ?_)
            refine pure_ (i := 0) (N := some 22) (v := ?_) (a' := ?_) (bm 11 1) rfl rfl (by kernel_rfl) (fun _ _ _ h => h) (Or.inl ⟨by rfl, ?_⟩) ?_ ?_
            rotate_left
            · intro w'
              go_simp
              with_reducible rfl
            rotate_left
            · simp only [Act.put, List.setIfInBounds_toArray, List.set_cons_zero, List.set_cons_succ, i64_w, i32_w]
              rfl
            refine pure_ (i := 1) (N := some 23) (v := ?_) (a' := ?_) (bm 11 3) rfl rfl (by kernel_rfl) (fun _ _ _ h => h) (Or.inl ⟨by rfl, ?_⟩) ?_ ?_
            rotate_left
            · intro w'
              go_simp
              with_reducible rfl
            rotate_left
            · simp only [Act.put, List.setIfInBounds_toArray, List.set_cons_zero, List.set_cons_succ, i64_w, i32_w]
              rfl
            refine pure_ (i := 2) (N := some 24) (v := ?_) (a' := ?_) (bm 11 7) rfl rfl (by kernel_rfl) (fun _ _ _ h => h) (Or.inl ⟨by rfl, ?_⟩) ?_ ?_
            rotate_left
            · intro w'
              go_simp
              with_reducible rfl
            rotate_left
            · simp only [Act.put, List.setIfInBounds_toArray, List.set_cons_zero, List.set_cons_succ, i64_w, i32_w]
              rfl
            refine take_ (i := 3) (N := some 25) (v := ?_) (a' := ?_) (bm 11 15) rfl rfl (by kernel_rfl) (fun _ _ _ h => h) (Or.inl ⟨by rfl, ?_⟩) hHeld ?_ ?_
            rotate_left
            · rintro w' ⟨s0, s1, s2, s3⟩
              go_simp
              with_reducible rfl
            rotate_left
            · simp only [Act.put, List.setIfInBounds_toArray, List.set_cons_zero, List.set_cons_succ, i64_w, i32_w]
              rfl
            refine pure_ (i := 4) (N := some 26) (v := ?_) (a' := ?_) (bm 11 31) rfl rfl (by kernel_rfl) (fun _ _ _ h => h) (Or.inl ⟨by rfl, ?_⟩) ?_ ?_
            rotate_left
            · intro w'
              go_simp
              with_reducible rfl
            rotate_left
            · simp only [Act.put, List.setIfInBounds_toArray, List.set_cons_zero, List.set_cons_succ, i64_w, i32_w]
              rfl
            refine take_ (i := 5) (N := some 27) (v := ?_) (a' := ?_) (bm 11 63) rfl rfl (by kernel_rfl) (fun _ _ _ h => h) (Or.inl ⟨by rfl, ?_⟩) hHeld ?_ ?_
            rotate_left
            · rintro w' ⟨s0, s1, s2, s3⟩
              go_simp
              with_reducible rfl
            rotate_left
            · simp only [Act.put, List.setIfInBounds_toArray, List.set_cons_zero, List.set_cons_succ, i64_w, i32_w]
              rfl
            refine pure_ (i := 6) (N := some 28) (v := ?_) (a' := ?_) (bm 11 127) rfl rfl (by kernel_rfl) (fun _ _ _ h => h) (Or.inl ⟨by rfl, ?_⟩) ?_ ?_
            rotate_left
            · intro w'
              go_simp
              with_reducible rfl
            rotate_left
            · simp only [Act.put, List.setIfInBounds_toArray, List.set_cons_zero, List.set_cons_succ, i64_w, i32_w]
              rfl
            refine take_ (i := 7) (N := some 29) (v := ?_) (a' := ?_) (bm 11 255) rfl rfl (by kernel_rfl) (fun _ _ _ h => h) (Or.inl ⟨by rfl, ?_⟩) hHeld ?_ ?_
            rotate_left
            · rintro w' ⟨s0, s1, s2, s3⟩
              go_simp
              with_reducible rfl
            rotate_left
            · simp only [Act.put, List.setIfInBounds_toArray, List.set_cons_zero, List.set_cons_succ, i64_w, i32_w]
              rfl
            refine pure_ (i := 8) (N := some 30) (v := ?_) (a' := ?_) (bm 11 511) rfl rfl (by kernel_rfl) (fun _ _ _ h => h) (Or.inl ⟨by rfl, ?_⟩) ?_ ?_
            rotate_left
            · intro w'
              go_simp
              with_reducible rfl
            rotate_left
            · simp only [Act.put, List.setIfInBounds_toArray, List.set_cons_zero, List.set_cons_succ, i64_w, i32_w]
              rfl
            refine take_ (i := 9) (N := some 31) (v := ?_) (a' := ?_) (bm 11 1023) rfl rfl (by kernel_rfl) (fun _ _ _ h => h) (Or.inl ⟨by rfl, ?_⟩) hHeld ?_ ?_
            rotate_left
            · rintro w' ⟨s0, s1, s2, s3⟩
              go_simp
              with_reducible rfl
            rotate_left
            · simp only [Act.put, List.setIfInBounds_toArray, List.set_cons_zero, List.set_cons_succ, i64_w, i32_w]
              rfl
            refine pure_ (i := 10) (N := some 7) (v := ?_) (a' := ?_) (bm 11 2047) rfl rfl (by kernel_rfl) (fun _ _ _ h => h) (Or.inl ⟨by rfl, ?_⟩) ?_ ?_
            rotate_left
            · intro w'
              go_simp
              with_reducible rfl
            rotate_left
            · simp only [Act.put, List.setIfInBounds_toArray, List.set_cons_zero, List.set_cons_succ, i64_w, i32_w]
              rfl
            refine done_ (by kernel_rfl) ?_
            clear hHeld
            generalize (wr.alloc (.cells #[.int .i64 y.f0, .string y.f1] 33)).drew = V at *
            go_wp2
            have hx6 := (HI5.out.below (below_drew (Below.refl _ V))).hx _ HXM.out
            have HV6 : Hid (NodeBox w n A4 c4 (some ad) c5 V.drew) := Lib.hid ⟨HV5.out.1, below_drew HV5.out.2⟩
            have HS6 : Hid (V.drew.cell? ⟨xb, 1, none⟩ = some (.map (some mb)) ∧ V.drew.cell? ⟨wr.heap.size, 0, none⟩ = some (.int .i64 y.f0) ∧ (Instr.lookup 49 (.map (some mb)) (.int .i64 y.f0) false).run Try.prog V.drew = .ok (.bool false) V.drew) := Lib.hid ⟨blk_cell hx6.blk 1, blk_cell HE5.out 0, (look_I hx6.map HFI.out).2 HIN.out⟩
            clear hx6 HI5 HE5 HV5
            refine start_ (n := 12) (S := fun W => W.cell? ⟨xb, 1, none⟩ = some (.map (some mb)) ∧ W.cell? ⟨wr.heap.size, 0, none⟩ = some (.int .i64 y.f0) ∧ (Instr.lookup 49 (.map (some mb)) (.int .i64 y.f0) false).run Try.prog W = .ok (.bool false) W) (ds := []) #[false, false, false, false, false, false, false, false, false, false, false, false] (by kernel_rfl) rfl rfl HS6.out (fun hHeld => ?_)
            refine pure_ (i := 0) (N := some 32) (v := ?_) (a' := ?_) (bm 12 1) rfl rfl (by kernel_rfl) (fun _ _ _ h => h) (Or.inl ⟨by rfl, ?_⟩) ?_ ?_
            rotate_left
            · intro w'
              go_simp
              with_reducible rfl
            rotate_left
            · simp only [Act.put, List.setIfInBounds_toArray, List.set_cons_zero, List.set_cons_succ, i64_w, i32_w]
              rfl
            refine pure_ (i := 1) (N := some 33) (v := ?_) (a' := ?_) (bm 12 3) rfl rfl (by kernel_rfl) (fun _ _ _ h => h) (Or.inl ⟨by rfl, ?_⟩) ?_ ?_
            rotate_left
            · intro w'
              go_simp
              with_reducible rfl
            rotate_left
            · simp only [Act.put, List.setIfInBounds_toArray, List.set_cons_zero, List.set_cons_succ, i64_w, i32_w]
              rfl
            refine pure_ (i := 2) (N := some 34) (v := ?_) (a' := ?_) (bm 12 7) rfl rfl (by kernel_rfl) (fun _ _ _ h => h) (Or.inl ⟨by rfl, ?_⟩) ?_ ?_
            rotate_left
            · intro w'
              go_simp
              with_reducible rfl
            rotate_left
            · simp only [Act.put, List.setIfInBounds_toArray, List.set_cons_zero, List.set_cons_succ, i64_w, i32_w]
              rfl
            refine pure_ (i := 3) (N := some 35) (v := ?_) (a' := ?_) (bm 12 15) rfl rfl (by kernel_rfl) (fun _ _ _ h => h) (Or.inl ⟨by rfl, ?_⟩) ?_ ?_
            rotate_left
            · intro w'
              go_simp
              with_reducible rfl
            rotate_left
            · simp only [Act.put, List.setIfInBounds_toArray, List.set_cons_zero, List.set_cons_succ, i64_w, i32_w]
              rfl
            refine pure_ (i := 4) (N := some 36) (v := ?_) (a' := ?_) (bm 12 31) rfl rfl (by kernel_rfl) (fun _ _ _ h => h) (Or.inl ⟨by rfl, ?_⟩) ?_ ?_
            rotate_left
            · intro w'
              go_simp
              with_reducible rfl
            rotate_left
            · simp only [Act.put, List.setIfInBounds_toArray, List.set_cons_zero, List.set_cons_succ, i64_w, i32_w]
              rfl
            refine pure_ (i := 5) (N := some 37) (v := ?_) (a' := ?_) (bm 12 63) rfl rfl (by kernel_rfl) (fun _ _ _ h => h) (Or.inl ⟨by rfl, ?_⟩) ?_ ?_
            rotate_left
            · intro w'
              go_simp
              with_reducible rfl
            rotate_left
            · simp only [Act.put, List.setIfInBounds_toArray, List.set_cons_zero, List.set_cons_succ, i64_w, i32_w]
              rfl
            refine take_ (i := 6) (N := some 38) (v := ?_) (a' := ?_) (bm 12 127) rfl rfl (by kernel_rfl) (fun _ _ _ h => h) (Or.inl ⟨by rfl, ?_⟩) hHeld ?_ ?_
            rotate_left
            · rintro w' ⟨s0, s1, s2⟩
              go_simp
              with_reducible rfl
            rotate_left
            · simp only [Act.put, List.setIfInBounds_toArray, List.set_cons_zero, List.set_cons_succ, i64_w, i32_w]
              rfl
            refine pure_ (i := 7) (N := some 39) (v := ?_) (a' := ?_) (bm 12 255) rfl rfl (by kernel_rfl) (fun _ _ _ h => h) (Or.inl ⟨by rfl, ?_⟩) ?_ ?_
            rotate_left
            · intro w'
              go_simp
              with_reducible rfl
            rotate_left
            · simp only [Act.put, List.setIfInBounds_toArray, List.set_cons_zero, List.set_cons_succ, i64_w, i32_w]
              rfl
            refine take_ (i := 8) (N := some 40) (v := ?_) (a' := ?_) (bm 12 511) rfl rfl (by kernel_rfl) (fun _ _ _ h => h) (Or.inl ⟨by rfl, ?_⟩) hHeld ?_ ?_
            rotate_left
            · rintro w' ⟨s0, s1, s2⟩
              go_simp
              with_reducible rfl
            rotate_left
            · simp only [Act.put, List.setIfInBounds_toArray, List.set_cons_zero, List.set_cons_succ, i64_w, i32_w]
              rfl
            refine take_ (i := 9) (N := some 41) (v := ?_) (a' := ?_) (bm 12 1023) rfl rfl (by kernel_rfl) (fun _ _ _ h => h) (Or.inl ⟨by rfl, ?_⟩) hHeld ?_ ?_
            rotate_left
            · rintro w' ⟨s0, s1, s2⟩
              go_simp
              with_reducible rfl
            rotate_left
            · simp only [Act.put, List.setIfInBounds_toArray, List.set_cons_zero, List.set_cons_succ, i64_w, i32_w]
              rfl
            refine pure_ (i := 10) (N := some 42) (v := ?_) (a' := ?_) (bm 12 2047) rfl rfl (by kernel_rfl) (fun _ _ _ h => h) (Or.inl ⟨by rfl, ?_⟩) ?_ ?_
            rotate_left
            · intro w'
              go_simp
              with_reducible rfl
            rotate_left
            · simp only [Act.put, List.setIfInBounds_toArray, List.set_cons_zero, List.set_cons_succ, i64_w, i32_w]
              rfl
            refine pure_ (i := 11) (N := some 43) (v := ?_) (a' := ?_) (bm 12 4095) rfl rfl (by kernel_rfl) (fun _ _ _ h => h) (Or.inl ⟨by rfl, ?_⟩) ?_ ?_
            rotate_left
            · intro w'
              go_simp
              with_reducible rfl
            rotate_left
            · simp only [Act.put, List.setIfInBounds_toArray, List.set_cons_zero, List.set_cons_succ, i64_w, i32_w]
              rfl
            refine done_ (by kernel_rfl) ?_
            clear hHeld
            go_wp2
            go_ret
            refine ⟨false, rfl, ⟨fun e => (by cases e), fun hN => ?_⟩, HV6.out.2⟩
            rcases hN.1 y HMEM.out with h | ⟨z, hz, h1, h2, h3⟩
            · exact absurd h HZ.out
            · obtain ⟨z', hz', rfl⟩ := List.mem_map.1 hz
              have := HI.out.key_eq hz' HXM.out (h1.trans HXE.out.1.symm) (h2.trans HXE.out.2.symm)
              subst this
              exact absurd h3 HIN.out
        · have hmiss : ∀ p ∈ N.map entN, p.1 ≠ keyN n.f0 y.f1 := by
            intro p hp e
            obtain ⟨z, hz, rfl⟩ := List.mem_map.1 hp
            exact hno z hz (keyN_inj e)
          have HNO := Lib.hid hno
          have HS5 := Lib.hid (And.intro (blk_cell HI5.out.hg 0) (And.intro (blk_cell HV5.out.1 0) (And.intro (blk_cell HE5.out 1) (HI5.out.hn.look_miss law47 Try.underlying42 (zero48 _) HKL.out hmiss false))))
          clear hmiss hno
          go_wp2
          refine start_ (n := 11) (S := fun W => W.cell? ⟨g, 0, none⟩ = some (.map (some bn)) ∧ W.cell? ⟨w.heap.size, 0, none⟩ = some (.int .i64 n.f0) ∧ W.cell? ⟨wr.heap.size, 1, none⟩ = some (.string y.f1) ∧ (Instr.lookup 42 (.map (some bn)) (.agg #[.int .i64 n.f0, .string y.f1]) false).run Try.prog W = .ok (.pointer none) W) (ds := []) #[false, false, false, false, false, false, false, false, false, false, false] (by kernel_rfl) rfl rfl HS5.out (fun hHeld => ?_)
          refine pure_ (i := 0) (N := some 22) (v := ?_) (a' := ?_) (bm 11 1) rfl rfl (by kernel_rfl) (fun _ _ _ h => h) (Or.inl ⟨by rfl, ?_⟩) ?_ ?_
          rotate_left
          · intro w'
            go_simp
            with_reducible rfl
          rotate_left
          · simp only [Act.put, List.setIfInBounds_toArray, List.set_cons_zero, List.set_cons_succ, i64_w, i32_w]
            rfl
          refine pure_ (i := 1) (N := some 23) (v := ?_) (a' := ?_) (bm 11 3) rfl rfl (by kernel_rfl) (fun _ _ _ h => h) (Or.inl ⟨by rfl, ?_⟩) ?_ ?_
          rotate_left
          · intro w'
            go_simp
            with_reducible rfl
          rotate_left
          · simp only [Act.put, List.setIfInBounds_toArray, List.set_cons_zero, List.set_cons_succ, i64_w, i32_w]
            rfl
          refine pure_ (i := 2) (N := some 24) (v := ?_) (a' := ?_) (bm 11 7) rfl rfl (by kernel_rfl) (fun _ _ _ h => h) (Or.inl ⟨by rfl, ?_⟩) ?_ ?_
          rotate_left
          · intro w'
            go_simp
            with_reducible rfl
          rotate_left
          · simp only [Act.put, List.setIfInBounds_toArray, List.set_cons_zero, List.set_cons_succ, i64_w, i32_w]
            rfl
          refine take_ (i := 3) (N := some 25) (v := ?_) (a' := ?_) (bm 11 15) rfl rfl (by kernel_rfl) (fun _ _ _ h => h) (Or.inl ⟨by rfl, ?_⟩) hHeld ?_ ?_
          rotate_left
          · rintro w' ⟨s0, s1, s2, s3⟩
            go_simp
            with_reducible rfl
          rotate_left
          · simp only [Act.put, List.setIfInBounds_toArray, List.set_cons_zero, List.set_cons_succ, i64_w, i32_w]
            rfl
          refine pure_ (i := 4) (N := some 26) (v := ?_) (a' := ?_) (bm 11 31) rfl rfl (by kernel_rfl) (fun _ _ _ h => h) (Or.inl ⟨by rfl, ?_⟩) ?_ ?_
          rotate_left
          · intro w'
            go_simp
            with_reducible rfl
          rotate_left
          · simp only [Act.put, List.setIfInBounds_toArray, List.set_cons_zero, List.set_cons_succ, i64_w, i32_w]
            rfl
          refine take_ (i := 5) (N := some 27) (v := ?_) (a' := ?_) (bm 11 63) rfl rfl (by kernel_rfl) (fun _ _ _ h => h) (Or.inl ⟨by rfl, ?_⟩) hHeld ?_ ?_
          rotate_left
          · rintro w' ⟨s0, s1, s2, s3⟩
            go_simp
            with_reducible rfl
          rotate_left
          · simp only [Act.put, List.setIfInBounds_toArray, List.set_cons_zero, List.set_cons_succ, i64_w, i32_w]
            rfl
          refine pure_ (i := 6) (N := some 28) (v := ?_) (a' := ?_) (bm 11 127) rfl rfl (by kernel_rfl) (fun _ _ _ h => h) (Or.inl ⟨by rfl, ?_⟩) ?_ ?_
          rotate_left
          · intro w'
            go_simp
            with_reducible rfl
          rotate_left
          · simp only [Act.put, List.setIfInBounds_toArray, List.set_cons_zero, List.set_cons_succ, i64_w, i32_w]
            rfl
          refine take_ (i := 7) (N := some 29) (v := ?_) (a' := ?_) (bm 11 255) rfl rfl (by kernel_rfl) (fun _ _ _ h => h) (Or.inl ⟨by rfl, ?_⟩) hHeld ?_ ?_
          rotate_left
          · rintro w' ⟨s0, s1, s2, s3⟩
            go_simp
            with_reducible rfl
          rotate_left
          · simp only [Act.put, List.setIfInBounds_toArray, List.set_cons_zero, List.set_cons_succ, i64_w, i32_w]
            rfl
          refine pure_ (i := 8) (N := some 30) (v := ?_) (a' := ?_) (bm 11 511) rfl rfl (by kernel_rfl) (fun _ _ _ h => h) (Or.inl ⟨by rfl, ?_⟩) ?_ ?_
          rotate_left
          · intro w'
            go_simp
            with_reducible rfl
          rotate_left
          · simp only [Act.put, List.setIfInBounds_toArray, List.set_cons_zero, List.set_cons_succ, i64_w, i32_w]
            rfl
          refine take_ (i := 9) (N := some 31) (v := ?_) (a' := ?_) (bm 11 1023) rfl rfl (by kernel_rfl) (fun _ _ _ h => h) (Or.inl ⟨by rfl, ?_⟩) hHeld ?_ ?_
          rotate_left
          · rintro w' ⟨s0, s1, s2, s3⟩
            go_simp
            with_reducible rfl
          rotate_left
          · simp only [Act.put, List.setIfInBounds_toArray, List.set_cons_zero, List.set_cons_succ, i64_w, i32_w]
            rfl
          refine pure_ (i := 10) (N := some 7) (v := ?_) (a' := ?_) (bm 11 2047) rfl rfl (by kernel_rfl) (fun _ _ _ h => h) (Or.inl ⟨by rfl, ?_⟩) ?_ ?_
          rotate_left
          · intro w'
            go_simp
            with_reducible rfl
          rotate_left
          · simp only [Act.put, List.setIfInBounds_toArray, List.set_cons_zero, List.set_cons_succ, i64_w, i32_w]
            rfl
          refine done_ (by kernel_rfl) ?_
          clear hHeld
          generalize (wr.alloc (.cells #[.int .i64 y.f0, .string y.f1] 33)).drew = V at *
          go_wp2
          have HV6 : Hid (NodeBox w n A4 c4 (some ad) c5 V.drew) := Lib.hid ⟨HV5.out.1, below_drew HV5.out.2⟩
          clear HI5 HE5 HV5
          refine start_ (n := 12) (S := fun _ => True) (ds := []) #[false, false, false, false, false, false, false, false, false, false, false, false] (by kernel_rfl) rfl rfl trivial (fun hHeld => ?_)
          refine pure_ (i := 0) (N := some 32) (v := ?_) (a' := ?_) (bm 12 1) rfl rfl (by kernel_rfl) (fun _ _ _ h => h) (Or.inl ⟨by rfl, ?_⟩) ?_ ?_
          rotate_left
          · intro w'
            go_simp
            with_reducible rfl
          rotate_left
          · simp only [Act.put, List.setIfInBounds_toArray, List.set_cons_zero, List.set_cons_succ, i64_w, i32_w]
            rfl
          refine pure_ (i := 1) (N := some 33) (v := ?_) (a' := ?_) (bm 12 3) rfl rfl (by kernel_rfl) (fun _ _ _ h => h) (Or.inl ⟨by rfl, ?_⟩) ?_ ?_
          rotate_left
          · intro w'
            go_simp
            with_reducible rfl
          rotate_left
          · simp only [Act.put, List.setIfInBounds_toArray, List.set_cons_zero, List.set_cons_succ, i64_w, i32_w]
            rfl
          refine pure_ (i := 2) (N := some 34) (v := ?_) (a' := ?_) (bm 12 7) rfl rfl (by kernel_rfl) (fun _ _ _ h => h) (Or.inl ⟨by rfl, ?_⟩) ?_ ?_
          rotate_left
          · intro w'
            go_simp
            with_reducible rfl
          rotate_left
          · simp only [Act.put, List.setIfInBounds_toArray, List.set_cons_zero, List.set_cons_succ, i64_w, i32_w]
            rfl
          refine pure_ (i := 3) (N := some 35) (v := undef) (a' := ?_) (bm 12 15) rfl rfl (by kernel_rfl) (fun _ _ _ h => h) (Or.inr ⟨by rfl, rfl⟩) ?_ ?_
          rotate_left
          · simp only [Act.put, List.setIfInBounds_toArray, List.set_cons_zero, List.set_cons_succ, i64_w, i32_w]
            rfl
          refine pure_ (i := 4) (N := some 36) (v := undef) (a' := ?_) (bm 12 31) rfl rfl (by kernel_rfl) (fun _ _ _ h => h) (Or.inr ⟨by rfl, rfl⟩) ?_ ?_
          rotate_left
          · simp only [Act.put, List.setIfInBounds_toArray, List.set_cons_zero, List.set_cons_succ, i64_w, i32_w]
            rfl
          refine pure_ (i := 5) (N := some 37) (v := undef) (a' := ?_) (bm 12 63) rfl rfl (by kernel_rfl) (fun _ _ _ h => h) (Or.inr ⟨by rfl, rfl⟩) ?_ ?_
          rotate_left
          · simp only [Act.put, List.setIfInBounds_toArray, List.set_cons_zero, List.set_cons_succ, i64_w, i32_w]
            rfl
          refine pure_ (i := 6) (N := some 38) (v := undef) (a' := ?_) (bm 12 127) rfl rfl (by kernel_rfl) (fun _ _ _ h => h) (Or.inr ⟨by rfl, rfl⟩) ?_ ?_
          rotate_left
          · simp only [Act.put, List.setIfInBounds_toArray, List.set_cons_zero, List.set_cons_succ, i64_w, i32_w]
            rfl
          refine pure_ (i := 7) (N := some 39) (v := undef) (a' := ?_) (bm 12 255) rfl rfl (by kernel_rfl) (fun _ _ _ h => h) (Or.inr ⟨by rfl, rfl⟩) ?_ ?_
          rotate_left
          · simp only [Act.put, List.setIfInBounds_toArray, List.set_cons_zero, List.set_cons_succ, i64_w, i32_w]
            rfl
          refine pure_ (i := 8) (N := some 40) (v := undef) (a' := ?_) (bm 12 511) rfl rfl (by kernel_rfl) (fun _ _ _ h => h) (Or.inr ⟨by rfl, rfl⟩) ?_ ?_
          rotate_left
          · simp only [Act.put, List.setIfInBounds_toArray, List.set_cons_zero, List.set_cons_succ, i64_w, i32_w]
            rfl
          refine pure_ (i := 9) (N := some 41) (v := undef) (a' := ?_) (bm 12 1023) rfl rfl (by kernel_rfl) (fun _ _ _ h => h) (Or.inr ⟨by rfl, rfl⟩) ?_ ?_
          rotate_left
          · simp only [Act.put, List.setIfInBounds_toArray, List.set_cons_zero, List.set_cons_succ, i64_w, i32_w]
            rfl
          refine pure_ (i := 10) (N := some 42) (v := undef) (a' := ?_) (bm 12 2047) rfl rfl (by kernel_rfl) (fun _ _ _ h => h) (Or.inr ⟨by rfl, rfl⟩) ?_ ?_
          rotate_left
          · simp only [Act.put, List.setIfInBounds_toArray, List.set_cons_zero, List.set_cons_succ, i64_w, i32_w]
            rfl
          refine pure_ (i := 11) (N := some 43) (v := ?_) (a' := ?_) (bm 12 4095) rfl rfl (by kernel_rfl) (fun _ _ _ h => h) (Or.inl ⟨by rfl, ?_⟩) ?_ ?_
          rotate_left
          · intro w'
            go_simp
            with_reducible rfl
          rotate_left
          · simp only [Act.put, List.setIfInBounds_toArray, List.set_cons_zero, List.set_cons_succ, i64_w, i32_w]
            rfl
          refine done_ (by kernel_rfl) ?_
          clear hHeld
          go_wp2
          go_ret
          refine ⟨false, rfl, ⟨fun e => (by cases e), fun hN => ?_⟩, HV6.out.2⟩
          rcases hN.1 y HMEM.out with h | ⟨z, hz, h1, h2, h3⟩
          · exact absurd h HZ.out
          · obtain ⟨z', hz', rfl⟩ := List.mem_map.1 hz
            exact (HNO.out z' hz' ⟨h1, h2⟩).elim
    · obtain rfl : m = n.f5.length := by omega
      have HOK1 : Hid (∀ e ∈ n.f5, NameOk (N.map (·.1)) n.f0 e) := Lib.hid (fun e he => by
        obtain ⟨j, hj, rfl⟩ := List.getElem_of_mem he
        have := HOK.out j hj
        unfold rd33 at this
        rwa [List.getD_eq_getElem?_getD, List.getElem?_eq_getElem hj, Option.getD_some] at this)
      clear HOK hbx c0 hlt
      go_wp2
      clear c4'
      obtain ⟨wo, rfl⟩ : ∃ wo : World, wo = wr := ⟨_, rfl⟩
      go_loopw [48] (fun i wr => ∃ m : Nat, m ≤ n.f4.length ∧ i = .int .i64 (m : Int) ∧ Hid (NodeBox w n A4 c4 A5 c5 wr) ∧ Hid (∀ j, j < m → BlockOk (Q.map (·.1)) n.f0 (rd39 n.f4 j))) (fun i _ => n.f4.length - (intOf i).toNat)
      case atStart => exact ⟨0, Nat.zero_le _, rfl, HB, Lib.hid (fun j hj => absurd hj (Nat.not_lt_zero _))⟩
      case round =>
        clear HB
        obtain ⟨m, hm, rfl, HB, HOK⟩ := hrel
        have hbx := HB.out.1
        have c0 := blk_cell hbx 0
        simp only [List.getElem?_toArray, List.getElem?_cons_zero, List.getElem?_cons_succ] at c0
        by_cases hlt : m < n.f4.length
        · have hlti : (m : Int) < (n.f4.length : Int) := by omega
          have hNr := HN.out.below HB.out.2
          obtain ⟨ad, A1, c1, rfl, e0, e1, hlc, hC⟩ := at39 hNr.C4 m hlt
          have hmem : rd39 n.f4 m ∈ n.f4 := by
            unfold rd39
            rw [List.getD_eq_getElem?_getD, List.getElem?_eq_getElem hlt, Option.getD_some]
            exact List.getElem_mem _
          have hfi := HF.out.parts _ hmem
          have HMEM := Lib.hid hmem
          obtain ⟨y, hy⟩ : ∃ y, rd39 n.f4 m = y := ⟨_, rfl⟩
          rw [hy] at e0 e1 hfi HMEM hlc hC
          have HY := Lib.hid hy
          have HFI := Lib.hid hfi
          have hlb := hC.2.1
          have HC : Hid (Kd.C (Kd.int .u8) (wr.alloc (.cells #[.int .i64 y.f0, .slice A1 y.f1.length c1] 39)) A1 y.f1.length y.f1) := Lib.hid (Kd.C_below hC (below_alloc (Below.refl _ _) _))
          have HV : Hid (NodeBox w n (some ad) c4 A5 c5 (wr.alloc (.cells #[.int .i64 y.f0, .slice A1 y.f1.length c1] 39))) := Lib.hid ⟨(blk_alloc HB.out.1 _), below_alloc HB.out.2 _⟩
          have HE : Hid ((wr.alloc (.cells #[.int .i64 y.f0, .slice A1 y.f1.length c1] 39)).heap[wr.heap.size]? = some (.cells #[.int .i64 y.f0, .slice A1 y.f1.length c1] 39 (0, 0))) := Lib.hid (blk_new wr _)
          obtain ⟨kl, hkl⟩ := key55 HF.out.ino hfi
          have HKL := Lib.hid hkl
          clear hNr hmem hy hfi hlc hC hkl
          rcases find_Q Q n.f0 y.f0 with ⟨Q1, ⟨x, pb⟩, Q2, rfl, hxd, hxs, hno⟩ | hno
          · have hmk : (keyP n.f0 y.f0, Value.map (some pb)) ∈ (Q1 ++ (x, pb) :: Q2).map entP := by rw [← hxd, ← hxs]; simp [entP]
            have HMK := Lib.hid hmk
            have HXM : Hid ((x, pb) ∈ Q1 ++ (x, pb) :: Q2) := Lib.hid (by simp)
            have HXE := Lib.hid (And.intro hxd hxs)
            clear hmk hno hxd hxs
            by_cases heq : blk y.f1 = blk []
            · have HEQ := Lib.hid heq
              have s1 := bs_eq heq
              have s2 := bs_eq' heq
              clear heq
              go_wp2_with (go_at_call 14; (with_reducible refine (block_calls A1 c1 y.f1 _ HC.out hlb).mono ?_); rintro e w9 ⟨rfl, hb9⟩; have HB9 := Lib.hid hb9; clear hb9)
              have HV9 : Hid (NodeBox w n (some ad) c4 A5 c5 w9.drew) := Lib.hid ⟨(HB9.out.block _ (blk_lt HV.out.1)).trans HV.out.1, below_drew (HV.out.2.trans (HB9.out.mono HV.out.2.size))⟩
              have HI9 := Lib.hid (HI.out.below HV9.out.2)
              have HE9 : Hid (w9.drew.heap[wr.heap.size]? = some (.cells #[.int .i64 y.f0, .slice A1 y.f1.length c1] 39 (0, 0))) := Lib.hid ((HB9.out.block _ (blk_lt HE.out)).trans HE.out)
              have HS13 := Lib.hid (And.intro (blk_cell HI9.out.hg 1) (And.intro (blk_cell HV9.out.1 0) (And.intro (blk_cell HE9.out 0) (HI9.out.hp.look_hit law55 Try.underlying43 HKL.out HMK.out false))))
              clear HB9 HV HE HC HE9
              refine start_ (n := 11) (S := fun W => W.cell? ⟨g, 1, none⟩ = some (.map (some bp)) ∧ W.cell? ⟨w.heap.size, 0, none⟩ = some (.int .i64 n.f0) ∧ W.cell? ⟨wr.heap.size, 0, none⟩ = some (.int .i64 y.f0) ∧ (Instr.lookup 43 (.map (some bp)) (.agg #[.int .i64 n.f0, .int .i64 y.f0]) false).run Try.prog W = .ok (.map (some pb)) W) (ds := []) #[false, false, false, false, false, false, false, false, false, false, false] (by kernel_rfl) rfl rfl HS13.out (fun hHeld => ?_)
              refine pure_ (i := 0) (N := some 55) (v := ?_) (a' := ?_) (bm 11 1) rfl rfl (by kernel_rfl) (fun _ _ _ h => h) (Or.inl ⟨by rfl, ?_⟩) ?_ ?_
              rotate_left
              · intro w'
                go_simp
                with_reducible rfl
              rotate_left
              · simp only [Act.put, List.setIfInBounds_toArray, List.set_cons_zero, List.set_cons_succ, i64_w, i32_w]
                rfl
              refine pure_ (i := 1) (N := some 56) (v := ?_) (a' := ?_) (bm 11 3) rfl rfl (by kernel_rfl) (fun _ _ _ h => h) (Or.inl ⟨by rfl, ?_⟩) ?_ ?_
              rotate_left
              · intro w'
                go_simp
                with_reducible rfl
              rotate_left
              · simp only [Act.put, List.setIfInBounds_toArray, List.set_cons_zero, List.set_cons_succ, i64_w, i32_w]
                rfl
              refine pure_ (i := 2) (N := some 57) (v := ?_) (a' := ?_) (bm 11 7) rfl rfl (by kernel_rfl) (fun _ _ _ h => h) (Or.inl ⟨by rfl, ?_⟩) ?_ ?_
              rotate_left
              · intro w'
                go_simp
                with_reducible rfl
              rotate_left
              · simp only [Act.put, List.setIfInBounds_toArray, List.set_cons_zero, List.set_cons_succ, i64_w, i32_w]
                rfl
              refine take_ (i := 3) (N := some 58) (v := ?_) (a' := ?_) (bm 11 15) rfl rfl (by kernel_rfl) (fun _ _ _ h => h) (Or.inl ⟨by rfl, ?_⟩) hHeld ?_ ?_
              rotate_left
              · rintro w' ⟨s0, s1, s2, s3⟩
                go_simp
                with_reducible rfl
              rotate_left
              · simp only [Act.put, List.setIfInBounds_toArray, List.set_cons_zero, List.set_cons_succ, i64_w, i32_w]
                rfl
              refine pure_ (i := 4) (N := some 59) (v := ?_) (a' := ?_) (bm 11 31) rfl rfl (by kernel_rfl) (fun _ _ _ h => h) (Or.inl ⟨by rfl, ?_⟩) ?_ ?_
              rotate_left
              · intro w'
                go_simp
                with_reducible rfl
              rotate_left
              · simp only [Act.put, List.setIfInBounds_toArray, List.set_cons_zero, List.set_cons_succ, i64_w, i32_w]
                rfl
              refine take_ (i := 5) (N := some 60) (v := ?_) (a' := ?_) (bm 11 63) rfl rfl (by kernel_rfl) (fun _ _ _ h => h) (Or.inl ⟨by rfl, ?_⟩) hHeld ?_ ?_
              rotate_left
              · rintro w' ⟨s0, s1, s2, s3⟩
                go_simp
                with_reducible rfl
              rotate_left
              · simp only [Act.put, List.setIfInBounds_toArray, List.set_cons_zero, List.set_cons_succ, i64_w, i32_w]
                rfl
              refine pure_ (i := 6) (N := some 61) (v := ?_) (a' := ?_) (bm 11 127) rfl rfl (by kernel_rfl) (fun _ _ _ h => h) (Or.inl ⟨by rfl, ?_⟩) ?_ ?_
              rotate_left
              · intro w'
                go_simp
                with_reducible rfl
              rotate_left
              · simp only [Act.put, List.setIfInBounds_toArray, List.set_cons_zero, List.set_cons_succ, i64_w, i32_w]
                rfl
              refine take_ (i := 7) (N := some 62) (v := ?_) (a' := ?_) (bm 11 255) rfl rfl (by kernel_rfl) (fun _ _ _ h => h) (Or.inl ⟨by rfl, ?_⟩) hHeld ?_ ?_
              rotate_left
              · rintro w' ⟨s0, s1, s2, s3⟩
                go_simp
                with_reducible rfl
              rotate_left
              · simp only [Act.put, List.setIfInBounds_toArray, List.set_cons_zero, List.set_cons_succ, i64_w, i32_w]
                rfl
              refine pure_ (i := 8) (N := some 63) (v := ?_) (a' := ?_) (bm 11 511) rfl rfl (by kernel_rfl) (fun _ _ _ h => h) (Or.inl ⟨by rfl, ?_⟩) ?_ ?_
              rotate_left
              · intro w'
                go_simp
                with_reducible rfl
              rotate_left
              · simp only [Act.put, List.setIfInBounds_toArray, List.set_cons_zero, List.set_cons_succ, i64_w, i32_w]
                rfl
              refine take_ (i := 9) (N := some 64) (v := ?_) (a' := ?_) (bm 11 1023) rfl rfl (by kernel_rfl) (fun _ _ _ h => h) (Or.inl ⟨by rfl, ?_⟩) hHeld ?_ ?_
              rotate_left
              · rintro w' ⟨s0, s1, s2, s3⟩
                go_simp
                with_reducible rfl
              rotate_left
              · simp only [Act.put, List.setIfInBounds_toArray, List.set_cons_zero, List.set_cons_succ, i64_w, i32_w]
                rfl
              refine pure_ (i := 10) (N := some 11) (v := ?_) (a' := ?_) (bm 11 2047) rfl rfl (by kernel_rfl) (fun _ _ _ h => h) (Or.inl ⟨by rfl, ?_⟩) ?_ ?_
              rotate_left
              · intro w'
                go_simp
                with_reducible rfl
              rotate_left
              · simp only [Act.put, List.setIfInBounds_toArray, List.set_cons_zero, List.set_cons_succ, i64_w, i32_w]
                rfl
              refine done_ (by kernel_rfl) ?_
              clear hHeld
              generalize w9.drew = V at *
              go_wp2_with (go_at_call 14; (with_reducible refine (block_nil _).mono ?_); rintro e w10 ⟨rfl, hb10⟩; skip; have HB10 := Lib.hid hb10; clear hb10)
              have HV10 : Hid (NodeBox w n (some ad) c4 A5 c5 w10) := Lib.hid ⟨(HB10.out.block _ (blk_lt HV9.out.1)).trans HV9.out.1, HV9.out.2.trans (HB10.out.mono HV9.out.2.size)⟩
              have hok : BlockOk ((Q1 ++ (x, pb) :: Q2).map (·.1)) n.f0 (rd39 n.f4 m) := by rw [HY.out]; exact .inl HEQ.out
              have HOK2 := Lib.hid hok
              clear hok
              go_roundw
              case rel => exact ⟨m + 1, by omega, by go_num, HV10, Lib.hid (fun j hj => by rcases Nat.lt_succ_iff_lt_or_eq.1 hj with h | rfl; exact HOK.out j h; exact HOK2.out)⟩
              case measure => simp [intOf]; omega
            by_cases hin : blk y.f1 ∈ x.ever
            · have HEQ := Lib.hid heq
              have s1 := bs_ne heq
              have s2 := bs_ne' heq
              have HIN := Lib.hid hin
              clear hin
              clear heq
              go_wp2_with (go_at_call 14; (with_reducible refine (block_calls A1 c1 y.f1 _ HC.out hlb).mono ?_); rintro e w9 ⟨rfl, hb9⟩; have HB9 := Lib.hid hb9; clear hb9)
              have HV9 : Hid (NodeBox w n (some ad) c4 A5 c5 w9.drew) := Lib.hid ⟨(HB9.out.block _ (blk_lt HV.out.1)).trans HV.out.1, below_drew (HV.out.2.trans (HB9.out.mono HV.out.2.size))⟩
              have HI9 := Lib.hid (HI.out.below HV9.out.2)
              have HE9 : Hid (w9.drew.heap[wr.heap.size]? = some (.cells #[.int .i64 y.f0, .slice A1 y.f1.length c1] 39 (0, 0))) := Lib.hid ((HB9.out.block _ (blk_lt HE.out)).trans HE.out)
              have HS13 := Lib.hid (And.intro (blk_cell HI9.out.hg 1) (And.intro (blk_cell HV9.out.1 0) (And.intro (blk_cell HE9.out 0) (HI9.out.hp.look_hit law55 Try.underlying43 HKL.out HMK.out false))))
              clear HB9 HV HE HC HE9
              refine start_ (n := 11) (S := fun W => W.cell? ⟨g, 1, none⟩ = some (.map (some bp)) ∧ W.cell? ⟨w.heap.size, 0, none⟩ = some (.int .i64 n.f0) ∧ W.cell? ⟨wr.heap.size, 0, none⟩ = some (.int .i64 y.f0) ∧ (Instr.lookup 43 (.map (some bp)) (.agg #[.int .i64 n.f0, .int .i64 y.f0]) false).run Try.prog W = .ok (.map (some pb)) W) (ds := []) #[false, false, false, false, false, false, false, false, false, false, false] (by kernel_rfl) rfl rfl HS13.out (fun hHeld => ?_)
              refine pure_ (i := 0) (N := some 55) (v := ?_) (a' := ?_) (bm 11 1) rfl rfl (by kernel_rfl) (fun _ _ _ h => h) (Or.inl ⟨by rfl, ?_⟩) ?_ ?_
              rotate_left
              · intro w'
                go_simp
                with_reducible rfl
              rotate_left
              · simp only [Act.put, List.setIfInBounds_toArray, List.set_cons_zero, List.set_cons_succ, i64_w, i32_w]
                rfl
              refine pure_ (i := 1) (N := some 56) (v := ?_) (a' := ?_) (bm 11 3) rfl rfl (by kernel_rfl) (fun _ _ _ h => h) (Or.inl ⟨by rfl, ?_⟩) ?_ ?_
              rotate_left
              · intro w'
                go_simp
                with_reducible rfl
              rotate_left
              · simp only [Act.put, List.setIfInBounds_toArray, List.set_cons_zero, List.set_cons_succ, i64_w, i32_w]
                rfl
              refine pure_ (i := 2) (N := some 57) (v := ?_) (a' := ?_) (bm 11 7) rfl rfl (by kernel_rfl) (fun _ _ _ h => h) (Or.inl ⟨by rfl, ?_⟩) ?_ ?_
              rotate_left
              · intro w'
                go_simp
                with_reducible rfl
              rotate_left
              · simp only [Act.put, List.setIfInBounds_toArray, List.set_cons_zero, List.set_cons_succ, i64_w, i32_w]
                rfl
              refine take_ (i := 3) (N := some 58) (v := ?_) (a' := ?_) (bm 11 15) rfl rfl (by kernel_rfl) (fun _ _ _ h => h) (Or.inl ⟨by rfl, ?_⟩) hHeld ?_ ?_
              rotate_left
              · rintro w' ⟨s0, s1, s2, s3⟩
                go_simp
                with_reducible rfl
              rotate_left
              · simp only [Act.put, List.setIfInBounds_toArray, List.set_cons_zero, List.set_cons_succ, i64_w, i32_w]
                rfl
              refine pure_ (i := 4) (N := some 59) (v := ?_) (a' := ?_) (bm 11 31) rfl rfl (by kernel_rfl) (fun _ _ _ h => h) (Or.inl ⟨by rfl, ?_⟩) ?_ ?_
              rotate_left
              · intro w'
                go_simp
                with_reducible rfl
              rotate_left
              · simp only [Act.put, List.setIfInBounds_toArray, List.set_cons_zero, List.set_cons_succ, i64_w, i32_w]
                rfl
              refine take_ (i := 5) (N := some 60) (v := ?_) (a' := ?_) (bm 11 63) rfl rfl (by kernel_rfl) (fun _ _ _ h => h) (Or.inl ⟨by rfl, ?_⟩) hHeld ?_ ?_
              rotate_left
              · rintro w' ⟨s0, s1, s2, s3⟩
                go_simp
                with_reducible rfl
              rotate_left
              · simp only [Act.put, List.setIfInBounds_toArray, List.set_cons_zero, List.set_cons_succ, i64_w, i32_w]
                rfl
              refine pure_ (i := 6) (N := some 61) (v := ?_) (a' := ?_) (bm 11 127) rfl rfl (by kernel_rfl) (fun _ _ _ h => h) (Or.inl ⟨by rfl, ?_⟩) ?_ ?_
              rotate_left
              · intro w'
                go_simp
                with_reducible rfl
              rotate_left
              · simp only [Act.put, List.setIfInBounds_toArray, List.set_cons_zero, List.set_cons_succ, i64_w, i32_w]
                rfl
              refine take_ (i := 7) (N := some 62) (v := ?_) (a' := ?_) (bm 11 255) rfl rfl (by kernel_rfl) (fun _ _ _ h => h) (Or.inl ⟨by rfl, ?_⟩) hHeld ?_ ?_
              rotate_left
              · rintro w' ⟨s0, s1, s2, s3⟩
                go_simp
                with_reducible rfl
              rotate_left
              · simp only [Act.put, List.setIfInBounds_toArray, List.set_cons_zero, List.set_cons_succ, i64_w, i32_w]
                rfl
              refine pure_ (i := 8) (N := some 63) (v := ?_) (a' := ?_) (bm 11 511) rfl rfl (by kernel_rfl) (fun _ _ _ h => h) (Or.inl ⟨by rfl, ?_⟩) ?_ ?_
              rotate_left
              · intro w'
                go_simp
                with_reducible rfl
              rotate_left
              · simp only [Act.put, List.setIfInBounds_toArray, List.set_cons_zero, List.set_cons_succ, i64_w, i32_w]
                rfl
              refine take_ (i := 9) (N := some 64) (v := ?_) (a' := ?_) (bm 11 1023) rfl rfl (by kernel_rfl) (fun _ _ _ h => h) (Or.inl ⟨by rfl, ?_⟩) hHeld ?_ ?_
              rotate_left
              · rintro w' ⟨s0, s1, s2, s3⟩
                go_simp
                with_reducible rfl
              rotate_left
              · simp only [Act.put, List.setIfInBounds_toArray, List.set_cons_zero, List.set_cons_succ, i64_w, i32_w]
                rfl
              refine pure_ (i := 10) (N := some 11) (v := ?_) (a' := ?_) (bm 11 2047) rfl rfl (by kernel_rfl) (fun _ _ _ h => h) (Or.inl ⟨by rfl, ?_⟩) ?_ ?_
              rotate_left
              · intro w'
                go_simp
                with_reducible rfl
              rotate_left
              · simp only [Act.put, List.setIfInBounds_toArray, List.set_cons_zero, List.set_cons_succ, i64_w, i32_w]
                rfl
              refine done_ (by kernel_rfl) ?_
              clear hHeld
              generalize w9.drew = V at *
              go_wp2_with (go_at_call 14; (with_reducible refine (block_nil _).mono ?_); rintro e w10 ⟨rfl, hb10⟩; have hx10 := ((HI9.out.below hb10).hq _ HXM.out); have lk := (look_S hx10 (blk_max _)).1 HIN.out; clear hx10; have HB10 := Lib.hid hb10; clear hb10)
              have HV10 : Hid (NodeBox w n (some ad) c4 A5 c5 w10) := Lib.hid ⟨(HB10.out.block _ (blk_lt HV9.out.1)).trans HV9.out.1, HV9.out.2.trans (HB10.out.mono HV9.out.2.size)⟩
              have hok : BlockOk ((Q1 ++ (x, pb) :: Q2).map (·.1)) n.f0 (rd39 n.f4 m) := by rw [HY.out]; exact .inr ⟨x, List.mem_map.2 ⟨_, HXM.out, rfl⟩, HXE.out.1, HXE.out.2, HIN.out⟩
              have HOK2 := Lib.hid hok
              clear hok
              go_roundw
              case rel => exact ⟨m + 1, by omega, by go_num, HV10, Lib.hid (fun j hj => by rcases Nat.lt_succ_iff_lt_or_eq.1 hj with h | rfl; exact HOK.out j h; exact HOK2.out)⟩
              case measure => simp [intOf]; omega
            · have HEQ := Lib.hid heq
              have s1 := bs_ne heq
              have s2 := bs_ne' heq
              have HIN := Lib.hid hin
              clear hin
              clear heq
              go_wp2_with (go_at_call 14; (with_reducible refine (block_calls A1 c1 y.f1 _ HC.out hlb).mono ?_); rintro e w9 ⟨rfl, hb9⟩; have HB9 := Lib.hid hb9; clear hb9)
              have HV9 : Hid (NodeBox w n (some ad) c4 A5 c5 w9.drew) := Lib.hid ⟨(HB9.out.block _ (blk_lt HV.out.1)).trans HV.out.1, below_drew (HV.out.2.trans (HB9.out.mono HV.out.2.size))⟩
              have HI9 := Lib.hid (HI.out.below HV9.out.2)
              have HE9 : Hid (w9.drew.heap[wr.heap.size]? = some (.cells #[.int .i64 y.f0, .slice A1 y.f1.length c1] 39 (0, 0))) := Lib.hid ((HB9.out.block _ (blk_lt HE.out)).trans HE.out)
              have HS13 := Lib.hid (And.intro (blk_cell HI9.out.hg 1) (And.intro (blk_cell HV9.out.1 0) (And.intro (blk_cell HE9.out 0) (HI9.out.hp.look_hit law55 Try.underlying43 HKL.out HMK.out false))))
              clear HB9 HV HE HC HE9
              refine start_ (n := 11) (S := fun W => W.cell? ⟨g, 1, none⟩ = some (.map (some bp)) ∧ W.cell? ⟨w.heap.size, 0, none⟩ = some (.int .i64 n.f0) ∧ W.cell? ⟨wr.heap.size, 0, none⟩ = some (.int .i64 y.f0) ∧ (Instr.lookup 43 (.map (some bp)) (.agg #[.int .i64 n.f0, .int .i64 y.f0]) false).run Try.prog W = .ok (.map (some pb)) W) (ds := []) #[false, false, false, false, false, false, false, false, false, false, false] (by kernel_rfl) rfl rfl HS13.out (fun hHeld => ?_)
              refine pure_ (i := 0) (N := some 55) (v := ?_) (a' := ?_) (bm 11 1) rfl rfl (by kernel_rfl) (fun _ _ _ h => h) (Or.inl ⟨by rfl, ?_⟩) ?_ ?_
              rotate_left
              · intro w'
                go_simp
                with_reducible rfl
              rotate_left
              · simp only [Act.put, List.setIfInBounds_toArray, List.set_cons_zero, List.set_cons_succ, i64_w, i32_w]
                rfl
              refine pure_ (i := 1) (N := some 56) (v := ?_) (a' := ?_) (bm 11 3) rfl rfl (by kernel_rfl) (fun _ _ _ h => h) (Or.inl ⟨by rfl, ?_⟩) ?_ ?_
              rotate_left
              · intro w'
                go_simp
                with_reducible rfl
              rotate_left
              · simp only [Act.put, List.setIfInBounds_toArray, List.set_cons_zero, List.set_cons_succ, i64_w, i32_w]
                rfl
              refine pure_ (i := 2) (N := some 57) (v := ?_) (a' := ?_) (bm 11 7) rfl rfl (by kernel_rfl) (fun _ _ _ h => h) (Or.inl ⟨by rfl, ?_⟩) ?_ ?_
              rotate_left
              · intro w'
                go_simp
                with_reducible rfl
              rotate_left
              · simp only [Act.put, List.setIfInBounds_toArray, List.set_cons_zero, List.set_cons_succ, i64_w, i32_w]
                rfl
              refine take_ (i := 3) (N := some 58) (v := ?_) (a' := ?_) (bm 11 15) rfl rfl (by kernel_rfl) (fun _ _ _ h => h) (Or.inl ⟨by rfl, ?_⟩) hHeld ?_ ?_
              rotate_left
              · rintro w' ⟨s0, s1, s2, s3⟩
                go_simp
                with_reducible rfl
              rotate_left
              · simp only [Act.put, List.setIfInBounds_toArray, List.set_cons_zero, List.set_cons_succ, i64_w, i32_w]
                rfl
              refine pure_ (i := 4) (N := some 59) (v := ?_) (a' := ?_) (bm 11 31) rfl rfl (by kernel_rfl) (fun _ _ _ h => h) (Or.inl ⟨by rfl, ?_⟩) ?_ ?_
              rotate_left
              · intro w'
                go_simp
                with_reducible rfl
              rotate_left
              · simp only [Act.put, List.setIfInBounds_toArray, List.set_cons_zero, List.set_cons_succ, i64_w, i32_w]
                rfl
              refine take_ (i := 5) (N := some 60) (v := ?_) (a' := ?_) (bm 11 63) rfl rfl (by kernel_rfl) (fun _ _ _ h => h) (Or.inl ⟨by rfl, ?_⟩) hHeld ?_ ?_
              rotate_left
              · rintro w' ⟨s0, s1, s2, s3⟩
                go_simp
                with_reducible rfl
              rotate_left
              · simp only [Act.put, List.setIfInBounds_toArray, List.set_cons_zero, List.set_cons_succ, i64_w, i32_w]
                rfl
              refine pure_ (i := 6) (N := some 61) (v := ?_) (a' := ?_) (bm 11 127) rfl rfl (by kernel_rfl) (fun _ _ _ h => h) (Or.inl ⟨by rfl, ?_⟩) ?_ ?_
              rotate_left
              · intro w'
                go_simp
                with_reducible rfl
              rotate_left
              · simp only [Act.put, List.setIfInBounds_toArray, List.set_cons_zero, List.set_cons_succ, i64_w, i32_w]
                rfl
              refine take_ (i := 7) (N := some 62) (v := ?_) (a' := ?_) (bm 11 255) rfl rfl (by kernel_rfl) (fun _ _ _ h => h) (Or.inl ⟨by rfl, ?_⟩) hHeld ?_ ?_
              rotate_left
              · rintro w' ⟨s0, s1, s2, s3⟩
                go_simp
                with_reducible rfl
              rotate_left
              · simp only [Act.put, List.setIfInBounds_toArray, List.set_cons_zero, List.set_cons_succ, i64_w, i32_w]
                rfl
              refine pure_ (i := 8) (N := some 63) (v := ?_) (a' := ?_) (bm 11 511) rfl rfl (by kernel_rfl) (fun _ _ _ h => h) (Or.inl ⟨by rfl, ?_⟩) ?_ ?_
              rotate_left
              · intro w'
                go_simp
                with_reducible rfl
              rotate_left
              · simp only [Act.put, List.setIfInBounds_toArray, List.set_cons_zero, List.set_cons_succ, i64_w, i32_w]
                rfl
              refine take_ (i := 9) (N := some 64) (v := ?_) (a' := ?_) (bm 11 1023) rfl rfl (by kernel_rfl) (fun _ _ _ h => h) (Or.inl ⟨by rfl, ?_⟩) hHeld ?_ ?_
              rotate_left
              · rintro w' ⟨s0, s1, s2, s3⟩
                go_simp
                with_reducible rfl
              rotate_left
              · simp only [Act.put, List.setIfInBounds_toArray, List.set_cons_zero, List.set_cons_succ, i64_w, i32_w]
                rfl
              refine pure_ (i := 10) (N := some 11) (v := ?_) (a' := ?_) (bm 11 2047) rfl rfl (by kernel_rfl) (fun _ _ _ h => h) (Or.inl ⟨by rfl, ?_⟩) ?_ ?_
              rotate_left
              · intro w'
                go_simp
                with_reducible rfl
              rotate_left
              · simp only [Act.put, List.setIfInBounds_toArray, List.set_cons_zero, List.set_cons_succ, i64_w, i32_w]
                rfl
              refine done_ (by kernel_rfl) ?_
              clear hHeld
              generalize w9.drew = V at *
              go_wp2_with (go_at_call 14; (with_reducible refine (block_nil _).mono ?_); rintro e w10 ⟨rfl, hb10⟩; have hx10 := ((HI9.out.below hb10).hq _ HXM.out); have lk := (look_S hx10 (blk_max _)).2 HIN.out; clear hx10; have HB10 := Lib.hid hb10; clear hb10)
              have HV10 : Hid (NodeBox w n (some ad) c4 A5 c5 w10) := Lib.hid ⟨(HB10.out.block _ (blk_lt HV9.out.1)).trans HV9.out.1, HV9.out.2.trans (HB10.out.mono HV9.out.2.size)⟩
              go_ret
              refine ⟨false, rfl, ⟨fun e => (by cases e), fun hN => ?_⟩, HV10.out.2⟩
              rcases hN.2 y HMEM.out with h | ⟨z, hz, h1, h2, h3⟩
              · exact absurd h HEQ.out
              · obtain ⟨z', hz', rfl⟩ := List.mem_map.1 hz
                have := HI.out.keyQ_eq hz' HXM.out (h1.trans HXE.out.1.symm) (h2.trans HXE.out.2.symm)
                subst this
                exact absurd h3 HIN.out
          · have hmiss : ∀ p ∈ Q.map entP, p.1 ≠ keyP n.f0 y.f0 := by
              intro p hp e
              obtain ⟨z, hz, rfl⟩ := List.mem_map.1 hp
              exact hno z hz (keyP_inj e)
            have HMS := Lib.hid hmiss
            have HNO := Lib.hid hno
            clear hmiss hno
            by_cases heq : blk y.f1 = blk []
            · have HEQ := Lib.hid heq
              have s1 := bs_eq heq
              have s2 := bs_eq' heq
              clear heq
              go_wp2_with (go_at_call 14; (with_reducible refine (block_calls A1 c1 y.f1 _ HC.out hlb).mono ?_); rintro e w9 ⟨rfl, hb9⟩; have HB9 := Lib.hid hb9; clear hb9)
              have HV9 : Hid (NodeBox w n (some ad) c4 A5 c5 w9.drew) := Lib.hid ⟨(HB9.out.block _ (blk_lt HV.out.1)).trans HV.out.1, below_drew (HV.out.2.trans (HB9.out.mono HV.out.2.size))⟩
              have HI9 := Lib.hid (HI.out.below HV9.out.2)
              have HE9 : Hid (w9.drew.heap[wr.heap.size]? = some (.cells #[.int .i64 y.f0, .slice A1 y.f1.length c1] 39 (0, 0))) := Lib.hid ((HB9.out.block _ (blk_lt HE.out)).trans HE.out)
              have HS13 := Lib.hid (And.intro (blk_cell HI9.out.hg 1) (And.intro (blk_cell HV9.out.1 0) (And.intro (blk_cell HE9.out 0) (HI9.out.hp.look_miss law55 Try.underlying43 (zero56 _) HKL.out HMS.out false))))
              clear HB9 HV HE HC HE9
              refine start_ (n := 11) (S := fun W => W.cell? ⟨g, 1, none⟩ = some (.map (some bp)) ∧ W.cell? ⟨w.heap.size, 0, none⟩ = some (.int .i64 n.f0) ∧ W.cell? ⟨wr.heap.size, 0, none⟩ = some (.int .i64 y.f0) ∧ (Instr.lookup 43 (.map (some bp)) (.agg #[.int .i64 n.f0, .int .i64 y.f0]) false).run Try.prog W = .ok (.map none) W) (ds := []) #[false, false, false, false, false, false, false, false, false, false, false] (by kernel_rfl) rfl rfl HS13.out (fun hHeld => ?_)
              refine pure_ (i := 0) (N := some 55) (v := ?_) (a' := ?_) (bm 11 1) rfl rfl (by kernel_rfl) (fun _ _ _ h => h) (Or.inl ⟨by rfl, ?_⟩) ?_ ?_
              rotate_left
              · intro w'
                go_simp
                with_reducible rfl
              rotate_left
              · simp only [Act.put, List.setIfInBounds_toArray, List.set_cons_zero, List.set_cons_succ, i64_w, i32_w]
                rfl
              refine pure_ (i := 1) (N := some 56) (v := ?_) (a' := ?_) (bm 11 3) rfl rfl (by kernel_rfl) (fun _ _ _ h => h) (Or.inl ⟨by rfl, ?_⟩) ?_ ?_
              rotate_left
              · intro w'
                go_simp
                with_reducible rfl
              rotate_left
              · simp only [Act.put, List.setIfInBounds_toArray, List.set_cons_zero, List.set_cons_succ, i64_w, i32_w]
                rfl
              refine pure_ (i := 2) (N := some 57) (v := ?_) (a' := ?_) (bm 11 7) rfl rfl (by kernel_rfl) (fun _ _ _ h => h) (Or.inl ⟨by rfl, ?_⟩) ?_ ?_
              rotate_left
              · intro w'
                go_simp
                with_reducible rfl
              rotate_left
              · simp only [Act.put, List.setIfInBounds_toArray, List.set_cons_zero, List.set_cons_succ, i64_w, i32_w]
                rfl
              refine take_ (i := 3) (N := some 58) (v := ?_) (a' := ?_) (bm 11 15) rfl rfl (by kernel_rfl) (fun _ _ _ h => h) (Or.inl ⟨by rfl, ?_⟩) hHeld ?_ ?_
              rotate_left
              · rintro w' ⟨s0, s1, s2, s3⟩
                go_simp
                with_reducible rfl
              rotate_left
              · simp only [Act.put, List.setIfInBounds_toArray, List.set_cons_zero, List.set_cons_succ, i64_w, i32_w]
                rfl
              refine pure_ (i := 4) (N := some 59) (v := ?_) (a' := ?_) (bm 11 31) rfl rfl (by kernel_rfl) (fun _ _ _ h => h) (Or.inl ⟨by rfl, ?_⟩) ?_ ?_
              rotate_left
              · intro w'
                go_simp
                with_reducible rfl
              rotate_left
              · simp only [Act.put, List.setIfInBounds_toArray, List.set_cons_zero, List.set_cons_succ, i64_w, i32_w]
                rfl
              refine take_ (i := 5) (N := some 60) (v := ?_) (a' := ?_) (bm 11 63) rfl rfl (by kernel_rfl) (fun _ _ _ h => h) (Or.inl ⟨by rfl, ?_⟩) hHeld ?_ ?_
              rotate_left
              · rintro w' ⟨s0, s1, s2, s3⟩
                go_simp
                with_reducible rfl
              rotate_left
              · simp only [Act.put, List.setIfInBounds_toArray, List.set_cons_zero, List.set_cons_succ, i64_w, i32_w]
                rfl
              refine pure_ (i := 6) (N := some 61) (v := ?_) (a' := ?_) (bm 11 127) rfl rfl (by kernel_rfl) (fun _ _ _ h => h) (Or.inl ⟨by rfl, ?_⟩) ?_ ?_
              rotate_left
              · intro w'
                go_simp
                with_reducible rfl
              rotate_left
              · simp only [Act.put, List.setIfInBounds_toArray, List.set_cons_zero, List.set_cons_succ, i64_w, i32_w]
                rfl
              refine take_ (i := 7) (N := some 62) (v := ?_) (a' := ?_) (bm 11 255) rfl rfl (by kernel_rfl) (fun _ _ _ h => h) (Or.inl ⟨by rfl, ?_⟩) hHeld ?_ ?_
              rotate_left
              · rintro w' ⟨s0, s1, s2, s3⟩
                go_simp
                with_reducible rfl
              rotate_left
              · simp only [Act.put, List.setIfInBounds_toArray, List.set_cons_zero, List.set_cons_succ, i64_w, i32_w]
                rfl
              refine pure_ (i := 8) (N := some 63) (v := ?_) (a' := ?_) (bm 11 511) rfl rfl (by kernel_rfl) (fun _ _ _ h => h) (Or.inl ⟨by rfl, ?_⟩) ?_ ?_
              rotate_left
              · intro w'
                go_simp
                with_reducible rfl
              rotate_left
              · simp only [Act.put, List.setIfInBounds_toArray, List.set_cons_zero, List.set_cons_succ, i64_w, i32_w]
                rfl
              refine take_ (i := 9) (N := some 64) (v := ?_) (a' := ?_) (bm 11 1023) rfl rfl (by kernel_rfl) (fun _ _ _ h => h) (Or.inl ⟨by rfl, ?_⟩) hHeld ?_ ?_
              rotate_left
              · rintro w' ⟨s0, s1, s2, s3⟩
                go_simp
                with_reducible rfl
              rotate_left
              · simp only [Act.put, List.setIfInBounds_toArray, List.set_cons_zero, List.set_cons_succ, i64_w, i32_w]
                rfl
              refine pure_ (i := 10) (N := some 11) (v := ?_) (a' := ?_) (bm 11 2047) rfl rfl (by kernel_rfl) (fun _ _ _ h => h) (Or.inl ⟨by rfl, ?_⟩) ?_ ?_
              rotate_left
              · intro w'
                go_simp
                with_reducible rfl
              rotate_left
              · simp only [Act.put, List.setIfInBounds_toArray, List.set_cons_zero, List.set_cons_succ, i64_w, i32_w]
                rfl
              refine done_ (by kernel_rfl) ?_
              clear hHeld
              generalize w9.drew = V at *
              go_wp2_with (go_at_call 14; (with_reducible refine (block_nil _).mono ?_); rintro e w10 ⟨rfl, hb10⟩; skip; have HB10 := Lib.hid hb10; clear hb10)
              have HV10 : Hid (NodeBox w n (some ad) c4 A5 c5 w10) := Lib.hid ⟨(HB10.out.block _ (blk_lt HV9.out.1)).trans HV9.out.1, HV9.out.2.trans (HB10.out.mono HV9.out.2.size)⟩
              have hok : BlockOk (Q.map (·.1)) n.f0 (rd39 n.f4 m) := by rw [HY.out]; exact .inl HEQ.out
              have HOK2 := Lib.hid hok
              clear hok
              go_roundw
              case rel => exact ⟨m + 1, by omega, by go_num, HV10, Lib.hid (fun j hj => by rcases Nat.lt_succ_iff_lt_or_eq.1 hj with h | rfl; exact HOK.out j h; exact HOK2.out)⟩
              case measure => simp [intOf]; omega
            · have HEQ := Lib.hid heq
              have s1 := bs_ne heq
              have s2 := bs_ne' heq
              clear heq
              go_wp2_with (go_at_call 14; (with_reducible refine (block_calls A1 c1 y.f1 _ HC.out hlb).mono ?_); rintro e w9 ⟨rfl, hb9⟩; have HB9 := Lib.hid hb9; clear hb9)
              have HV9 : Hid (NodeBox w n (some ad) c4 A5 c5 w9.drew) := Lib.hid ⟨(HB9.out.block _ (blk_lt HV.out.1)).trans HV.out.1, below_drew (HV.out.2.trans (HB9.out.mono HV.out.2.size))⟩
              have HI9 := Lib.hid (HI.out.below HV9.out.2)
              have HE9 : Hid (w9.drew.heap[wr.heap.size]? = some (.cells #[.int .i64 y.f0, .slice A1 y.f1.length c1] 39 (0, 0))) := Lib.hid ((HB9.out.block _ (blk_lt HE.out)).trans HE.out)
              have HS13 := Lib.hid (And.intro (blk_cell HI9.out.hg 1) (And.intro (blk_cell HV9.out.1 0) (And.intro (blk_cell HE9.out 0) (HI9.out.hp.look_miss law55 Try.underlying43 (zero56 _) HKL.out HMS.out false))))
              clear HB9 HV HE HC HE9
              refine start_ (n := 11) (S := fun W => W.cell? ⟨g, 1, none⟩ = some (.map (some bp)) ∧ W.cell? ⟨w.heap.size, 0, none⟩ = some (.int .i64 n.f0) ∧ W.cell? ⟨wr.heap.size, 0, none⟩ = some (.int .i64 y.f0) ∧ (Instr.lookup 43 (.map (some bp)) (.agg #[.int .i64 n.f0, .int .i64 y.f0]) false).run Try.prog W = .ok (.map none) W) (ds := []) #[false, false, false, false, false, false, false, false, false, false, false] (by kernel_rfl) rfl rfl HS13.out (fun hHeld => ?_)
              refine pure_ (i := 0) (N := some 55) (v := ?_) (a' := ?_) (bm 11 1) rfl rfl (by kernel_rfl) (fun _ _ _ h => h) (Or.inl ⟨by rfl, ?_⟩) ?_ ?_
              rotate_left
              · intro w'
                go_simp
                with_reducible rfl
              rotate_left
              · simp only [Act.put, List.setIfInBounds_toArray, List.set_cons_zero, List.set_cons_succ, i64_w, i32_w]
                rfl
              refine pure_ (i := 1) (N := some 56) (v := ?_) (a' := ?_) (bm 11 3) rfl rfl (by kernel_rfl) (fun _ _ _ h => h) (Or.inl ⟨by rfl, ?_⟩) ?_ ?_
              rotate_left
              · intro w'
                go_simp
                with_reducible rfl
              rotate_left
              · simp only [Act.put, List.setIfInBounds_toArray, List.set_cons_zero, List.set_cons_succ, i64_w, i32_w]
                rfl
              refine pure_ (i := 2) (N := some 57) (v := ?_) (a' := ?_) (bm 11 7) rfl rfl (by kernel_rfl) (fun _ _ _ h => h) (Or.inl ⟨by rfl, ?_⟩) ?_ ?_
              rotate_left
              · intro w'
                go_simp
                with_reducible rfl
              rotate_left
              · simp only [Act.put, List.setIfInBounds_toArray, List.set_cons_zero, List.set_cons_succ, i64_w, i32_w]
                rfl
              refine take_ (i := 3) (N := some 58) (v := ?_) (a' := ?_) (bm 11 15) rfl rfl (by kernel_rfl) (fun _ _ _ h => h) (Or.inl ⟨by rfl, ?_⟩) hHeld ?_ ?_
              rotate_left
              · rintro w' ⟨s0, s1, s2, s3⟩
                go_simp
                with_reducible rfl
              rotate_left
              · simp only [Act.put, List.setIfInBounds_toArray, List.set_cons_zero, List.set_cons_succ, i64_w, i32_w]
                rfl
              refine pure_ (i := 4) (N := some 59) (v := ?_) (a' := ?_) (bm 11 31) rfl rfl (by kernel_rfl) (fun _ _ _ h => h) (Or.inl ⟨by rfl, ?_⟩) ?_ ?_
              rotate_left
              · intro w'
                go_simp
                with_reducible rfl
              rotate_left
              · simp only [Act.put, List.setIfInBounds_toArray, List.set_cons_zero, List.set_cons_succ, i64_w, i32_w]
                rfl
              refine take_ (i := 5) (N := some 60) (v := ?_) (a' := ?_) (bm 11 63) rfl rfl (by kernel_rfl) (fun _ _ _ h => h) (Or.inl ⟨by rfl, ?_⟩) hHeld ?_ ?_
              rotate_left
              · rintro w' ⟨s0, s1, s2, s3⟩
                go_simp
                with_reducible rfl
              rotate_left
              · simp only [Act.put, List.setIfInBounds_toArray, List.set_cons_zero, List.set_cons_succ, i64_w, i32_w]
                rfl
              refine pure_ (i := 6) (N := some 61) (v := ?_) (a' := ?_) (bm 11 127) rfl rfl (by kernel_rfl) (fun _ _ _ h => h) (Or.inl ⟨by rfl, ?_⟩) ?_ ?_
              rotate_left
              · intro w'
                go_simp
                with_reducible rfl
              rotate_left
              · simp only [Act.put, List.setIfInBounds_toArray, List.set_cons_zero, List.set_cons_succ, i64_w, i32_w]
                rfl
              refine take_ (i := 7) (N := some 62) (v := ?_) (a' := ?_) (bm 11 255) rfl rfl (by kernel_rfl) (fun _ _ _ h => h) (Or.inl ⟨by rfl, ?_⟩) hHeld ?_ ?_
              rotate_left
              · rintro w' ⟨s0, s1, s2, s3⟩
                go_simp
                with_reducible rfl
              rotate_left
              · simp only [Act.put, List.setIfInBounds_toArray, List.set_cons_zero, List.set_cons_succ, i64_w, i32_w]
                rfl
              refine pure_ (i := 8) (N := some 63) (v := ?_) (a' := ?_) (bm 11 511) rfl rfl (by kernel_rfl) (fun _ _ _ h => h) (Or.inl ⟨by rfl, ?_⟩) ?_ ?_
              rotate_left
              · intro w'
                go_simp
                with_reducible rfl
              rotate_left
              · simp only [Act.put, List.setIfInBounds_toArray, List.set_cons_zero, List.set_cons_succ, i64_w, i32_w]
                rfl
              refine take_ (i := 9) (N := some 64) (v := ?_) (a' := ?_) (bm 11 1023) rfl rfl (by kernel_rfl) (fun _ _ _ h => h) (Or.inl ⟨by rfl, ?_⟩) hHeld ?_ ?_
              rotate_left
              · rintro w' ⟨s0, s1, s2, s3⟩
                go_simp
                with_reducible rfl
              rotate_left
              · simp only [Act.put, List.setIfInBounds_toArray, List.set_cons_zero, List.set_cons_succ, i64_w, i32_w]
                rfl
              refine pure_ (i := 10) (N := some 11) (v := ?_) (a' := ?_) (bm 11 2047) rfl rfl (by kernel_rfl) (fun _ _ _ h => h) (Or.inl ⟨by rfl, ?_⟩) ?_ ?_
              rotate_left
              · intro w'
                go_simp
                with_reducible rfl
              rotate_left
              · simp only [Act.put, List.setIfInBounds_toArray, List.set_cons_zero, List.set_cons_succ, i64_w, i32_w]
                rfl
              refine done_ (by kernel_rfl) ?_
              clear hHeld
              generalize w9.drew = V at *
              go_wp2_with (go_at_call 14; (with_reducible refine (block_nil _).mono ?_); rintro e w10 ⟨rfl, hb10⟩; have lk := look_nilS w10 (blk_max y.f1); have HB10 := Lib.hid hb10; clear hb10)
              have HV10 : Hid (NodeBox w n (some ad) c4 A5 c5 w10) := Lib.hid ⟨(HB10.out.block _ (blk_lt HV9.out.1)).trans HV9.out.1, HV9.out.2.trans (HB10.out.mono HV9.out.2.size)⟩
              go_ret
              refine ⟨false, rfl, ⟨fun e => (by cases e), fun hN => ?_⟩, HV10.out.2⟩
              rcases hN.2 y HMEM.out with h | ⟨z, hz, h1, h2, h3⟩
              · exact absurd h HEQ.out
              · obtain ⟨z', hz', rfl⟩ := List.mem_map.1 hz
                exact (HNO.out z' hz' ⟨h1, h2⟩).elim
        · obtain rfl : m = n.f4.length := by omega
          have HOK2 : Hid (∀ e ∈ n.f4, BlockOk (Q.map (·.1)) n.f0 e) := Lib.hid (fun e he => by
            obtain ⟨j, hj, rfl⟩ := List.getElem_of_mem he
            have := HOK.out j hj
            unfold rd39 at this
            rwa [List.getD_eq_getElem?_getD, List.getElem?_eq_getElem hj, Option.getD_some] at this)
          clear HOK
          go_wp2
          go_ret
          exact ⟨true, rfl, ⟨fun _ => ⟨HOK1.out, HOK2.out⟩, fun _ => rfl⟩, HB.out.2⟩
end Go.Proofs.Ytnnnakgdmhmpmaa.Given
