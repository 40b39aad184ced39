/- (*Alloc).set, case by case. -/
import Derived.Test.YtppjeikkodjjhaaSteps
import Derived.Test.YtppjeikkodjjhaaA7
namespace Go.Proofs.Ytppjeikkodjjhaa.Given
open Go.RowKit Go.Shelf Go.Proofs.YtppjeikkodjjhaaW.PrintWords Go.Proofs.YtppjeikkodjjhaaW.PrintLast Go.Proofs.YtppjeikkodjjhaaW.PrintMore Go.Proofs.YtppjeikkodjjhaaBase Go.Proofs.Ytppjeikkodjjhaa.PGeo Go.Proofs.Ytppjeikkodjjhaa.PGet Go.Proofs.Ytppjeikkodjjhaa.PWith
set_option linter.unusedVariables false
set_option linter.unusedSimpArgs false

theorem set_f1 {gs : List S54} {x xb : Nat} {y yb yc : S54} {b : List Int} (hy : gs[x]? = some y) (hyb : gs[xb]? = some yb) (hyc : (gs.set x ⟨b, y.f1⟩)[xb]? = some yc) : yc.f1 = yb.f1 := by
  by_cases h : x = xb
  · subst h
    rw [List.getElem?_set_self (List.getElem?_eq_some_iff.1 hy).1] at hyc
    rw [hy] at hyb
    cases hyc
    cases hyb
    rfl
  · rw [List.getElem?_set_ne h, hyb] at hyc
    cases hyc
    rfl
section
variable {base : Nat} {ok : Nat → Prop} {W W1 : World} {g G n c x : Nat} {gr i d : Int} {gs : List S54} {y : S54} {b : List Int} {v : Value}
theorem IsA.put0 (hI : IsAB W g gr i d (.slice (some ⟨G, 0, none⟩) n c)) (hg : base ≤ g ∧ ok g) (h : Kd.R k54 54 W base ok (.slice (some ⟨G, 0, none⟩) n c) gs) (hy : gs[x]? = some y) (hbs : base ≤ W.heap.size) (hok : ∀ k, ok k → k < W.heap.size)
    (hb : Below W.heap.size W W1) (hv : Kd.R (Kd.int .u8) 5 W1 W.heap.size (fun _ => True) v b) :
    IsA base (fun k => ok k ∨ W.heap.size ≤ k) (W1.setCell ⟨G, x * 2, none⟩ v) g gr i d (gs.set x ⟨b, y.f1⟩) ∧ Off ok W (W1.setCell ⟨G, x * 2, none⟩ v) := by
  have := IsA.put_ true hI hg h hy hbs hok hb hv
  exact ⟨this.1, this.2.1⟩
theorem IsA.put1 (hI : IsAB W g gr i d (.slice (some ⟨G, 0, none⟩) n c)) (hg : base ≤ g ∧ ok g) (h : Kd.R k54 54 W base ok (.slice (some ⟨G, 0, none⟩) n c) gs) (hy : gs[x]? = some y) (hbs : base ≤ W.heap.size) (hok : ∀ k, ok k → k < W.heap.size)
    (hb : Below W.heap.size W W1) (hv : Kd.R (Kd.int .u8) 5 W1 W.heap.size (fun _ => True) v b) :
    IsA base (fun k => ok k ∨ W.heap.size ≤ k) (W1.setCell ⟨G, x * 2 + 1, none⟩ v) g gr i d (gs.set x ⟨y.f0, b⟩) ∧ Off ok W (W1.setCell ⟨G, x * 2 + 1, none⟩ v) := by
  have := IsA.put_ false hI hg h hy hbs hok hb hv
  exact ⟨this.1, this.2.1⟩
end
theorem bel_drew {w W : World} (h : Below w.heap.size w W) : Below w.heap.size w W.drew := below_drew h
set_option maxRecDepth 100000 in
set_option maxHeartbeats 4000000 in
theorem set_bad_any (g base : Nat) (ok : Nat → Prop) (gr i d : Int) (v : Value) (gs : List S54) (block : Int) (on : Bool) (dr : Int × Bool) (w : World) (ino : Int)
    (hI : IsAB w g gr i d v) (hg : base ≤ g ∧ ok g) (hok : ∀ k, ok k → k < w.heap.size) (hbs : base ≤ w.heap.size) (hgf : geom_Group.f gr i d ino = some (0, 0, false)) (hne : (ino != 0) = true) (hdf : geom_DataOf.f 1 gr i d block = some dr) :
    Calls Try.prog 36 #[.pointer (some ⟨g, 0, none⟩), .int .i64 ino, .int .i64 block, .bool on] w fun e w' => e = .returned (.bool false) ∧ Below w.heap.size w w' := by
  have c0 := hI.c0
  have c1 := hI.c1
  have c2 := hI.c2
  have c3 := hI.c3
  have HI := Lib.hid hI
  have HGF := Lib.hid hgf
  have HDF := Lib.hid hdf
  have HOK := Lib.hid hok
  have HG := Lib.hid hg
  clear hI hgf hdf hok hg
  obtain ⟨d1, d2⟩ := dr
  go_enter Try.func36, Try.ntmps36
  go_wp2_with (first | (go_at_call 44; refine (geom_Group.calls gr i d _ _ _ _ _ HGF.out).mono ?_; rintro e w1 ⟨rfl, hb⟩; have HB1 := Lib.hid hb; have hJ := HI.out.below hb; have c0 := hJ.c0; have c1 := hJ.c1; have c2 := hJ.c2; clear hb hJ) | (go_at_call 45; refine (geom_DataOf.calls 1 gr i d _ _ _ _ HDF.out).mono ?_; rintro e w2 ⟨rfl, hb⟩; have HB2 := Lib.hid (HB1.out.trans (hb.mono HB1.out.size)); have hJ := HI.out.below HB2.out; have c0 := hJ.c0; have c1 := hJ.c1; have c2 := hJ.c2; have c3 := hJ.c3; clear hb hJ))
  go_ret
  exact ⟨rfl, (by repeat (first | exact HB2.out | apply pw_below_drewN | apply bel_drew))⟩

set_option maxRecDepth 100000 in
set_option maxHeartbeats 4000000 in
theorem set_taken_any (g base : Nat) (ok : Nat → Prop) (gr i d : Int) (G n c : Nat) (gs : List S54) (block : Int) (on : Bool) (dr : Int × Bool) (w : World) (m x j : Nat) (y : S54) (b : Bool)
    (hI : IsAB w g gr i d (.slice (some ⟨G, 0, none⟩) n c)) (hg : base ≤ g ∧ ok g) (hok : ∀ k, ok k → k < w.heap.size) (hbs : base ≤ w.heap.size) (hR : Kd.R k54 54 w base ok (.slice (some ⟨G, 0, none⟩) n c) gs) (hn8 : n ≤ 8) (hgf : geom_Group.f gr i d ((m : Int) + 1) = some ((x : Int), (j : Int), true)) (hm : m < 100000) (hx : x < n) (hj : j < 100000) (hy : gs[x]? = some y) (hyl : y.f0.length < 1000000) (hget : bits_Get.f y.f0 (j : Int) = some b) (heq : (b == on) = true) (hdf : geom_DataOf.f 1 gr i d block = some dr) :
    Calls Try.prog 36 #[.pointer (some ⟨g, 0, none⟩), .int .i64 ((m : Int) + 1), .int .i64 block, .bool on] w fun e w' => e = .returned (.bool false) ∧ Below w.heap.size w w' := by
  have c0 := hI.c0
  have c1 := hI.c1
  have c2 := hI.c2
  have c3 := hI.c3
  have HI := Lib.hid hI
  have HGF := Lib.hid hgf
  have HDF := Lib.hid hdf
  have HOK := Lib.hid hok
  have HG := Lib.hid hg
  clear hI hgf hdf hok hg
  have HR := Lib.hid hR
  have hGlt := blk_lt_G hR
  have HN := Lib.hid (Kd.R_reads' hR).1
  clear hR
  obtain ⟨A0, a0, A1, a1, hgrp⟩ := grp_at HR.out hy
  have HGRP := Lib.hid hgrp
  have k0 := hgrp.k0
  have HY := Lib.hid hy
  have HYL := Lib.hid hyl
  have hx0 : (0 : Int) ≤ (x : Int) := by omega
  have hxi : (x : Int) < (n : Int) := by omega
  have hx8 : (x : Int) ≤ 7 := by omega
  have HGET : Hid (∀ W, Below w.heap.size w W → Calls Try.prog 46 #[.slice A0 y.f0.length a0, .int .i64 (j : Int)] W fun e w' => e = .returned (.bool b) ∧ Drawn0 W w') := Lib.hid (fun W hW => bits_Get.calls A0 a0 y.f0 _ _ W (HGRP.out.below hGlt hW).r0 HGRP.out.l0 hget)
  clear hgrp hy hget hyl
  obtain ⟨d1, d2⟩ := dr
  go_enter Try.func36, Try.ntmps36
  go_wp2_with (first | (go_at_call 44; refine (geom_Group.calls gr i d _ _ _ _ _ HGF.out).mono ?_; rintro e w1 ⟨rfl, hb⟩; have HB1 := Lib.hid hb; have hJ := HI.out.below hb; have c0 := hJ.c0; have c1 := hJ.c1; have c2 := hJ.c2; clear hb hJ) | (go_at_call 45; refine (geom_DataOf.calls 1 gr i d _ _ _ _ HDF.out).mono ?_; rintro e w2 ⟨rfl, hb⟩; have HB2 := Lib.hid (HB1.out.trans (hb.mono HB1.out.size)); have hJ := HI.out.below HB2.out; have c0 := hJ.c0; have c1 := hJ.c1; have c2 := hJ.c2; have c3 := hJ.c3; have k0 := pw_cell_below HB2.out HGRP.out.k0; clear hb hJ) | (go_at_call 46; refine (HGET.out _ (by repeat (first | exact HB2.out | apply pw_below_drewN | apply bel_drew))).mono ?_; rintro e w3 ⟨rfl, hd⟩; obtain ⟨nd, rfl⟩ := hd.out))
  go_ret
  exact ⟨rfl, (by repeat (first | exact HB2.out | apply pw_below_drewN | apply bel_drew))⟩

set_option maxRecDepth 100000 in
set_option maxHeartbeats 4000000 in
theorem set_zero_bad (g base : Nat) (ok : Nat → Prop) (gr i d : Int) (v : Value) (gs : List S54) (block : Int) (on : Bool) (dr : Int × Bool) (w : World)
    (hI : IsAB w g gr i d v) (hg : base ≤ g ∧ ok g) (hok : ∀ k, ok k → k < w.heap.size) (hbs : base ≤ w.heap.size) (hgf : geom_Group.f gr i d 0 = some (0, 0, false)) (hdf : geom_DataOf.f 1 gr i d block = some dr) (hb0 : (block != 0) = true) (hdr : dr.2 = false) :
    Calls Try.prog 36 #[.pointer (some ⟨g, 0, none⟩), .int .i64 0, .int .i64 block, .bool on] w fun e w' => e = .returned (.bool false) ∧ Below w.heap.size w w' := by
  have c0 := hI.c0
  have c1 := hI.c1
  have c2 := hI.c2
  have c3 := hI.c3
  have HI := Lib.hid hI
  have HGF := Lib.hid hgf
  have HDF := Lib.hid hdf
  have HOK := Lib.hid hok
  have HG := Lib.hid hg
  clear hI hgf hdf hok hg
  obtain ⟨d1, d2⟩ := dr
  obtain rfl : d2 = false := hdr
  go_enter Try.func36, Try.ntmps36
  go_wp2_with (first | (go_at_call 44; refine (geom_Group.calls gr i d _ _ _ _ _ HGF.out).mono ?_; rintro e w1 ⟨rfl, hb⟩; have HB1 := Lib.hid hb; have hJ := HI.out.below hb; have c0 := hJ.c0; have c1 := hJ.c1; have c2 := hJ.c2; clear hb hJ) | (go_at_call 45; refine (geom_DataOf.calls 1 gr i d _ _ _ _ HDF.out).mono ?_; rintro e w2 ⟨rfl, hb⟩; have HB2 := Lib.hid (HB1.out.trans (hb.mono HB1.out.size)); have hJ := HI.out.below HB2.out; have c0 := hJ.c0; have c1 := hJ.c1; have c2 := hJ.c2; have c3 := hJ.c3; clear hb hJ))
  go_ret
  exact ⟨rfl, (by repeat (first | exact HB2.out | apply pw_below_drewN | apply bel_drew))⟩

set_option maxRecDepth 100000 in
set_option maxHeartbeats 4000000 in
theorem set_good_bad (g base : Nat) (ok : Nat → Prop) (gr i d : Int) (G n c : Nat) (gs : List S54) (block : Int) (on : Bool) (dr : Int × Bool) (w : World) (m x j : Nat) (y : S54) (b : Bool)
    (hI : IsAB w g gr i d (.slice (some ⟨G, 0, none⟩) n c)) (hg : base ≤ g ∧ ok g) (hok : ∀ k, ok k → k < w.heap.size) (hbs : base ≤ w.heap.size) (hR : Kd.R k54 54 w base ok (.slice (some ⟨G, 0, none⟩) n c) gs) (hn8 : n ≤ 8) (hgf : geom_Group.f gr i d ((m : Int) + 1) = some ((x : Int), (j : Int), true)) (hm : m < 100000) (hx : x < n) (hj : j < 100000) (hy : gs[x]? = some y) (hyl : y.f0.length < 1000000) (hget : bits_Get.f y.f0 (j : Int) = some b) (heq : (b == on) = false) (hdf : geom_DataOf.f 1 gr i d block = some dr) (hb0 : (block != 0) = true) (hdr : dr.2 = false) :
    Calls Try.prog 36 #[.pointer (some ⟨g, 0, none⟩), .int .i64 ((m : Int) + 1), .int .i64 block, .bool on] w fun e w' => e = .returned (.bool false) ∧ Below w.heap.size w w' := by
  have c0 := hI.c0
  have c1 := hI.c1
  have c2 := hI.c2
  have c3 := hI.c3
  have HI := Lib.hid hI
  have HGF := Lib.hid hgf
  have HDF := Lib.hid hdf
  have HOK := Lib.hid hok
  have HG := Lib.hid hg
  clear hI hgf hdf hok hg
  have HR := Lib.hid hR
  have hGlt := blk_lt_G hR
  have HN := Lib.hid (Kd.R_reads' hR).1
  clear hR
  obtain ⟨A0, a0, A1, a1, hgrp⟩ := grp_at HR.out hy
  have HGRP := Lib.hid hgrp
  have k0 := hgrp.k0
  have HY := Lib.hid hy
  have HYL := Lib.hid hyl
  have hx0 : (0 : Int) ≤ (x : Int) := by omega
  have hxi : (x : Int) < (n : Int) := by omega
  have hx8 : (x : Int) ≤ 7 := by omega
  have HGET : Hid (∀ W, Below w.heap.size w W → Calls Try.prog 46 #[.slice A0 y.f0.length a0, .int .i64 (j : Int)] W fun e w' => e = .returned (.bool b) ∧ Drawn0 W w') := Lib.hid (fun W hW => bits_Get.calls A0 a0 y.f0 _ _ W (HGRP.out.below hGlt hW).r0 HGRP.out.l0 hget)
  have hwf := with_nat (l := y.f0) hyl j (by omega) on 0
  have HWITH : Hid (∀ W, Below w.heap.size w W → Calls Try.prog 30 #[.slice A0 y.f0.length a0, .int .i64 (j : Int), .bool on] W fun e w' => ∃ v, e = .returned v ∧ Kd.R (Kd.int .u8) 5 w' w.heap.size (fun _ => True) v (withB y.f0 j on) ∧ Below w.heap.size w w') := Lib.hid (fun W hW => (bits_With.calls 1 A0 a0 y.f0 (j : Int) on _ W (HGRP.out.below hGlt hW).r0 HGRP.out.l0 hwf).mono (fun e w' h => by obtain ⟨v, h1, h2, h3⟩ := h; exact ⟨v, h1, Kd.R_lower h2 hW.size, hW.trans (h3.mono hW.size)⟩))
  clear hwf
  clear hgrp hy hget hyl
  obtain ⟨d1, d2⟩ := dr
  obtain rfl : d2 = false := hdr
  go_enter Try.func36, Try.ntmps36
  go_wp2_with (first | (go_at_call 44; refine (geom_Group.calls gr i d _ _ _ _ _ HGF.out).mono ?_; rintro e w1 ⟨rfl, hb⟩; have HB1 := Lib.hid hb; have hJ := HI.out.below hb; have c0 := hJ.c0; have c1 := hJ.c1; have c2 := hJ.c2; clear hb hJ) | (go_at_call 45; refine (geom_DataOf.calls 1 gr i d _ _ _ _ HDF.out).mono ?_; rintro e w2 ⟨rfl, hb⟩; have HB2 := Lib.hid (HB1.out.trans (hb.mono HB1.out.size)); have hJ := HI.out.below HB2.out; have c0 := hJ.c0; have c1 := hJ.c1; have c2 := hJ.c2; have c3 := hJ.c3; have k0 := pw_cell_below HB2.out HGRP.out.k0; clear hb hJ) | (go_at_call 46; refine (HGET.out _ (by repeat (first | exact HB2.out | apply pw_below_drewN | apply bel_drew))).mono ?_; rintro e w3 ⟨rfl, hd⟩; obtain ⟨nd, rfl⟩ := hd.out))
  go_ret
  exact ⟨rfl, (by repeat (first | exact HB2.out | apply pw_below_drewN | apply bel_drew))⟩

set_option maxRecDepth 100000 in
set_option maxHeartbeats 4000000 in
theorem set_zero_taken (g base : Nat) (ok : Nat → Prop) (gr i d : Int) (G n c : Nat) (gs : List S54) (block : Int) (on : Bool) (dr : Int × Bool) (w : World) (q dd xb jb : Nat) (yb : S54) (bb : Bool)
    (hI : IsAB w g gr i d (.slice (some ⟨G, 0, none⟩) n c)) (hg : base ≤ g ∧ ok g) (hok : ∀ k, ok k → k < w.heap.size) (hbs : base ≤ w.heap.size) (hR : Kd.R k54 54 w base ok (.slice (some ⟨G, 0, none⟩) n c) gs) (hn8 : n ≤ 8) (hgf : geom_Group.f gr i d 0 = some (0, 0, false)) (hdf : geom_DataOf.f 1 gr i d block = some dr) (hb0 : (block != 0) = true) (hdr : dr = ((dd : Int), true)) (hdq : d = (q : Int)) (hq0 : ¬ (q = 0)) (hq1 : q ≤ 1000) (hdd : dd < 100000) (hxb : dd / q = xb) (hjb : dd % q = jb) (hxn : xb < n) (hyb : gs[xb]? = some yb) (hybl : yb.f1.length < 1000000) (hgetb : bits_Get.f yb.f1 (jb : Int) = some bb) (heqb : (bb == on) = true) :
    Calls Try.prog 36 #[.pointer (some ⟨g, 0, none⟩), .int .i64 0, .int .i64 block, .bool on] w fun e w' => e = .returned (.bool false) ∧ Below w.heap.size w w' := by
  have c0 := hI.c0
  have c1 := hI.c1
  have c2 := hI.c2
  have c3 := hI.c3
  have HI := Lib.hid hI
  have HGF := Lib.hid hgf
  have HDF := Lib.hid hdf
  have HOK := Lib.hid hok
  have HG := Lib.hid hg
  clear hI hgf hdf hok hg
  have HR := Lib.hid hR
  have hGlt := blk_lt_G hR
  have HN := Lib.hid (Kd.R_reads' hR).1
  clear hR
  subst hdr
  obtain ⟨E0, e0, E1, e1, hgrpb⟩ := grp_at HR.out hyb
  have HGRPB := Lib.hid hgrpb
  have k1 := hgrpb.k1
  have HYB := Lib.hid hyb
  have HYBL := Lib.hid hybl
  have hxb0 : (0 : Int) ≤ (xb : Int) := by omega
  have hxbi : (xb : Int) < (n : Int) := by omega
  have hxb8 : (xb : Int) ≤ 7 := by omega
  have HGETB : Hid (∀ W, Below w.heap.size w W → Calls Try.prog 46 #[.slice E1 yb.f1.length e1, .int .i64 (jb : Int)] W fun e w' => e = .returned (.bool bb) ∧ Drawn0 W w') := Lib.hid (fun W hW => bits_Get.calls E1 e1 yb.f1 _ _ W (HGRPB.out.below hGlt hW).r1 HGRPB.out.l1 hgetb)
  have t1 : (dd : Int) / (q : Int) = (xb : Int) := by rw [← hxb, Int.natCast_ediv]
  have t2 : Int.tdiv (dd : Int) (q : Int) = (xb : Int) := by rw [Int.tdiv_eq_ediv_of_nonneg (by omega)]; exact t1
  have t3 : (dd : Int) % (q : Int) = (jb : Int) := by rw [← hjb, Int.natCast_emod]
  have t4 : Int.tmod (dd : Int) (q : Int) = (jb : Int) := by rw [Int.tmod_eq_emod_of_nonneg (by omega)]; exact t3
  have t5 : IntKind.i64.wrap (xb : Int) = (xb : Int) := by rw [i64_w]; exact w64_id (by omega) (by omega)
  have t6 : wrap64 (xb : Int) = (xb : Int) := w64_id (by omega) (by omega)
  have HQ := Lib.hid hdq
  have HXB := Lib.hid hxb
  have HJB := Lib.hid hjb
  have HXN := Lib.hid hxn
  have T1 := Lib.hid t1
  have T2 := Lib.hid t2
  have T3 := Lib.hid t3
  have T4 := Lib.hid t4
  have T6 := Lib.hid t6
  clear hgrpb hyb hgetb hybl hxb hjb hdq t1 t2 t3 t4 t5 t6
  go_enter Try.func36, Try.ntmps36
  go_wp2_with (first | (go_at_call 44; refine (geom_Group.calls gr i d _ _ _ _ _ HGF.out).mono ?_; rintro e w1 ⟨rfl, hb⟩; have HB1 := Lib.hid hb; have hJ := HI.out.below hb; have c0 := hJ.c0; have c1 := hJ.c1; have c2 := hJ.c2; clear hb hJ) | (go_at_call 45; refine (geom_DataOf.calls 1 gr i d _ _ _ _ HDF.out).mono ?_; rintro e w2 ⟨rfl, hb⟩; have HB2 := Lib.hid (HB1.out.trans (hb.mono HB1.out.size)); have hJ := HI.out.below HB2.out; have c0 := hJ.c0; have c1 := hJ.c1; have c2 := hJ.c2; have c3 := hJ.c3; clear hb hJ))
  refine start_ (n := 28) (S := fun w' => w'.cell? ⟨g, 3, none⟩ = some (.slice (some ⟨G, 0, none⟩) n c) ∧ w'.cell? ⟨g, 2, none⟩ = some (.int .i64 (q : Int)) ∧ w'.cell? ⟨G, xb * 2 + 1, none⟩ = some (.slice E1 yb.f1.length e1)) (ds := []) #[false, false, false, false, false, false, false, false, false, false, false, false, false, false, false, false, false, false, false, false, false, false, false, false, false, false, false, false] (by kernel_rfl) rfl rfl ⟨pw_cell_below (by repeat (first | exact HB2.out | apply pw_below_drewN | apply bel_drew)) HI.out.c3, by rw [← HQ.out]; exact pw_cell_below (by repeat (first | exact HB2.out | apply pw_below_drewN | apply bel_drew)) HI.out.c2, pw_cell_below (by repeat (first | exact HB2.out | apply pw_below_drewN | apply bel_drew)) HGRPB.out.k1⟩ (fun hHeld => ?_)
  refine pu_ 0 (some 62) (bm 28 1) ?_ (ha := by simp only [Act.put, List.setIfInBounds_toArray, List.set_cons_zero, List.set_cons_succ, i64_w, i32_w, T1.out, T2.out, T3.out, T4.out, T6.out]; rfl)
  refine pu_ 1 (some 63) (bm 28 3) ?_ (ha := by simp only [Act.put, List.setIfInBounds_toArray, List.set_cons_zero, List.set_cons_succ, i64_w, i32_w, T1.out, T2.out, T3.out, T4.out, T6.out]; rfl)
  refine pu_ 2 (some 64) (bm 28 7) ?_ (ha := by simp only [Act.put, List.setIfInBounds_toArray, List.set_cons_zero, List.set_cons_succ, i64_w, i32_w, T1.out, T2.out, T3.out, T4.out, T6.out]; rfl)
  refine pu_ 3 (some 65) (bm 28 15) ?_ (ha := by simp only [Act.put, List.setIfInBounds_toArray, List.set_cons_zero, List.set_cons_succ, i64_w, i32_w, T1.out, T2.out, T3.out, T4.out, T6.out]; rfl)
  refine pu_ 4 (some 66) (bm 28 31) ?_ (ha := by simp only [Act.put, List.setIfInBounds_toArray, List.set_cons_zero, List.set_cons_succ, i64_w, i32_w, T1.out, T2.out, T3.out, T4.out, T6.out]; rfl)
  refine pu_ 5 (some 67) (bm 28 63) ?_ (ha := by simp only [Act.put, List.setIfInBounds_toArray, List.set_cons_zero, List.set_cons_succ, i64_w, i32_w, T1.out, T2.out, T3.out, T4.out, T6.out]; rfl)
  refine tk3_ 6 (some 68) (bm 28 127) hHeld ?_ (ha := by simp only [Act.put, List.setIfInBounds_toArray, List.set_cons_zero, List.set_cons_succ, i64_w, i32_w, T1.out, T2.out, T3.out, T4.out, T6.out]; rfl)
  refine pu_ 7 (some 69) (bm 28 255) ?_ (ha := by simp only [Act.put, List.setIfInBounds_toArray, List.set_cons_zero, List.set_cons_succ, i64_w, i32_w, T1.out, T2.out, T3.out, T4.out, T6.out]; rfl)
  refine pu_ 8 (some 70) (bm 28 511) ?_ (ha := by simp only [Act.put, List.setIfInBounds_toArray, List.set_cons_zero, List.set_cons_succ, i64_w, i32_w, T1.out, T2.out, T3.out, T4.out, T6.out]; rfl)
  refine pu_ 9 (some 71) (bm 28 1023) ?_ (ha := by simp only [Act.put, List.setIfInBounds_toArray, List.set_cons_zero, List.set_cons_succ, i64_w, i32_w, T1.out, T2.out, T3.out, T4.out, T6.out]; rfl)
  refine pu_ 10 (some 72) (bm 28 2047) ?_ (ha := by simp only [Act.put, List.setIfInBounds_toArray, List.set_cons_zero, List.set_cons_succ, i64_w, i32_w, T1.out, T2.out, T3.out, T4.out, T6.out]; rfl)
  refine pu_ 11 (some 73) (bm 28 4095) ?_ (ha := by simp only [Act.put, List.setIfInBounds_toArray, List.set_cons_zero, List.set_cons_succ, i64_w, i32_w, T1.out, T2.out, T3.out, T4.out, T6.out]; rfl)
  refine tk3_ 12 (some 74) (bm 28 8191) hHeld ?_ (ha := by simp only [Act.put, List.setIfInBounds_toArray, List.set_cons_zero, List.set_cons_succ, i64_w, i32_w, T1.out, T2.out, T3.out, T4.out, T6.out]; rfl)
  refine pu_ 13 (some 75) (bm 28 16383) ?_ (ha := by simp only [Act.put, List.setIfInBounds_toArray, List.set_cons_zero, List.set_cons_succ, i64_w, i32_w, T1.out, T2.out, T3.out, T4.out, T6.out]; rfl)
  refine pu_ 14 (some 76) (bm 28 32767) ?_ (ha := by simp only [Act.put, List.setIfInBounds_toArray, List.set_cons_zero, List.set_cons_succ, i64_w, i32_w, T1.out, T2.out, T3.out, T4.out, T6.out]; rfl)
  refine pu_ 15 (some 77) (bm 28 65535) ?_ (ha := by simp only [Act.put, List.setIfInBounds_toArray, List.set_cons_zero, List.set_cons_succ, i64_w, i32_w, T1.out, T2.out, T3.out, T4.out, T6.out]; rfl)
  refine tk3_ 16 (some 78) (bm 28 131071) hHeld ?_ (ha := by simp only [Act.put, List.setIfInBounds_toArray, List.set_cons_zero, List.set_cons_succ, i64_w, i32_w, T1.out, T2.out, T3.out, T4.out, T6.out]; rfl)
  refine pu_ 17 (some 79) (bm 28 262143) ?_ (ha := by simp only [Act.put, List.setIfInBounds_toArray, List.set_cons_zero, List.set_cons_succ, i64_w, i32_w, T1.out, T2.out, T3.out, T4.out, T6.out]; rfl)
  refine pu_ 18 (some 80) (bm 28 524287) ?_ (ha := by simp only [Act.put, List.setIfInBounds_toArray, List.set_cons_zero, List.set_cons_succ, i64_w, i32_w, T1.out, T2.out, T3.out, T4.out, T6.out]; rfl)
  refine pu_ 19 (some 81) (bm 28 1048575) ?_ (ha := by simp only [Act.put, List.setIfInBounds_toArray, List.set_cons_zero, List.set_cons_succ, i64_w, i32_w, T1.out, T2.out, T3.out, T4.out, T6.out]; rfl)
  refine pu_ 20 (some 82) (bm 28 2097151) ?_ (ha := by simp only [Act.put, List.setIfInBounds_toArray, List.set_cons_zero, List.set_cons_succ, i64_w, i32_w, T1.out, T2.out, T3.out, T4.out, T6.out]; rfl)
  refine pu_ 21 (some 83) (bm 28 4194303) ?_ (ha := by simp only [Act.put, List.setIfInBounds_toArray, List.set_cons_zero, List.set_cons_succ, i64_w, i32_w, T1.out, T2.out, T3.out, T4.out, T6.out]; rfl)
  refine tk3_ 22 (some 84) (bm 28 8388607) hHeld ?_ (ha := by simp only [Act.put, List.setIfInBounds_toArray, List.set_cons_zero, List.set_cons_succ, i64_w, i32_w, T1.out, T2.out, T3.out, T4.out, T6.out]; rfl)
  refine pu_ 23 (some 85) (bm 28 16777215) ?_ (ha := by simp only [Act.put, List.setIfInBounds_toArray, List.set_cons_zero, List.set_cons_succ, i64_w, i32_w, T1.out, T2.out, T3.out, T4.out, T6.out]; rfl)
  refine pu_ 25 (some 87) (bm 28 50331647) ?_ (ha := by simp only [Act.put, List.setIfInBounds_toArray, List.set_cons_zero, List.set_cons_succ, i64_w, i32_w, T1.out, T2.out, T3.out, T4.out, T6.out]; rfl)
  refine one_ (i := 24) (N := some 86) (bm 28 67108863) rfl rfl (by kernel_rfl) (by decide) (fun K hK => ?_)
  refine goes_ Try.func46 (by kernel_rfl) rfl #[.slice E1 yb.f1.length e1, .int .i64 (jb : Int)] (by rfl) rfl rfl (by (try simp only [List.map_toArray, List.map_cons, List.map_nil]); first | done | rfl) ?_
  refine (HGETB.out _ (by repeat (first | exact HB2.out | apply pw_below_drewN | apply bel_drew))).mono ?_
  rintro e w4 ⟨rfl, hd⟩
  obtain ⟨ne, rfl⟩ := hd.out
  refine ⟨_, rfl, hK.out _ _ ⟨hHeld.1, hHeld.2.1, hHeld.2.2⟩ (fun hHeld => ?_)⟩
  clear hK K
  refine norm_ (a' := ?_) ?_ ?_
  rotate_left
  · show Act.put _ (some 86) _ = _
    simp only [Act.put, List.setIfInBounds_toArray, List.set_cons_zero, List.set_cons_succ, i64_w, i32_w, T1.out, T2.out, T3.out, T4.out, T6.out]
    rfl
  refine pu_ 26 (some 88) (bm 28 134217727) ?_ (ha := by simp only [Act.put, List.setIfInBounds_toArray, List.set_cons_zero, List.set_cons_succ, i64_w, i32_w, T1.out, T2.out, T3.out, T4.out, T6.out]; rfl)
  refine pu_ 27 (some 89) (bm 28 268435455) ?_ (ha := by simp only [Act.put, List.setIfInBounds_toArray, List.set_cons_zero, List.set_cons_succ, i64_w, i32_w, T1.out, T2.out, T3.out, T4.out, T6.out]; rfl)
  refine done_ (by kernel_rfl) ?_
  go_wp2
  go_ret
  exact ⟨rfl, (by repeat (first | exact HB2.out | apply pw_below_drewN | apply bel_drew))⟩

set_option maxRecDepth 100000 in
set_option maxHeartbeats 4000000 in
theorem set_good_taken (g base : Nat) (ok : Nat → Prop) (gr i d : Int) (G n c : Nat) (gs : List S54) (block : Int) (on : Bool) (dr : Int × Bool) (w : World) (m x j : Nat) (y : S54) (b : Bool) (q dd xb jb : Nat) (yb : S54) (bb : Bool)
    (hI : IsAB w g gr i d (.slice (some ⟨G, 0, none⟩) n c)) (hg : base ≤ g ∧ ok g) (hok : ∀ k, ok k → k < w.heap.size) (hbs : base ≤ w.heap.size) (hR : Kd.R k54 54 w base ok (.slice (some ⟨G, 0, none⟩) n c) gs) (hn8 : n ≤ 8) (hgf : geom_Group.f gr i d ((m : Int) + 1) = some ((x : Int), (j : Int), true)) (hm : m < 100000) (hx : x < n) (hj : j < 100000) (hy : gs[x]? = some y) (hyl : y.f0.length < 1000000) (hget : bits_Get.f y.f0 (j : Int) = some b) (heq : (b == on) = false) (hdf : geom_DataOf.f 1 gr i d block = some dr) (hb0 : (block != 0) = true) (hdr : dr = ((dd : Int), true)) (hdq : d = (q : Int)) (hq0 : ¬ (q = 0)) (hq1 : q ≤ 1000) (hdd : dd < 100000) (hxb : dd / q = xb) (hjb : dd % q = jb) (hxn : xb < n) (hyb : gs[xb]? = some yb) (hybl : yb.f1.length < 1000000) (hgetb : bits_Get.f yb.f1 (jb : Int) = some bb) (heqb : (bb == on) = true) :
    Calls Try.prog 36 #[.pointer (some ⟨g, 0, none⟩), .int .i64 ((m : Int) + 1), .int .i64 block, .bool on] w fun e w' => e = .returned (.bool false) ∧ Below w.heap.size w w' := by
  have c0 := hI.c0
  have c1 := hI.c1
  have c2 := hI.c2
  have c3 := hI.c3
  have HI := Lib.hid hI
  have HGF := Lib.hid hgf
  have HDF := Lib.hid hdf
  have HOK := Lib.hid hok
  have HG := Lib.hid hg
  clear hI hgf hdf hok hg
  have HR := Lib.hid hR
  have hGlt := blk_lt_G hR
  have HN := Lib.hid (Kd.R_reads' hR).1
  clear hR
  obtain ⟨A0, a0, A1, a1, hgrp⟩ := grp_at HR.out hy
  have HGRP := Lib.hid hgrp
  have k0 := hgrp.k0
  have HY := Lib.hid hy
  have HYL := Lib.hid hyl
  have hx0 : (0 : Int) ≤ (x : Int) := by omega
  have hxi : (x : Int) < (n : Int) := by omega
  have hx8 : (x : Int) ≤ 7 := by omega
  have HGET : Hid (∀ W, Below w.heap.size w W → Calls Try.prog 46 #[.slice A0 y.f0.length a0, .int .i64 (j : Int)] W fun e w' => e = .returned (.bool b) ∧ Drawn0 W w') := Lib.hid (fun W hW => bits_Get.calls A0 a0 y.f0 _ _ W (HGRP.out.below hGlt hW).r0 HGRP.out.l0 hget)
  have hwf := with_nat (l := y.f0) hyl j (by omega) on 0
  have HWITH : Hid (∀ W, Below w.heap.size w W → Calls Try.prog 30 #[.slice A0 y.f0.length a0, .int .i64 (j : Int), .bool on] W fun e w' => ∃ v, e = .returned v ∧ Kd.R (Kd.int .u8) 5 w' w.heap.size (fun _ => True) v (withB y.f0 j on) ∧ Below w.heap.size w w') := Lib.hid (fun W hW => (bits_With.calls 1 A0 a0 y.f0 (j : Int) on _ W (HGRP.out.below hGlt hW).r0 HGRP.out.l0 hwf).mono (fun e w' h => by obtain ⟨v, h1, h2, h3⟩ := h; exact ⟨v, h1, Kd.R_lower h2 hW.size, hW.trans (h3.mono hW.size)⟩))
  clear hwf
  clear hgrp hy hget hyl
  subst hdr
  obtain ⟨E0, e0, E1, e1, hgrpb⟩ := grp_at HR.out hyb
  have HGRPB := Lib.hid hgrpb
  have k1 := hgrpb.k1
  have HYB := Lib.hid hyb
  have HYBL := Lib.hid hybl
  have hxb0 : (0 : Int) ≤ (xb : Int) := by omega
  have hxbi : (xb : Int) < (n : Int) := by omega
  have hxb8 : (xb : Int) ≤ 7 := by omega
  have HGETB : Hid (∀ W, Below w.heap.size w W → Calls Try.prog 46 #[.slice E1 yb.f1.length e1, .int .i64 (jb : Int)] W fun e w' => e = .returned (.bool bb) ∧ Drawn0 W w') := Lib.hid (fun W hW => bits_Get.calls E1 e1 yb.f1 _ _ W (HGRPB.out.below hGlt hW).r1 HGRPB.out.l1 hgetb)
  have t1 : (dd : Int) / (q : Int) = (xb : Int) := by rw [← hxb, Int.natCast_ediv]
  have t2 : Int.tdiv (dd : Int) (q : Int) = (xb : Int) := by rw [Int.tdiv_eq_ediv_of_nonneg (by omega)]; exact t1
  have t3 : (dd : Int) % (q : Int) = (jb : Int) := by rw [← hjb, Int.natCast_emod]
  have t4 : Int.tmod (dd : Int) (q : Int) = (jb : Int) := by rw [Int.tmod_eq_emod_of_nonneg (by omega)]; exact t3
  have t5 : IntKind.i64.wrap (xb : Int) = (xb : Int) := by rw [i64_w]; exact w64_id (by omega) (by omega)
  have t6 : wrap64 (xb : Int) = (xb : Int) := w64_id (by omega) (by omega)
  have HQ := Lib.hid hdq
  have HXB := Lib.hid hxb
  have HJB := Lib.hid hjb
  have HXN := Lib.hid hxn
  have T1 := Lib.hid t1
  have T2 := Lib.hid t2
  have T3 := Lib.hid t3
  have T4 := Lib.hid t4
  have T6 := Lib.hid t6
  clear hgrpb hyb hgetb hybl hxb hjb hdq t1 t2 t3 t4 t5 t6
  go_enter Try.func36, Try.ntmps36
  go_wp2_with (first | (go_at_call 44; refine (geom_Group.calls gr i d _ _ _ _ _ HGF.out).mono ?_; rintro e w1 ⟨rfl, hb⟩; have HB1 := Lib.hid hb; have hJ := HI.out.below hb; have c0 := hJ.c0; have c1 := hJ.c1; have c2 := hJ.c2; clear hb hJ) | (go_at_call 45; refine (geom_DataOf.calls 1 gr i d _ _ _ _ HDF.out).mono ?_; rintro e w2 ⟨rfl, hb⟩; have HB2 := Lib.hid (HB1.out.trans (hb.mono HB1.out.size)); have hJ := HI.out.below HB2.out; have c0 := hJ.c0; have c1 := hJ.c1; have c2 := hJ.c2; have c3 := hJ.c3; have k0 := pw_cell_below HB2.out HGRP.out.k0; clear hb hJ) | (go_at_call 46; refine (HGET.out _ (by repeat (first | exact HB2.out | apply pw_below_drewN | apply bel_drew))).mono ?_; rintro e w3 ⟨rfl, hd⟩; obtain ⟨nd, rfl⟩ := hd.out))
  refine start_ (n := 28) (S := fun w' => w'.cell? ⟨g, 3, none⟩ = some (.slice (some ⟨G, 0, none⟩) n c) ∧ w'.cell? ⟨g, 2, none⟩ = some (.int .i64 (q : Int)) ∧ w'.cell? ⟨G, xb * 2 + 1, none⟩ = some (.slice E1 yb.f1.length e1)) (ds := []) #[false, false, false, false, false, false, false, false, false, false, false, false, false, false, false, false, false, false, false, false, false, false, false, false, false, false, false, false] (by kernel_rfl) rfl rfl ⟨pw_cell_below (by repeat (first | exact HB2.out | apply pw_below_drewN | apply bel_drew)) HI.out.c3, by rw [← HQ.out]; exact pw_cell_below (by repeat (first | exact HB2.out | apply pw_below_drewN | apply bel_drew)) HI.out.c2, pw_cell_below (by repeat (first | exact HB2.out | apply pw_below_drewN | apply bel_drew)) HGRPB.out.k1⟩ (fun hHeld => ?_)
  refine pu_ 0 (some 62) (bm 28 1) ?_ (ha := by simp only [Act.put, List.setIfInBounds_toArray, List.set_cons_zero, List.set_cons_succ, i64_w, i32_w, T1.out, T2.out, T3.out, T4.out, T6.out]; rfl)
  refine pu_ 1 (some 63) (bm 28 3) ?_ (ha := by simp only [Act.put, List.setIfInBounds_toArray, List.set_cons_zero, List.set_cons_succ, i64_w, i32_w, T1.out, T2.out, T3.out, T4.out, T6.out]; rfl)
  refine pu_ 2 (some 64) (bm 28 7) ?_ (ha := by simp only [Act.put, List.setIfInBounds_toArray, List.set_cons_zero, List.set_cons_succ, i64_w, i32_w, T1.out, T2.out, T3.out, T4.out, T6.out]; rfl)
  refine pu_ 3 (some 65) (bm 28 15) ?_ (ha := by simp only [Act.put, List.setIfInBounds_toArray, List.set_cons_zero, List.set_cons_succ, i64_w, i32_w, T1.out, T2.out, T3.out, T4.out, T6.out]; rfl)
  refine pu_ 4 (some 66) (bm 28 31) ?_ (ha := by simp only [Act.put, List.setIfInBounds_toArray, List.set_cons_zero, List.set_cons_succ, i64_w, i32_w, T1.out, T2.out, T3.out, T4.out, T6.out]; rfl)
  refine pu_ 5 (some 67) (bm 28 63) ?_ (ha := by simp only [Act.put, List.setIfInBounds_toArray, List.set_cons_zero, List.set_cons_succ, i64_w, i32_w, T1.out, T2.out, T3.out, T4.out, T6.out]; rfl)
  refine tk3_ 6 (some 68) (bm 28 127) hHeld ?_ (ha := by simp only [Act.put, List.setIfInBounds_toArray, List.set_cons_zero, List.set_cons_succ, i64_w, i32_w, T1.out, T2.out, T3.out, T4.out, T6.out]; rfl)
  refine pu_ 7 (some 69) (bm 28 255) ?_ (ha := by simp only [Act.put, List.setIfInBounds_toArray, List.set_cons_zero, List.set_cons_succ, i64_w, i32_w, T1.out, T2.out, T3.out, T4.out, T6.out]; rfl)
  refine pu_ 8 (some 70) (bm 28 511) ?_ (ha := by simp only [Act.put, List.setIfInBounds_toArray, List.set_cons_zero, List.set_cons_succ, i64_w, i32_w, T1.out, T2.out, T3.out, T4.out, T6.out]; rfl)
  refine pu_ 9 (some 71) (bm 28 1023) ?_ (ha := by simp only [Act.put, List.setIfInBounds_toArray, List.set_cons_zero, List.set_cons_succ, i64_w, i32_w, T1.out, T2.out, T3.out, T4.out, T6.out]; rfl)
  refine pu_ 10 (some 72) (bm 28 2047) ?_ (ha := by simp only [Act.put, List.setIfInBounds_toArray, List.set_cons_zero, List.set_cons_succ, i64_w, i32_w, T1.out, T2.out, T3.out, T4.out, T6.out]; rfl)
  refine pu_ 11 (some 73) (bm 28 4095) ?_ (ha := by simp only [Act.put, List.setIfInBounds_toArray, List.set_cons_zero, List.set_cons_succ, i64_w, i32_w, T1.out, T2.out, T3.out, T4.out, T6.out]; rfl)
  refine tk3_ 12 (some 74) (bm 28 8191) hHeld ?_ (ha := by simp only [Act.put, List.setIfInBounds_toArray, List.set_cons_zero, List.set_cons_succ, i64_w, i32_w, T1.out, T2.out, T3.out, T4.out, T6.out]; rfl)
  refine pu_ 13 (some 75) (bm 28 16383) ?_ (ha := by simp only [Act.put, List.setIfInBounds_toArray, List.set_cons_zero, List.set_cons_succ, i64_w, i32_w, T1.out, T2.out, T3.out, T4.out, T6.out]; rfl)
  refine pu_ 14 (some 76) (bm 28 32767) ?_ (ha := by simp only [Act.put, List.setIfInBounds_toArray, List.set_cons_zero, List.set_cons_succ, i64_w, i32_w, T1.out, T2.out, T3.out, T4.out, T6.out]; rfl)
  refine pu_ 15 (some 77) (bm 28 65535) ?_ (ha := by simp only [Act.put, List.setIfInBounds_toArray, List.set_cons_zero, List.set_cons_succ, i64_w, i32_w, T1.out, T2.out, T3.out, T4.out, T6.out]; rfl)
  refine tk3_ 16 (some 78) (bm 28 131071) hHeld ?_ (ha := by simp only [Act.put, List.setIfInBounds_toArray, List.set_cons_zero, List.set_cons_succ, i64_w, i32_w, T1.out, T2.out, T3.out, T4.out, T6.out]; rfl)
  refine pu_ 17 (some 79) (bm 28 262143) ?_ (ha := by simp only [Act.put, List.setIfInBounds_toArray, List.set_cons_zero, List.set_cons_succ, i64_w, i32_w, T1.out, T2.out, T3.out, T4.out, T6.out]; rfl)
  refine pu_ 18 (some 80) (bm 28 524287) ?_ (ha := by simp only [Act.put, List.setIfInBounds_toArray, List.set_cons_zero, List.set_cons_succ, i64_w, i32_w, T1.out, T2.out, T3.out, T4.out, T6.out]; rfl)
  refine pu_ 19 (some 81) (bm 28 1048575) ?_ (ha := by simp only [Act.put, List.setIfInBounds_toArray, List.set_cons_zero, List.set_cons_succ, i64_w, i32_w, T1.out, T2.out, T3.out, T4.out, T6.out]; rfl)
  refine pu_ 20 (some 82) (bm 28 2097151) ?_ (ha := by simp only [Act.put, List.setIfInBounds_toArray, List.set_cons_zero, List.set_cons_succ, i64_w, i32_w, T1.out, T2.out, T3.out, T4.out, T6.out]; rfl)
  refine pu_ 21 (some 83) (bm 28 4194303) ?_ (ha := by simp only [Act.put, List.setIfInBounds_toArray, List.set_cons_zero, List.set_cons_succ, i64_w, i32_w, T1.out, T2.out, T3.out, T4.out, T6.out]; rfl)
  refine tk3_ 22 (some 84) (bm 28 8388607) hHeld ?_ (ha := by simp only [Act.put, List.setIfInBounds_toArray, List.set_cons_zero, List.set_cons_succ, i64_w, i32_w, T1.out, T2.out, T3.out, T4.out, T6.out]; rfl)
  refine pu_ 23 (some 85) (bm 28 16777215) ?_ (ha := by simp only [Act.put, List.setIfInBounds_toArray, List.set_cons_zero, List.set_cons_succ, i64_w, i32_w, T1.out, T2.out, T3.out, T4.out, T6.out]; rfl)
  refine pu_ 25 (some 87) (bm 28 50331647) ?_ (ha := by simp only [Act.put, List.setIfInBounds_toArray, List.set_cons_zero, List.set_cons_succ, i64_w, i32_w, T1.out, T2.out, T3.out, T4.out, T6.out]; rfl)
  refine one_ (i := 24) (N := some 86) (bm 28 67108863) rfl rfl (by kernel_rfl) (by decide) (fun K hK => ?_)
  refine goes_ Try.func46 (by kernel_rfl) rfl #[.slice E1 yb.f1.length e1, .int .i64 (jb : Int)] (by rfl) rfl rfl (by (try simp only [List.map_toArray, List.map_cons, List.map_nil]); first | done | rfl) ?_
  refine (HGETB.out _ (by repeat (first | exact HB2.out | apply pw_below_drewN | apply bel_drew))).mono ?_
  rintro e w4 ⟨rfl, hd⟩
  obtain ⟨ne, rfl⟩ := hd.out
  refine ⟨_, rfl, hK.out _ _ ⟨hHeld.1, hHeld.2.1, hHeld.2.2⟩ (fun hHeld => ?_)⟩
  clear hK K
  refine norm_ (a' := ?_) ?_ ?_
  rotate_left
  · show Act.put _ (some 86) _ = _
    simp only [Act.put, List.setIfInBounds_toArray, List.set_cons_zero, List.set_cons_succ, i64_w, i32_w, T1.out, T2.out, T3.out, T4.out, T6.out]
    rfl
  refine pu_ 26 (some 88) (bm 28 134217727) ?_ (ha := by simp only [Act.put, List.setIfInBounds_toArray, List.set_cons_zero, List.set_cons_succ, i64_w, i32_w, T1.out, T2.out, T3.out, T4.out, T6.out]; rfl)
  refine pu_ 27 (some 89) (bm 28 268435455) ?_ (ha := by simp only [Act.put, List.setIfInBounds_toArray, List.set_cons_zero, List.set_cons_succ, i64_w, i32_w, T1.out, T2.out, T3.out, T4.out, T6.out]; rfl)
  refine done_ (by kernel_rfl) ?_
  go_wp2
  go_ret
  exact ⟨rfl, (by repeat (first | exact HB2.out | apply pw_below_drewN | apply bel_drew))⟩

set_option maxRecDepth 100000 in
set_option maxHeartbeats 4000000 in
theorem set_zero_zero (g base : Nat) (ok : Nat → Prop) (gr i d : Int) (v : Value) (gs : List S54) (block : Int) (on : Bool) (dr : Int × Bool) (w : World)
    (hI : IsAB w g gr i d v) (hg : base ≤ g ∧ ok g) (hok : ∀ k, ok k → k < w.heap.size) (hbs : base ≤ w.heap.size) (hgf : geom_Group.f gr i d 0 = some (0, 0, false)) (hdf : geom_DataOf.f 1 gr i d block = some dr) (hb0 : (block != 0) = false) :
    Calls Try.prog 36 #[.pointer (some ⟨g, 0, none⟩), .int .i64 0, .int .i64 block, .bool on] w fun e w' => e = .returned (.bool true) ∧ Below w.heap.size w w' := by
  have c0 := hI.c0
  have c1 := hI.c1
  have c2 := hI.c2
  have c3 := hI.c3
  have HI := Lib.hid hI
  have HGF := Lib.hid hgf
  have HDF := Lib.hid hdf
  have HOK := Lib.hid hok
  have HG := Lib.hid hg
  clear hI hgf hdf hok hg
  obtain ⟨d1, d2⟩ := dr
  go_enter Try.func36, Try.ntmps36
  go_wp2_with (first | (go_at_call 44; refine (geom_Group.calls gr i d _ _ _ _ _ HGF.out).mono ?_; rintro e w1 ⟨rfl, hb⟩; have HB1 := Lib.hid hb; have hJ := HI.out.below hb; have c0 := hJ.c0; have c1 := hJ.c1; have c2 := hJ.c2; clear hb hJ) | (go_at_call 45; refine (geom_DataOf.calls 1 gr i d _ _ _ _ HDF.out).mono ?_; rintro e w2 ⟨rfl, hb⟩; have HB2 := Lib.hid (HB1.out.trans (hb.mono HB1.out.size)); have hJ := HI.out.below HB2.out; have c0 := hJ.c0; have c1 := hJ.c1; have c2 := hJ.c2; have c3 := hJ.c3; clear hb hJ))
  refine start_ (n := 28) (S := fun _ => True) (ds := []) #[false, false, false, false, false, false, false, false, false, false, false, false, false, false, false, false, false, false, false, false, false, false, false, false, false, false, false, false] (by kernel_rfl) rfl rfl trivial (fun hHeld => ?_)
  refine pu_ 0 (some 62) (bm 28 1) ?_
  refine pu_ 1 (some 63) (bm 28 3) ?_
  refine pu_ 2 (some 64) (bm 28 7) ?_
  refine pure_ (i := 3) (N := some 65) (v := undef) (a' := ?_) (bm 28 15) rfl rfl (by kernel_rfl) (fun _ _ _ h => h) (Or.inr ⟨by rfl, rfl⟩) ?_ ?_
  rotate_left
  · simp only [Act.put, List.setIfInBounds_toArray, List.set_cons_zero, List.set_cons_succ, i64_w, i32_w]
    rfl
  refine pure_ (i := 4) (N := some 66) (v := undef) (a' := ?_) (bm 28 31) rfl rfl (by kernel_rfl) (fun _ _ _ h => h) (Or.inr ⟨by rfl, rfl⟩) ?_ ?_
  rotate_left
  · simp only [Act.put, List.setIfInBounds_toArray, List.set_cons_zero, List.set_cons_succ, i64_w, i32_w]
    rfl
  refine pure_ (i := 5) (N := some 67) (v := undef) (a' := ?_) (bm 28 63) rfl rfl (by kernel_rfl) (fun _ _ _ h => h) (Or.inr ⟨by rfl, rfl⟩) ?_ ?_
  rotate_left
  · simp only [Act.put, List.setIfInBounds_toArray, List.set_cons_zero, List.set_cons_succ, i64_w, i32_w]
    rfl
  refine pure_ (i := 6) (N := some 68) (v := undef) (a' := ?_) (bm 28 127) rfl rfl (by kernel_rfl) (fun _ _ _ h => h) (Or.inr ⟨by rfl, rfl⟩) ?_ ?_
  rotate_left
  · simp only [Act.put, List.setIfInBounds_toArray, List.set_cons_zero, List.set_cons_succ, i64_w, i32_w]
    rfl
  refine pure_ (i := 7) (N := some 69) (v := undef) (a' := ?_) (bm 28 255) rfl rfl (by kernel_rfl) (fun _ _ _ h => h) (Or.inr ⟨by rfl, rfl⟩) ?_ ?_
  rotate_left
  · simp only [Act.put, List.setIfInBounds_toArray, List.set_cons_zero, List.set_cons_succ, i64_w, i32_w]
    rfl
  refine pure_ (i := 8) (N := some 70) (v := undef) (a' := ?_) (bm 28 511) rfl rfl (by kernel_rfl) (fun _ _ _ h => h) (Or.inr ⟨by rfl, rfl⟩) ?_ ?_
  rotate_left
  · simp only [Act.put, List.setIfInBounds_toArray, List.set_cons_zero, List.set_cons_succ, i64_w, i32_w]
    rfl
  refine pure_ (i := 9) (N := some 71) (v := undef) (a' := ?_) (bm 28 1023) rfl rfl (by kernel_rfl) (fun _ _ _ h => h) (Or.inr ⟨by rfl, rfl⟩) ?_ ?_
  rotate_left
  · simp only [Act.put, List.setIfInBounds_toArray, List.set_cons_zero, List.set_cons_succ, i64_w, i32_w]
    rfl
  refine pure_ (i := 10) (N := some 72) (v := undef) (a' := ?_) (bm 28 2047) rfl rfl (by kernel_rfl) (fun _ _ _ h => h) (Or.inr ⟨by rfl, rfl⟩) ?_ ?_
  rotate_left
  · simp only [Act.put, List.setIfInBounds_toArray, List.set_cons_zero, List.set_cons_succ, i64_w, i32_w]
    rfl
  refine pure_ (i := 11) (N := some 73) (v := undef) (a' := ?_) (bm 28 4095) rfl rfl (by kernel_rfl) (fun _ _ _ h => h) (Or.inr ⟨by rfl, rfl⟩) ?_ ?_
  rotate_left
  · simp only [Act.put, List.setIfInBounds_toArray, List.set_cons_zero, List.set_cons_succ, i64_w, i32_w]
    rfl
  refine pure_ (i := 12) (N := some 74) (v := undef) (a' := ?_) (bm 28 8191) rfl rfl (by kernel_rfl) (fun _ _ _ h => h) (Or.inr ⟨by rfl, rfl⟩) ?_ ?_
  rotate_left
  · simp only [Act.put, List.setIfInBounds_toArray, List.set_cons_zero, List.set_cons_succ, i64_w, i32_w]
    rfl
  refine pure_ (i := 13) (N := some 75) (v := undef) (a' := ?_) (bm 28 16383) rfl rfl (by kernel_rfl) (fun _ _ _ h => h) (Or.inr ⟨by rfl, rfl⟩) ?_ ?_
  rotate_left
  · simp only [Act.put, List.setIfInBounds_toArray, List.set_cons_zero, List.set_cons_succ, i64_w, i32_w]
    rfl
  refine pure_ (i := 14) (N := some 76) (v := undef) (a' := ?_) (bm 28 32767) rfl rfl (by kernel_rfl) (fun _ _ _ h => h) (Or.inr ⟨by rfl, rfl⟩) ?_ ?_
  rotate_left
  · simp only [Act.put, List.setIfInBounds_toArray, List.set_cons_zero, List.set_cons_succ, i64_w, i32_w]
    rfl
  refine pure_ (i := 15) (N := some 77) (v := undef) (a' := ?_) (bm 28 65535) rfl rfl (by kernel_rfl) (fun _ _ _ h => h) (Or.inr ⟨by rfl, rfl⟩) ?_ ?_
  rotate_left
  · simp only [Act.put, List.setIfInBounds_toArray, List.set_cons_zero, List.set_cons_succ, i64_w, i32_w]
    rfl
  refine pure_ (i := 16) (N := some 78) (v := undef) (a' := ?_) (bm 28 131071) rfl rfl (by kernel_rfl) (fun _ _ _ h => h) (Or.inr ⟨by rfl, rfl⟩) ?_ ?_
  rotate_left
  · simp only [Act.put, List.setIfInBounds_toArray, List.set_cons_zero, List.set_cons_succ, i64_w, i32_w]
    rfl
  refine pure_ (i := 17) (N := some 79) (v := undef) (a' := ?_) (bm 28 262143) rfl rfl (by kernel_rfl) (fun _ _ _ h => h) (Or.inr ⟨by rfl, rfl⟩) ?_ ?_
  rotate_left
  · simp only [Act.put, List.setIfInBounds_toArray, List.set_cons_zero, List.set_cons_succ, i64_w, i32_w]
    rfl
  refine pure_ (i := 18) (N := some 80) (v := undef) (a' := ?_) (bm 28 524287) rfl rfl (by kernel_rfl) (fun _ _ _ h => h) (Or.inr ⟨by rfl, rfl⟩) ?_ ?_
  rotate_left
  · simp only [Act.put, List.setIfInBounds_toArray, List.set_cons_zero, List.set_cons_succ, i64_w, i32_w]
    rfl
  refine pure_ (i := 19) (N := some 81) (v := undef) (a' := ?_) (bm 28 1048575) rfl rfl (by kernel_rfl) (fun _ _ _ h => h) (Or.inr ⟨by rfl, rfl⟩) ?_ ?_
  rotate_left
  · simp only [Act.put, List.setIfInBounds_toArray, List.set_cons_zero, List.set_cons_succ, i64_w, i32_w]
    rfl
  refine pure_ (i := 20) (N := some 82) (v := undef) (a' := ?_) (bm 28 2097151) rfl rfl (by kernel_rfl) (fun _ _ _ h => h) (Or.inr ⟨by rfl, rfl⟩) ?_ ?_
  rotate_left
  · simp only [Act.put, List.setIfInBounds_toArray, List.set_cons_zero, List.set_cons_succ, i64_w, i32_w]
    rfl
  refine pure_ (i := 21) (N := some 83) (v := undef) (a' := ?_) (bm 28 4194303) rfl rfl (by kernel_rfl) (fun _ _ _ h => h) (Or.inr ⟨by rfl, rfl⟩) ?_ ?_
  rotate_left
  · simp only [Act.put, List.setIfInBounds_toArray, List.set_cons_zero, List.set_cons_succ, i64_w, i32_w]
    rfl
  refine pure_ (i := 22) (N := some 84) (v := undef) (a' := ?_) (bm 28 8388607) rfl rfl (by kernel_rfl) (fun _ _ _ h => h) (Or.inr ⟨by rfl, rfl⟩) ?_ ?_
  rotate_left
  · simp only [Act.put, List.setIfInBounds_toArray, List.set_cons_zero, List.set_cons_succ, i64_w, i32_w]
    rfl
  refine pure_ (i := 23) (N := some 85) (v := undef) (a' := ?_) (bm 28 16777215) rfl rfl (by kernel_rfl) (fun _ _ _ h => h) (Or.inr ⟨by rfl, rfl⟩) ?_ ?_
  rotate_left
  · simp only [Act.put, List.setIfInBounds_toArray, List.set_cons_zero, List.set_cons_succ, i64_w, i32_w]
    rfl
  refine pure_ (i := 24) (N := some 86) (v := undef) (a' := ?_) (bm 28 33554431) rfl rfl (by kernel_rfl) (fun _ _ _ h => h) (Or.inr ⟨by rfl, rfl⟩) ?_ ?_
  rotate_left
  · simp only [Act.put, List.setIfInBounds_toArray, List.set_cons_zero, List.set_cons_succ, i64_w, i32_w]
    rfl
  refine pure_ (i := 25) (N := some 87) (v := undef) (a' := ?_) (bm 28 67108863) rfl rfl (by kernel_rfl) (fun _ _ _ h => h) (Or.inr ⟨by rfl, rfl⟩) ?_ ?_
  rotate_left
  · simp only [Act.put, List.setIfInBounds_toArray, List.set_cons_zero, List.set_cons_succ, i64_w, i32_w]
    rfl
  refine pure_ (i := 26) (N := some 88) (v := undef) (a' := ?_) (bm 28 134217727) rfl rfl (by kernel_rfl) (fun _ _ _ h => h) (Or.inr ⟨by rfl, rfl⟩) ?_ ?_
  rotate_left
  · simp only [Act.put, List.setIfInBounds_toArray, List.set_cons_zero, List.set_cons_succ, i64_w, i32_w]
    rfl
  refine pu_ 27 (some 89) (bm 28 268435455) ?_
  refine done_ (by kernel_rfl) ?_
  go_wp2
  go_ret
  exact ⟨rfl, (by repeat (first | exact HB2.out | apply pw_below_drewN | apply bel_drew))⟩

set_option maxRecDepth 100000 in
set_option maxHeartbeats 4000000 in
theorem set_good_zero (g base : Nat) (ok : Nat → Prop) (gr i d : Int) (G n c : Nat) (gs : List S54) (block : Int) (on : Bool) (dr : Int × Bool) (w : World) (m x j : Nat) (y : S54) (b : Bool)
    (hI : IsAB w g gr i d (.slice (some ⟨G, 0, none⟩) n c)) (hg : base ≤ g ∧ ok g) (hok : ∀ k, ok k → k < w.heap.size) (hbs : base ≤ w.heap.size) (hR : Kd.R k54 54 w base ok (.slice (some ⟨G, 0, none⟩) n c) gs) (hn8 : n ≤ 8) (hgf : geom_Group.f gr i d ((m : Int) + 1) = some ((x : Int), (j : Int), true)) (hm : m < 100000) (hx : x < n) (hj : j < 100000) (hy : gs[x]? = some y) (hyl : y.f0.length < 1000000) (hget : bits_Get.f y.f0 (j : Int) = some b) (heq : (b == on) = false) (hdf : geom_DataOf.f 1 gr i d block = some dr) (hb0 : (block != 0) = false) :
    Calls Try.prog 36 #[.pointer (some ⟨g, 0, none⟩), .int .i64 ((m : Int) + 1), .int .i64 block, .bool on] w fun e w' => e = .returned (.bool true) ∧ IsA base (fun k => ok k ∨ w.heap.size ≤ k) w' g gr i d (gs.set x ⟨withB y.f0 j on, y.f1⟩) ∧ Off ok w w' := by
  have c0 := hI.c0
  have c1 := hI.c1
  have c2 := hI.c2
  have c3 := hI.c3
  have HI := Lib.hid hI
  have HGF := Lib.hid hgf
  have HDF := Lib.hid hdf
  have HOK := Lib.hid hok
  have HG := Lib.hid hg
  clear hI hgf hdf hok hg
  have HR := Lib.hid hR
  have hGlt := blk_lt_G hR
  have HN := Lib.hid (Kd.R_reads' hR).1
  clear hR
  obtain ⟨A0, a0, A1, a1, hgrp⟩ := grp_at HR.out hy
  have HGRP := Lib.hid hgrp
  have k0 := hgrp.k0
  have HY := Lib.hid hy
  have HYL := Lib.hid hyl
  have hx0 : (0 : Int) ≤ (x : Int) := by omega
  have hxi : (x : Int) < (n : Int) := by omega
  have hx8 : (x : Int) ≤ 7 := by omega
  have HGET : Hid (∀ W, Below w.heap.size w W → Calls Try.prog 46 #[.slice A0 y.f0.length a0, .int .i64 (j : Int)] W fun e w' => e = .returned (.bool b) ∧ Drawn0 W w') := Lib.hid (fun W hW => bits_Get.calls A0 a0 y.f0 _ _ W (HGRP.out.below hGlt hW).r0 HGRP.out.l0 hget)
  have hwf := with_nat (l := y.f0) hyl j (by omega) on 0
  have HWITH : Hid (∀ W, Below w.heap.size w W → Calls Try.prog 30 #[.slice A0 y.f0.length a0, .int .i64 (j : Int), .bool on] W fun e w' => ∃ v, e = .returned v ∧ Kd.R (Kd.int .u8) 5 w' w.heap.size (fun _ => True) v (withB y.f0 j on) ∧ Below w.heap.size w w') := Lib.hid (fun W hW => (bits_With.calls 1 A0 a0 y.f0 (j : Int) on _ W (HGRP.out.below hGlt hW).r0 HGRP.out.l0 hwf).mono (fun e w' h => by obtain ⟨v, h1, h2, h3⟩ := h; exact ⟨v, h1, Kd.R_lower h2 hW.size, hW.trans (h3.mono hW.size)⟩))
  clear hwf
  clear hgrp hy hget hyl
  obtain ⟨d1, d2⟩ := dr
  go_enter Try.func36, Try.ntmps36
  go_wp2_with (first | (go_at_call 44; refine (geom_Group.calls gr i d _ _ _ _ _ HGF.out).mono ?_; rintro e w1 ⟨rfl, hb⟩; have HB1 := Lib.hid hb; have hJ := HI.out.below hb; have c0 := hJ.c0; have c1 := hJ.c1; have c2 := hJ.c2; clear hb hJ) | (go_at_call 45; refine (geom_DataOf.calls 1 gr i d _ _ _ _ HDF.out).mono ?_; rintro e w2 ⟨rfl, hb⟩; have HB2 := Lib.hid (HB1.out.trans (hb.mono HB1.out.size)); have hJ := HI.out.below HB2.out; have c0 := hJ.c0; have c1 := hJ.c1; have c2 := hJ.c2; have c3 := hJ.c3; have k0 := pw_cell_below HB2.out HGRP.out.k0; clear hb hJ) | (go_at_call 46; refine (HGET.out _ (by repeat (first | exact HB2.out | apply pw_below_drewN | apply bel_drew))).mono ?_; rintro e w3 ⟨rfl, hd⟩; obtain ⟨nd, rfl⟩ := hd.out))
  refine start_ (n := 28) (S := fun _ => True) (ds := []) #[false, false, false, false, false, false, false, false, false, false, false, false, false, false, false, false, false, false, false, false, false, false, false, false, false, false, false, false] (by kernel_rfl) rfl rfl trivial (fun hHeld => ?_)
  refine pu_ 0 (some 62) (bm 28 1) ?_
  refine pu_ 1 (some 63) (bm 28 3) ?_
  refine pu_ 2 (some 64) (bm 28 7) ?_
  refine pure_ (i := 3) (N := some 65) (v := undef) (a' := ?_) (bm 28 15) rfl rfl (by kernel_rfl) (fun _ _ _ h => h) (Or.inr ⟨by rfl, rfl⟩) ?_ ?_
  rotate_left
  · simp only [Act.put, List.setIfInBounds_toArray, List.set_cons_zero, List.set_cons_succ, i64_w, i32_w]
    rfl
  refine pure_ (i := 4) (N := some 66) (v := undef) (a' := ?_) (bm 28 31) rfl rfl (by kernel_rfl) (fun _ _ _ h => h) (Or.inr ⟨by rfl, rfl⟩) ?_ ?_
  rotate_left
  · simp only [Act.put, List.setIfInBounds_toArray, List.set_cons_zero, List.set_cons_succ, i64_w, i32_w]
    rfl
  refine pure_ (i := 5) (N := some 67) (v := undef) (a' := ?_) (bm 28 63) rfl rfl (by kernel_rfl) (fun _ _ _ h => h) (Or.inr ⟨by rfl, rfl⟩) ?_ ?_
  rotate_left
  · simp only [Act.put, List.setIfInBounds_toArray, List.set_cons_zero, List.set_cons_succ, i64_w, i32_w]
    rfl
  refine pure_ (i := 6) (N := some 68) (v := undef) (a' := ?_) (bm 28 127) rfl rfl (by kernel_rfl) (fun _ _ _ h => h) (Or.inr ⟨by rfl, rfl⟩) ?_ ?_
  rotate_left
  · simp only [Act.put, List.setIfInBounds_toArray, List.set_cons_zero, List.set_cons_succ, i64_w, i32_w]
    rfl
  refine pure_ (i := 7) (N := some 69) (v := undef) (a' := ?_) (bm 28 255) rfl rfl (by kernel_rfl) (fun _ _ _ h => h) (Or.inr ⟨by rfl, rfl⟩) ?_ ?_
  rotate_left
  · simp only [Act.put, List.setIfInBounds_toArray, List.set_cons_zero, List.set_cons_succ, i64_w, i32_w]
    rfl
  refine pure_ (i := 8) (N := some 70) (v := undef) (a' := ?_) (bm 28 511) rfl rfl (by kernel_rfl) (fun _ _ _ h => h) (Or.inr ⟨by rfl, rfl⟩) ?_ ?_
  rotate_left
  · simp only [Act.put, List.setIfInBounds_toArray, List.set_cons_zero, List.set_cons_succ, i64_w, i32_w]
    rfl
  refine pure_ (i := 9) (N := some 71) (v := undef) (a' := ?_) (bm 28 1023) rfl rfl (by kernel_rfl) (fun _ _ _ h => h) (Or.inr ⟨by rfl, rfl⟩) ?_ ?_
  rotate_left
  · simp only [Act.put, List.setIfInBounds_toArray, List.set_cons_zero, List.set_cons_succ, i64_w, i32_w]
    rfl
  refine pure_ (i := 10) (N := some 72) (v := undef) (a' := ?_) (bm 28 2047) rfl rfl (by kernel_rfl) (fun _ _ _ h => h) (Or.inr ⟨by rfl, rfl⟩) ?_ ?_
  rotate_left
  · simp only [Act.put, List.setIfInBounds_toArray, List.set_cons_zero, List.set_cons_succ, i64_w, i32_w]
    rfl
  refine pure_ (i := 11) (N := some 73) (v := undef) (a' := ?_) (bm 28 4095) rfl rfl (by kernel_rfl) (fun _ _ _ h => h) (Or.inr ⟨by rfl, rfl⟩) ?_ ?_
  rotate_left
  · simp only [Act.put, List.setIfInBounds_toArray, List.set_cons_zero, List.set_cons_succ, i64_w, i32_w]
    rfl
  refine pure_ (i := 12) (N := some 74) (v := undef) (a' := ?_) (bm 28 8191) rfl rfl (by kernel_rfl) (fun _ _ _ h => h) (Or.inr ⟨by rfl, rfl⟩) ?_ ?_
  rotate_left
  · simp only [Act.put, List.setIfInBounds_toArray, List.set_cons_zero, List.set_cons_succ, i64_w, i32_w]
    rfl
  refine pure_ (i := 13) (N := some 75) (v := undef) (a' := ?_) (bm 28 16383) rfl rfl (by kernel_rfl) (fun _ _ _ h => h) (Or.inr ⟨by rfl, rfl⟩) ?_ ?_
  rotate_left
  · simp only [Act.put, List.setIfInBounds_toArray, List.set_cons_zero, List.set_cons_succ, i64_w, i32_w]
    rfl
  refine pure_ (i := 14) (N := some 76) (v := undef) (a' := ?_) (bm 28 32767) rfl rfl (by kernel_rfl) (fun _ _ _ h => h) (Or.inr ⟨by rfl, rfl⟩) ?_ ?_
  rotate_left
  · simp only [Act.put, List.setIfInBounds_toArray, List.set_cons_zero, List.set_cons_succ, i64_w, i32_w]
    rfl
  refine pure_ (i := 15) (N := some 77) (v := undef) (a' := ?_) (bm 28 65535) rfl rfl (by kernel_rfl) (fun _ _ _ h => h) (Or.inr ⟨by rfl, rfl⟩) ?_ ?_
  rotate_left
  · simp only [Act.put, List.setIfInBounds_toArray, List.set_cons_zero, List.set_cons_succ, i64_w, i32_w]
    rfl
  refine pure_ (i := 16) (N := some 78) (v := undef) (a' := ?_) (bm 28 131071) rfl rfl (by kernel_rfl) (fun _ _ _ h => h) (Or.inr ⟨by rfl, rfl⟩) ?_ ?_
  rotate_left
  · simp only [Act.put, List.setIfInBounds_toArray, List.set_cons_zero, List.set_cons_succ, i64_w, i32_w]
    rfl
  refine pure_ (i := 17) (N := some 79) (v := undef) (a' := ?_) (bm 28 262143) rfl rfl (by kernel_rfl) (fun _ _ _ h => h) (Or.inr ⟨by rfl, rfl⟩) ?_ ?_
  rotate_left
  · simp only [Act.put, List.setIfInBounds_toArray, List.set_cons_zero, List.set_cons_succ, i64_w, i32_w]
    rfl
  refine pure_ (i := 18) (N := some 80) (v := undef) (a' := ?_) (bm 28 524287) rfl rfl (by kernel_rfl) (fun _ _ _ h => h) (Or.inr ⟨by rfl, rfl⟩) ?_ ?_
  rotate_left
  · simp only [Act.put, List.setIfInBounds_toArray, List.set_cons_zero, List.set_cons_succ, i64_w, i32_w]
    rfl
  refine pure_ (i := 19) (N := some 81) (v := undef) (a' := ?_) (bm 28 1048575) rfl rfl (by kernel_rfl) (fun _ _ _ h => h) (Or.inr ⟨by rfl, rfl⟩) ?_ ?_
  rotate_left
  · simp only [Act.put, List.setIfInBounds_toArray, List.set_cons_zero, List.set_cons_succ, i64_w, i32_w]
    rfl
  refine pure_ (i := 20) (N := some 82) (v := undef) (a' := ?_) (bm 28 2097151) rfl rfl (by kernel_rfl) (fun _ _ _ h => h) (Or.inr ⟨by rfl, rfl⟩) ?_ ?_
  rotate_left
  · simp only [Act.put, List.setIfInBounds_toArray, List.set_cons_zero, List.set_cons_succ, i64_w, i32_w]
    rfl
  refine pure_ (i := 21) (N := some 83) (v := undef) (a' := ?_) (bm 28 4194303) rfl rfl (by kernel_rfl) (fun _ _ _ h => h) (Or.inr ⟨by rfl, rfl⟩) ?_ ?_
  rotate_left
  · simp only [Act.put, List.setIfInBounds_toArray, List.set_cons_zero, List.set_cons_succ, i64_w, i32_w]
    rfl
  refine pure_ (i := 22) (N := some 84) (v := undef) (a' := ?_) (bm 28 8388607) rfl rfl (by kernel_rfl) (fun _ _ _ h => h) (Or.inr ⟨by rfl, rfl⟩) ?_ ?_
  rotate_left
  · simp only [Act.put, List.setIfInBounds_toArray, List.set_cons_zero, List.set_cons_succ, i64_w, i32_w]
    rfl
  refine pure_ (i := 23) (N := some 85) (v := undef) (a' := ?_) (bm 28 16777215) rfl rfl (by kernel_rfl) (fun _ _ _ h => h) (Or.inr ⟨by rfl, rfl⟩) ?_ ?_
  rotate_left
  · simp only [Act.put, List.setIfInBounds_toArray, List.set_cons_zero, List.set_cons_succ, i64_w, i32_w]
    rfl
  refine pure_ (i := 24) (N := some 86) (v := undef) (a' := ?_) (bm 28 33554431) rfl rfl (by kernel_rfl) (fun _ _ _ h => h) (Or.inr ⟨by rfl, rfl⟩) ?_ ?_
  rotate_left
  · simp only [Act.put, List.setIfInBounds_toArray, List.set_cons_zero, List.set_cons_succ, i64_w, i32_w]
    rfl
  refine pure_ (i := 25) (N := some 87) (v := undef) (a' := ?_) (bm 28 67108863) rfl rfl (by kernel_rfl) (fun _ _ _ h => h) (Or.inr ⟨by rfl, rfl⟩) ?_ ?_
  rotate_left
  · simp only [Act.put, List.setIfInBounds_toArray, List.set_cons_zero, List.set_cons_succ, i64_w, i32_w]
    rfl
  refine pure_ (i := 26) (N := some 88) (v := undef) (a' := ?_) (bm 28 134217727) rfl rfl (by kernel_rfl) (fun _ _ _ h => h) (Or.inr ⟨by rfl, rfl⟩) ?_ ?_
  rotate_left
  · simp only [Act.put, List.setIfInBounds_toArray, List.set_cons_zero, List.set_cons_succ, i64_w, i32_w]
    rfl
  refine pu_ 27 (some 89) (bm 28 268435455) ?_
  refine done_ (by kernel_rfl) ?_
  go_wp2
  refine start_ (n := 19) (S := fun w' => w'.cell? ⟨g, 3, none⟩ = some (.slice (some ⟨G, 0, none⟩) n c) ∧ w'.cell? ⟨G, x * 2, none⟩ = some (.slice A0 y.f0.length a0)) (ds := [18]) #[false, false, false, false, false, false, false, false, false, false, false, false, false, false, false, false, false, false, false] (by kernel_rfl) rfl rfl ⟨pw_cell_below (by repeat (first | exact HB2.out | apply pw_below_drewN | apply bel_drew)) HI.out.c3, pw_cell_below (by repeat (first | exact HB2.out | apply pw_below_drewN | apply bel_drew)) HGRP.out.k0⟩ (fun hHeld => ?_)
  refine pu_ 0 (some 92) (bm 19 1) ?_
  refine pu_ 1 (some 93) (bm 19 3) ?_
  refine pu_ 2 (some 94) (bm 19 7) ?_
  refine tk2_ 3 (some 95) (bm 19 15) hHeld ?_
  refine pu_ 4 (some 96) (bm 19 31) ?_
  refine pu_ 5 (some 97) (bm 19 63) ?_
  refine pu_ 6 (some 98) (bm 19 127) ?_
  refine pu_ 7 (some 99) (bm 19 255) ?_
  refine tk2_ 8 (some 100) (bm 19 511) hHeld ?_
  refine pu_ 9 (some 101) (bm 19 1023) ?_
  refine pu_ 10 (some 102) (bm 19 2047) ?_
  refine pu_ 11 (some 103) (bm 19 4095) ?_
  refine tk2_ 12 (some 104) (bm 19 8191) hHeld ?_
  refine pu_ 13 (some 105) (bm 19 16383) ?_
  refine pu_ 14 (some 106) (bm 19 32767) ?_
  refine one_ (i := 15) (N := some 107) (bm 19 65535) rfl rfl (by kernel_rfl) (by decide) (fun K hK => ?_)
  refine goes_ Try.func30 (by kernel_rfl) rfl #[.slice A0 y.f0.length a0, .int .i64 (j : Int), .bool on] (by rfl) rfl rfl (by (try simp only [List.map_toArray, List.map_cons, List.map_nil]); first | done | rfl) ?_
  refine (HWITH.out _ (by repeat (first | exact HB2.out | apply pw_below_drewN | apply bel_drew))).mono ?_
  rintro e V2 ⟨v2, rfl, hv2, hb2⟩
  obtain ⟨A2, c2', rfl⟩ := Kd.R_slice hv2
  have HPU := Lib.hid (IsA.put0 (W := w) HI.out HG.out HR.out HY.out hbs HOK.out hb2 hv2)
  have hS1 := And.intro (pw_cell_below hb2 HI.out.c3) (pw_cell_below hb2 HGRP.out.k0)
  have hfz := (hb2.frozen (p := ⟨G, x * 2, none⟩) hGlt).trans HGRP.out.z0
  clear hb2 hv2
  refine ⟨_, rfl, hK.out _ _ hS1 (fun hHeld => ?_)⟩
  clear hK K
  refine norm_ (a' := ?_) ?_ ?_
  rotate_left
  · show Act.put _ (some 107) _ = _
    simp only [Act.put, List.setIfInBounds_toArray, List.set_cons_zero, List.set_cons_succ, i64_w, i32_w]
    rfl
  refine pu_ 16 (some 108) (bm 19 131071) ?_
  refine pu_ 17 (some 109) (bm 19 262143) ?_
  refine last_ (i := 18) (N := none) (bm 19 524287) rfl rfl (by kernel_rfl) (by decide) (fun K hK => ?_)
  refine skip_ (w1 := ?_) (by rfl) rfl ?_ ?_
  rotate_left
  · go_simp
    rfl
  refine hK.out _ _ ?_
  clear hK K
  refine done_ (by kernel_rfl) ?_
  have hPU := HPU.out
  generalize V2.setCell ⟨G, x * 2, none⟩ (.slice A2 (withB y.f0 j on).length c2') = V3 at hPU ⊢
  obtain ⟨hA3, ho3⟩ := hPU
  have HA3 := Lib.hid hA3.bound
  have HO3 := Lib.hid ho3
  clear hA3 ho3 HPU hHeld hfz hS1
  go_wp2
  go_ret
  exact ⟨rfl, HA3.out.mono (fun k hk => hk.1), HO3.out⟩

set_option maxRecDepth 100000 in
set_option maxHeartbeats 4000000 in
theorem set_zero_good (g base : Nat) (ok : Nat → Prop) (gr i d : Int) (G n c : Nat) (gs : List S54) (block : Int) (on : Bool) (dr : Int × Bool) (w : World) (q dd xb jb : Nat) (yb : S54) (bb : Bool)
    (hI : IsAB w g gr i d (.slice (some ⟨G, 0, none⟩) n c)) (hg : base ≤ g ∧ ok g) (hok : ∀ k, ok k → k < w.heap.size) (hbs : base ≤ w.heap.size) (hR : Kd.R k54 54 w base ok (.slice (some ⟨G, 0, none⟩) n c) gs) (hn8 : n ≤ 8) (hgf : geom_Group.f gr i d 0 = some (0, 0, false)) (hdf : geom_DataOf.f 1 gr i d block = some dr) (hb0 : (block != 0) = true) (hdr : dr = ((dd : Int), true)) (hdq : d = (q : Int)) (hq0 : ¬ (q = 0)) (hq1 : q ≤ 1000) (hdd : dd < 100000) (hxb : dd / q = xb) (hjb : dd % q = jb) (hxn : xb < n) (hyb : gs[xb]? = some yb) (hybl : yb.f1.length < 1000000) (hgetb : bits_Get.f yb.f1 (jb : Int) = some bb) (heqb : (bb == on) = false) :
    Calls Try.prog 36 #[.pointer (some ⟨g, 0, none⟩), .int .i64 0, .int .i64 block, .bool on] w fun e w' => e = .returned (.bool true) ∧ ∃ yc, gs[xb]? = some yc ∧ IsA base (fun k => ok k ∨ w.heap.size ≤ k) w' g gr i d (gs.set xb ⟨yc.f0, withB yc.f1 jb on⟩) ∧ Off ok w w' := by
  have c0 := hI.c0
  have c1 := hI.c1
  have c2 := hI.c2
  have c3 := hI.c3
  have HI := Lib.hid hI
  have HGF := Lib.hid hgf
  have HDF := Lib.hid hdf
  have HOK := Lib.hid hok
  have HG := Lib.hid hg
  clear hI hgf hdf hok hg
  have HR := Lib.hid hR
  have hGlt := blk_lt_G hR
  have HN := Lib.hid (Kd.R_reads' hR).1
  clear hR
  subst hdr
  obtain ⟨E0, e0, E1, e1, hgrpb⟩ := grp_at HR.out hyb
  have HGRPB := Lib.hid hgrpb
  have k1 := hgrpb.k1
  have HYB := Lib.hid hyb
  have HYBL := Lib.hid hybl
  have hxb0 : (0 : Int) ≤ (xb : Int) := by omega
  have hxbi : (xb : Int) < (n : Int) := by omega
  have hxb8 : (xb : Int) ≤ 7 := by omega
  have HGETB : Hid (∀ W, Below w.heap.size w W → Calls Try.prog 46 #[.slice E1 yb.f1.length e1, .int .i64 (jb : Int)] W fun e w' => e = .returned (.bool bb) ∧ Drawn0 W w') := Lib.hid (fun W hW => bits_Get.calls E1 e1 yb.f1 _ _ W (HGRPB.out.below hGlt hW).r1 HGRPB.out.l1 hgetb)
  have t1 : (dd : Int) / (q : Int) = (xb : Int) := by rw [← hxb, Int.natCast_ediv]
  have t2 : Int.tdiv (dd : Int) (q : Int) = (xb : Int) := by rw [Int.tdiv_eq_ediv_of_nonneg (by omega)]; exact t1
  have t3 : (dd : Int) % (q : Int) = (jb : Int) := by rw [← hjb, Int.natCast_emod]
  have t4 : Int.tmod (dd : Int) (q : Int) = (jb : Int) := by rw [Int.tmod_eq_emod_of_nonneg (by omega)]; exact t3
  have t5 : IntKind.i64.wrap (xb : Int) = (xb : Int) := by rw [i64_w]; exact w64_id (by omega) (by omega)
  have t6 : wrap64 (xb : Int) = (xb : Int) := w64_id (by omega) (by omega)
  have HQ := Lib.hid hdq
  have HXB := Lib.hid hxb
  have HJB := Lib.hid hjb
  have HXN := Lib.hid hxn
  have T1 := Lib.hid t1
  have T2 := Lib.hid t2
  have T3 := Lib.hid t3
  have T4 := Lib.hid t4
  have T6 := Lib.hid t6
  clear hgrpb hyb hgetb hybl hxb hjb hdq t1 t2 t3 t4 t5 t6
  have hjb1 : jb < 1000 := by rw [← HJB.out]; exact Nat.lt_of_lt_of_le (Nat.mod_lt _ (by omega)) hq1
  go_enter Try.func36, Try.ntmps36
  go_wp2_with (first | (go_at_call 44; refine (geom_Group.calls gr i d _ _ _ _ _ HGF.out).mono ?_; rintro e w1 ⟨rfl, hb⟩; have HB1 := Lib.hid hb; have hJ := HI.out.below hb; have c0 := hJ.c0; have c1 := hJ.c1; have c2 := hJ.c2; clear hb hJ) | (go_at_call 45; refine (geom_DataOf.calls 1 gr i d _ _ _ _ HDF.out).mono ?_; rintro e w2 ⟨rfl, hb⟩; have HB2 := Lib.hid (HB1.out.trans (hb.mono HB1.out.size)); have hJ := HI.out.below HB2.out; have c0 := hJ.c0; have c1 := hJ.c1; have c2 := hJ.c2; have c3 := hJ.c3; clear hb hJ))
  refine start_ (n := 28) (S := fun w' => w'.cell? ⟨g, 3, none⟩ = some (.slice (some ⟨G, 0, none⟩) n c) ∧ w'.cell? ⟨g, 2, none⟩ = some (.int .i64 (q : Int)) ∧ w'.cell? ⟨G, xb * 2 + 1, none⟩ = some (.slice E1 yb.f1.length e1)) (ds := []) #[false, false, false, false, false, false, false, false, false, false, false, false, false, false, false, false, false, false, false, false, false, false, false, false, false, false, false, false] (by kernel_rfl) rfl rfl ⟨pw_cell_below (by repeat (first | exact HB2.out | apply pw_below_drewN | apply bel_drew)) HI.out.c3, by rw [← HQ.out]; exact pw_cell_below (by repeat (first | exact HB2.out | apply pw_below_drewN | apply bel_drew)) HI.out.c2, pw_cell_below (by repeat (first | exact HB2.out | apply pw_below_drewN | apply bel_drew)) HGRPB.out.k1⟩ (fun hHeld => ?_)
  refine pu_ 0 (some 62) (bm 28 1) ?_ (ha := by simp only [Act.put, List.setIfInBounds_toArray, List.set_cons_zero, List.set_cons_succ, i64_w, i32_w, T1.out, T2.out, T3.out, T4.out, T6.out]; rfl)
  refine pu_ 1 (some 63) (bm 28 3) ?_ (ha := by simp only [Act.put, List.setIfInBounds_toArray, List.set_cons_zero, List.set_cons_succ, i64_w, i32_w, T1.out, T2.out, T3.out, T4.out, T6.out]; rfl)
  refine pu_ 2 (some 64) (bm 28 7) ?_ (ha := by simp only [Act.put, List.setIfInBounds_toArray, List.set_cons_zero, List.set_cons_succ, i64_w, i32_w, T1.out, T2.out, T3.out, T4.out, T6.out]; rfl)
  refine pu_ 3 (some 65) (bm 28 15) ?_ (ha := by simp only [Act.put, List.setIfInBounds_toArray, List.set_cons_zero, List.set_cons_succ, i64_w, i32_w, T1.out, T2.out, T3.out, T4.out, T6.out]; rfl)
  refine pu_ 4 (some 66) (bm 28 31) ?_ (ha := by simp only [Act.put, List.setIfInBounds_toArray, List.set_cons_zero, List.set_cons_succ, i64_w, i32_w, T1.out, T2.out, T3.out, T4.out, T6.out]; rfl)
  refine pu_ 5 (some 67) (bm 28 63) ?_ (ha := by simp only [Act.put, List.setIfInBounds_toArray, List.set_cons_zero, List.set_cons_succ, i64_w, i32_w, T1.out, T2.out, T3.out, T4.out, T6.out]; rfl)
  refine tk3_ 6 (some 68) (bm 28 127) hHeld ?_ (ha := by simp only [Act.put, List.setIfInBounds_toArray, List.set_cons_zero, List.set_cons_succ, i64_w, i32_w, T1.out, T2.out, T3.out, T4.out, T6.out]; rfl)
  refine pu_ 7 (some 69) (bm 28 255) ?_ (ha := by simp only [Act.put, List.setIfInBounds_toArray, List.set_cons_zero, List.set_cons_succ, i64_w, i32_w, T1.out, T2.out, T3.out, T4.out, T6.out]; rfl)
  refine pu_ 8 (some 70) (bm 28 511) ?_ (ha := by simp only [Act.put, List.setIfInBounds_toArray, List.set_cons_zero, List.set_cons_succ, i64_w, i32_w, T1.out, T2.out, T3.out, T4.out, T6.out]; rfl)
  refine pu_ 9 (some 71) (bm 28 1023) ?_ (ha := by simp only [Act.put, List.setIfInBounds_toArray, List.set_cons_zero, List.set_cons_succ, i64_w, i32_w, T1.out, T2.out, T3.out, T4.out, T6.out]; rfl)
  refine pu_ 10 (some 72) (bm 28 2047) ?_ (ha := by simp only [Act.put, List.setIfInBounds_toArray, List.set_cons_zero, List.set_cons_succ, i64_w, i32_w, T1.out, T2.out, T3.out, T4.out, T6.out]; rfl)
  refine pu_ 11 (some 73) (bm 28 4095) ?_ (ha := by simp only [Act.put, List.setIfInBounds_toArray, List.set_cons_zero, List.set_cons_succ, i64_w, i32_w, T1.out, T2.out, T3.out, T4.out, T6.out]; rfl)
  refine tk3_ 12 (some 74) (bm 28 8191) hHeld ?_ (ha := by simp only [Act.put, List.setIfInBounds_toArray, List.set_cons_zero, List.set_cons_succ, i64_w, i32_w, T1.out, T2.out, T3.out, T4.out, T6.out]; rfl)
  refine pu_ 13 (some 75) (bm 28 16383) ?_ (ha := by simp only [Act.put, List.setIfInBounds_toArray, List.set_cons_zero, List.set_cons_succ, i64_w, i32_w, T1.out, T2.out, T3.out, T4.out, T6.out]; rfl)
  refine pu_ 14 (some 76) (bm 28 32767) ?_ (ha := by simp only [Act.put, List.setIfInBounds_toArray, List.set_cons_zero, List.set_cons_succ, i64_w, i32_w, T1.out, T2.out, T3.out, T4.out, T6.out]; rfl)
  refine pu_ 15 (some 77) (bm 28 65535) ?_ (ha := by simp only [Act.put, List.setIfInBounds_toArray, List.set_cons_zero, List.set_cons_succ, i64_w, i32_w, T1.out, T2.out, T3.out, T4.out, T6.out]; rfl)
  refine tk3_ 16 (some 78) (bm 28 131071) hHeld ?_ (ha := by simp only [Act.put, List.setIfInBounds_toArray, List.set_cons_zero, List.set_cons_succ, i64_w, i32_w, T1.out, T2.out, T3.out, T4.out, T6.out]; rfl)
  refine pu_ 17 (some 79) (bm 28 262143) ?_ (ha := by simp only [Act.put, List.setIfInBounds_toArray, List.set_cons_zero, List.set_cons_succ, i64_w, i32_w, T1.out, T2.out, T3.out, T4.out, T6.out]; rfl)
  refine pu_ 18 (some 80) (bm 28 524287) ?_ (ha := by simp only [Act.put, List.setIfInBounds_toArray, List.set_cons_zero, List.set_cons_succ, i64_w, i32_w, T1.out, T2.out, T3.out, T4.out, T6.out]; rfl)
  refine pu_ 19 (some 81) (bm 28 1048575) ?_ (ha := by simp only [Act.put, List.setIfInBounds_toArray, List.set_cons_zero, List.set_cons_succ, i64_w, i32_w, T1.out, T2.out, T3.out, T4.out, T6.out]; rfl)
  refine pu_ 20 (some 82) (bm 28 2097151) ?_ (ha := by simp only [Act.put, List.setIfInBounds_toArray, List.set_cons_zero, List.set_cons_succ, i64_w, i32_w, T1.out, T2.out, T3.out, T4.out, T6.out]; rfl)
  refine pu_ 21 (some 83) (bm 28 4194303) ?_ (ha := by simp only [Act.put, List.setIfInBounds_toArray, List.set_cons_zero, List.set_cons_succ, i64_w, i32_w, T1.out, T2.out, T3.out, T4.out, T6.out]; rfl)
  refine tk3_ 22 (some 84) (bm 28 8388607) hHeld ?_ (ha := by simp only [Act.put, List.setIfInBounds_toArray, List.set_cons_zero, List.set_cons_succ, i64_w, i32_w, T1.out, T2.out, T3.out, T4.out, T6.out]; rfl)
  refine pu_ 23 (some 85) (bm 28 16777215) ?_ (ha := by simp only [Act.put, List.setIfInBounds_toArray, List.set_cons_zero, List.set_cons_succ, i64_w, i32_w, T1.out, T2.out, T3.out, T4.out, T6.out]; rfl)
  refine pu_ 25 (some 87) (bm 28 50331647) ?_ (ha := by simp only [Act.put, List.setIfInBounds_toArray, List.set_cons_zero, List.set_cons_succ, i64_w, i32_w, T1.out, T2.out, T3.out, T4.out, T6.out]; rfl)
  refine one_ (i := 24) (N := some 86) (bm 28 67108863) rfl rfl (by kernel_rfl) (by decide) (fun K hK => ?_)
  refine goes_ Try.func46 (by kernel_rfl) rfl #[.slice E1 yb.f1.length e1, .int .i64 (jb : Int)] (by rfl) rfl rfl (by (try simp only [List.map_toArray, List.map_cons, List.map_nil]); first | done | rfl) ?_
  refine (HGETB.out _ (by repeat (first | exact HB2.out | apply pw_below_drewN | apply bel_drew))).mono ?_
  rintro e w4 ⟨rfl, hd⟩
  obtain ⟨ne, rfl⟩ := hd.out
  refine ⟨_, rfl, hK.out _ _ ⟨hHeld.1, hHeld.2.1, hHeld.2.2⟩ (fun hHeld => ?_)⟩
  clear hK K
  refine norm_ (a' := ?_) ?_ ?_
  rotate_left
  · show Act.put _ (some 86) _ = _
    simp only [Act.put, List.setIfInBounds_toArray, List.set_cons_zero, List.set_cons_succ, i64_w, i32_w, T1.out, T2.out, T3.out, T4.out, T6.out]
    rfl
  refine pu_ 26 (some 88) (bm 28 134217727) ?_ (ha := by simp only [Act.put, List.setIfInBounds_toArray, List.set_cons_zero, List.set_cons_succ, i64_w, i32_w, T1.out, T2.out, T3.out, T4.out, T6.out]; rfl)
  refine pu_ 27 (some 89) (bm 28 268435455) ?_ (ha := by simp only [Act.put, List.setIfInBounds_toArray, List.set_cons_zero, List.set_cons_succ, i64_w, i32_w, T1.out, T2.out, T3.out, T4.out, T6.out]; rfl)
  refine done_ (by kernel_rfl) ?_
  go_wp2
  obtain ⟨yc, hyc⟩ : ∃ yc, gs[xb]? = some yc := ⟨yb, HYB.out⟩
  have hycl : yc.f1.length < 1000000 := by rw [show yc = yb from Option.some.inj (hyc.symm.trans HYB.out)]; exact HYBL.out
  have hbz := hbs
  have hGz := hGlt
  have HOKz := HOK
  have HGZ := HG
  have HIZ := HI
  have HRZ := HR
  clear k1 c0 c1 c2 c3
  obtain ⟨F0, f0, F1, f1, hgc⟩ := grp_at HRZ.out hyc
  have hwf := with_nat (l := yc.f1) hycl jb (by omega) on 0
  have HWB : Hid (∀ W, Below w.heap.size w W → Calls Try.prog 30 #[.slice F1 yc.f1.length f1, .int .i64 (jb : Int), .bool on] W fun e w' => ∃ v, e = .returned v ∧ Kd.R (Kd.int .u8) 5 w' w.heap.size (fun _ => True) v (withB yc.f1 jb on) ∧ Below w.heap.size w w') := Lib.hid (fun W hW => (bits_With.calls 1 F1 f1 yc.f1 (jb : Int) on _ W (hgc.below hGz hW).r1 hgc.l1 hwf).mono (fun e w' h => by obtain ⟨v, h1, h2, h3⟩ := h; exact ⟨v, h1, Kd.R_lower h2 hW.size, hW.trans (h3.mono hW.size)⟩))
  have HGC := Lib.hid hgc
  have HYC := Lib.hid hyc
  clear hgc hwf hyc hycl
  go_wp2
  refine start_ (n := 13) (S := fun w' => w'.cell? ⟨g, 3, none⟩ = some (.slice (some ⟨G, 0, none⟩) n c) ∧ w'.cell? ⟨g, 2, none⟩ = some (.int .i64 (q : Int))) (ds := []) #[false, false, false, false, false, false, false, false, false, false, false, false, false] (by kernel_rfl) rfl rfl ⟨pw_cell_below (by repeat (first | exact HB2.out | apply pw_below_drewN | apply bel_drew)) HIZ.out.c3, by rw [← HQ.out]; exact pw_cell_below (by repeat (first | exact HB2.out | apply pw_below_drewN | apply bel_drew)) HIZ.out.c2⟩ (fun hHeld => ?_)
  refine pu_ 0 (some 112) (bm 13 1) ?_ (ha := by simp only [Act.put, List.setIfInBounds_toArray, List.set_cons_zero, List.set_cons_succ, i64_w, i32_w, T1.out, T2.out, T3.out, T4.out, T6.out]; rfl)
  refine pu_ 1 (some 113) (bm 13 3) ?_ (ha := by simp only [Act.put, List.setIfInBounds_toArray, List.set_cons_zero, List.set_cons_succ, i64_w, i32_w, T1.out, T2.out, T3.out, T4.out, T6.out]; rfl)
  refine pu_ 2 (some 114) (bm 13 7) ?_ (ha := by simp only [Act.put, List.setIfInBounds_toArray, List.set_cons_zero, List.set_cons_succ, i64_w, i32_w, T1.out, T2.out, T3.out, T4.out, T6.out]; rfl)
  refine tk2_ 3 (some 115) (bm 13 15) hHeld ?_ (ha := by simp only [Act.put, List.setIfInBounds_toArray, List.set_cons_zero, List.set_cons_succ, i64_w, i32_w, T1.out, T2.out, T3.out, T4.out, T6.out]; rfl)
  refine pu_ 4 (some 116) (bm 13 31) ?_ (ha := by simp only [Act.put, List.setIfInBounds_toArray, List.set_cons_zero, List.set_cons_succ, i64_w, i32_w, T1.out, T2.out, T3.out, T4.out, T6.out]; rfl)
  refine pu_ 5 (some 117) (bm 13 63) ?_ (ha := by simp only [Act.put, List.setIfInBounds_toArray, List.set_cons_zero, List.set_cons_succ, i64_w, i32_w, T1.out, T2.out, T3.out, T4.out, T6.out]; rfl)
  refine pu_ 6 (some 118) (bm 13 127) ?_ (ha := by simp only [Act.put, List.setIfInBounds_toArray, List.set_cons_zero, List.set_cons_succ, i64_w, i32_w, T1.out, T2.out, T3.out, T4.out, T6.out]; rfl)
  refine pu_ 7 (some 119) (bm 13 255) ?_ (ha := by simp only [Act.put, List.setIfInBounds_toArray, List.set_cons_zero, List.set_cons_succ, i64_w, i32_w, T1.out, T2.out, T3.out, T4.out, T6.out]; rfl)
  refine pu_ 8 (some 120) (bm 13 511) ?_ (ha := by simp only [Act.put, List.setIfInBounds_toArray, List.set_cons_zero, List.set_cons_succ, i64_w, i32_w, T1.out, T2.out, T3.out, T4.out, T6.out]; rfl)
  refine tk2_ 9 (some 121) (bm 13 1023) hHeld ?_ (ha := by simp only [Act.put, List.setIfInBounds_toArray, List.set_cons_zero, List.set_cons_succ, i64_w, i32_w, T1.out, T2.out, T3.out, T4.out, T6.out]; rfl)
  refine pu_ 10 (some 122) (bm 13 2047) ?_ (ha := by simp only [Act.put, List.setIfInBounds_toArray, List.set_cons_zero, List.set_cons_succ, i64_w, i32_w, T1.out, T2.out, T3.out, T4.out, T6.out]; rfl)
  refine pu_ 11 (some 123) (bm 13 4095) ?_ (ha := by simp only [Act.put, List.setIfInBounds_toArray, List.set_cons_zero, List.set_cons_succ, i64_w, i32_w, T1.out, T2.out, T3.out, T4.out, T6.out]; rfl)
  refine pu_ 12 (some 14) (bm 13 8191) ?_ (ha := by simp only [Act.put, List.setIfInBounds_toArray, List.set_cons_zero, List.set_cons_succ, i64_w, i32_w, T1.out, T2.out, T3.out, T4.out, T6.out]; rfl)
  refine done_ (by kernel_rfl) ?_
  go_wp2
  refine start_ (n := 17) (S := fun w' => w'.cell? ⟨G, xb * 2 + 1, none⟩ = some (.slice F1 yc.f1.length f1) ∧ w'.cell? ⟨g, 2, none⟩ = some (.int .i64 (q : Int))) (ds := [16]) #[false, false, false, false, false, false, false, false, false, false, false, false, false, false, false, false, false] (by kernel_rfl) rfl rfl ⟨pw_cell_below (by repeat (first | exact HB2.out | apply pw_below_drewN | apply bel_drew)) HGC.out.k1, by rw [← HQ.out]; exact pw_cell_below (by repeat (first | exact HB2.out | apply pw_below_drewN | apply bel_drew)) HIZ.out.c2⟩ (fun hHeld => ?_)
  refine pu_ 0 (some 124) (bm 17 1) ?_ (ha := by simp only [Act.put, List.setIfInBounds_toArray, List.set_cons_zero, List.set_cons_succ, i64_w, i32_w, T1.out, T2.out, T3.out, T4.out, T6.out]; rfl)
  refine pu_ 1 (some 125) (bm 17 3) ?_ (ha := by simp only [Act.put, List.setIfInBounds_toArray, List.set_cons_zero, List.set_cons_succ, i64_w, i32_w, T1.out, T2.out, T3.out, T4.out, T6.out]; rfl)
  refine pu_ 2 (some 126) (bm 17 7) ?_ (ha := by simp only [Act.put, List.setIfInBounds_toArray, List.set_cons_zero, List.set_cons_succ, i64_w, i32_w, T1.out, T2.out, T3.out, T4.out, T6.out]; rfl)
  refine pu_ 3 (some 127) (bm 17 15) ?_ (ha := by simp only [Act.put, List.setIfInBounds_toArray, List.set_cons_zero, List.set_cons_succ, i64_w, i32_w, T1.out, T2.out, T3.out, T4.out, T6.out]; rfl)
  refine tk2_ 4 (some 128) (bm 17 31) hHeld ?_ (ha := by simp only [Act.put, List.setIfInBounds_toArray, List.set_cons_zero, List.set_cons_succ, i64_w, i32_w, T1.out, T2.out, T3.out, T4.out, T6.out]; rfl)
  refine pu_ 5 (some 129) (bm 17 63) ?_ (ha := by simp only [Act.put, List.setIfInBounds_toArray, List.set_cons_zero, List.set_cons_succ, i64_w, i32_w, T1.out, T2.out, T3.out, T4.out, T6.out]; rfl)
  refine pu_ 6 (some 130) (bm 17 127) ?_ (ha := by simp only [Act.put, List.setIfInBounds_toArray, List.set_cons_zero, List.set_cons_succ, i64_w, i32_w, T1.out, T2.out, T3.out, T4.out, T6.out]; rfl)
  refine pu_ 7 (some 131) (bm 17 255) ?_ (ha := by simp only [Act.put, List.setIfInBounds_toArray, List.set_cons_zero, List.set_cons_succ, i64_w, i32_w, T1.out, T2.out, T3.out, T4.out, T6.out]; rfl)
  refine pu_ 8 (some 132) (bm 17 511) ?_ (ha := by simp only [Act.put, List.setIfInBounds_toArray, List.set_cons_zero, List.set_cons_succ, i64_w, i32_w, T1.out, T2.out, T3.out, T4.out, T6.out]; rfl)
  refine pu_ 9 (some 133) (bm 17 1023) ?_ (ha := by simp only [Act.put, List.setIfInBounds_toArray, List.set_cons_zero, List.set_cons_succ, i64_w, i32_w, T1.out, T2.out, T3.out, T4.out, T6.out]; rfl)
  refine tk2_ 10 (some 134) (bm 17 2047) hHeld ?_ (ha := by simp only [Act.put, List.setIfInBounds_toArray, List.set_cons_zero, List.set_cons_succ, i64_w, i32_w, T1.out, T2.out, T3.out, T4.out, T6.out]; rfl)
  refine pu_ 11 (some 135) (bm 17 4095) ?_ (ha := by simp only [Act.put, List.setIfInBounds_toArray, List.set_cons_zero, List.set_cons_succ, i64_w, i32_w, T1.out, T2.out, T3.out, T4.out, T6.out]; rfl)
  refine pu_ 12 (some 136) (bm 17 8191) ?_ (ha := by simp only [Act.put, List.setIfInBounds_toArray, List.set_cons_zero, List.set_cons_succ, i64_w, i32_w, T1.out, T2.out, T3.out, T4.out, T6.out]; rfl)
  refine one_ (i := 13) (N := some 137) (bm 17 16383) rfl rfl (by kernel_rfl) (by decide) (fun K hK => ?_)
  refine goes_ Try.func30 (by kernel_rfl) rfl #[.slice F1 yc.f1.length f1, .int .i64 (jb : Int), .bool on] (by rfl) rfl rfl (by (try simp only [List.map_toArray, List.map_cons, List.map_nil]); first | done | rfl) ?_
  refine (HWB.out _ (by repeat (first | exact HB2.out | apply pw_below_drewN | apply bel_drew))).mono ?_
  rintro e V4 ⟨v4, rfl, hv4, hb4⟩
  obtain ⟨A4, c4, rfl⟩ := Kd.R_slice hv4
  have HPU := Lib.hid (IsA.put1 (W := w) (ok := ok) HIZ.out HGZ.out HRZ.out HYC.out hbz HOKz.out hb4 hv4)
  have hS1 := And.intro (pw_cell_below hb4 HGC.out.k1) (show V4.cell? ⟨g, 2, none⟩ = some (.int .i64 (q : Int)) from by rw [← HQ.out]; exact pw_cell_below hb4 HIZ.out.c2)
  have hfz := (hb4.frozen (p := ⟨G, xb * 2 + 1, none⟩) hGz).trans HGC.out.z1
  clear hb4 hv4
  refine ⟨_, rfl, hK.out _ _ hS1 (fun hHeld => ?_)⟩
  clear hK K
  refine norm_ (a' := ?_) ?_ ?_
  rotate_left
  · show Act.put _ (some 137) _ = _
    simp only [Act.put, List.setIfInBounds_toArray, List.set_cons_zero, List.set_cons_succ, i64_w, i32_w, T1.out, T2.out, T3.out, T4.out, T6.out]
    rfl
  refine pu_ 14 (some 138) (bm 17 32767) ?_ (ha := by simp only [Act.put, List.setIfInBounds_toArray, List.set_cons_zero, List.set_cons_succ, i64_w, i32_w, T1.out, T2.out, T3.out, T4.out, T6.out]; rfl)
  refine pu_ 15 (some 139) (bm 17 65535) ?_ (ha := by simp only [Act.put, List.setIfInBounds_toArray, List.set_cons_zero, List.set_cons_succ, i64_w, i32_w, T1.out, T2.out, T3.out, T4.out, T6.out]; rfl)
  refine last_ (i := 16) (N := none) (bm 17 131071) rfl rfl (by kernel_rfl) (by decide) (fun K hK => ?_)
  refine skip_ (w1 := ?_) (by rfl) rfl ?_ ?_
  rotate_left
  · go_simp
    rfl
  refine hK.out _ _ ?_
  clear hK K
  refine done_ (by kernel_rfl) ?_
  have hPU := HPU.out
  generalize V4.setCell ⟨G, xb * 2 + 1, none⟩ (.slice A4 (withB yc.f1 jb on).length c4) = V5 at hPU ⊢
  obtain ⟨hA5, ho5⟩ := hPU
  clear HPU hHeld hfz hS1
  go_wp2
  go_ret
  exact ⟨rfl, yc, HYC.out, hA5, ho5⟩

set_option maxRecDepth 100000 in
set_option maxHeartbeats 4000000 in
theorem set_good_good (g base : Nat) (ok : Nat → Prop) (gr i d : Int) (G n c : Nat) (gs : List S54) (block : Int) (on : Bool) (dr : Int × Bool) (w : World) (m x j : Nat) (y : S54) (b : Bool) (q dd xb jb : Nat) (yb : S54) (bb : Bool)
    (hI : IsAB w g gr i d (.slice (some ⟨G, 0, none⟩) n c)) (hg : base ≤ g ∧ ok g) (hok : ∀ k, ok k → k < w.heap.size) (hbs : base ≤ w.heap.size) (hR : Kd.R k54 54 w base ok (.slice (some ⟨G, 0, none⟩) n c) gs) (hn8 : n ≤ 8) (hgf : geom_Group.f gr i d ((m : Int) + 1) = some ((x : Int), (j : Int), true)) (hm : m < 100000) (hx : x < n) (hj : j < 100000) (hy : gs[x]? = some y) (hyl : y.f0.length < 1000000) (hget : bits_Get.f y.f0 (j : Int) = some b) (heq : (b == on) = false) (hdf : geom_DataOf.f 1 gr i d block = some dr) (hb0 : (block != 0) = true) (hdr : dr = ((dd : Int), true)) (hdq : d = (q : Int)) (hq0 : ¬ (q = 0)) (hq1 : q ≤ 1000) (hdd : dd < 100000) (hxb : dd / q = xb) (hjb : dd % q = jb) (hxn : xb < n) (hyb : gs[xb]? = some yb) (hybl : yb.f1.length < 1000000) (hgetb : bits_Get.f yb.f1 (jb : Int) = some bb) (heqb : (bb == on) = false) :
    Calls Try.prog 36 #[.pointer (some ⟨g, 0, none⟩), .int .i64 ((m : Int) + 1), .int .i64 block, .bool on] w fun e w' => e = .returned (.bool true) ∧ ∃ yc, (gs.set x ⟨withB y.f0 j on, y.f1⟩)[xb]? = some yc ∧ IsA base (fun k => ok k ∨ w.heap.size ≤ k) w' g gr i d ((gs.set x ⟨withB y.f0 j on, y.f1⟩).set xb ⟨yc.f0, withB yc.f1 jb on⟩) ∧ Off ok w w' := by
  have c0 := hI.c0
  have c1 := hI.c1
  have c2 := hI.c2
  have c3 := hI.c3
  have HI := Lib.hid hI
  have HGF := Lib.hid hgf
  have HDF := Lib.hid hdf
  have HOK := Lib.hid hok
  have HG := Lib.hid hg
  clear hI hgf hdf hok hg
  have HR := Lib.hid hR
  have hGlt := blk_lt_G hR
  have HN := Lib.hid (Kd.R_reads' hR).1
  clear hR
  obtain ⟨A0, a0, A1, a1, hgrp⟩ := grp_at HR.out hy
  have HGRP := Lib.hid hgrp
  have k0 := hgrp.k0
  have HY := Lib.hid hy
  have HYL := Lib.hid hyl
  have hx0 : (0 : Int) ≤ (x : Int) := by omega
  have hxi : (x : Int) < (n : Int) := by omega
  have hx8 : (x : Int) ≤ 7 := by omega
  have HGET : Hid (∀ W, Below w.heap.size w W → Calls Try.prog 46 #[.slice A0 y.f0.length a0, .int .i64 (j : Int)] W fun e w' => e = .returned (.bool b) ∧ Drawn0 W w') := Lib.hid (fun W hW => bits_Get.calls A0 a0 y.f0 _ _ W (HGRP.out.below hGlt hW).r0 HGRP.out.l0 hget)
  have hwf := with_nat (l := y.f0) hyl j (by omega) on 0
  have HWITH : Hid (∀ W, Below w.heap.size w W → Calls Try.prog 30 #[.slice A0 y.f0.length a0, .int .i64 (j : Int), .bool on] W fun e w' => ∃ v, e = .returned v ∧ Kd.R (Kd.int .u8) 5 w' w.heap.size (fun _ => True) v (withB y.f0 j on) ∧ Below w.heap.size w w') := Lib.hid (fun W hW => (bits_With.calls 1 A0 a0 y.f0 (j : Int) on _ W (HGRP.out.below hGlt hW).r0 HGRP.out.l0 hwf).mono (fun e w' h => by obtain ⟨v, h1, h2, h3⟩ := h; exact ⟨v, h1, Kd.R_lower h2 hW.size, hW.trans (h3.mono hW.size)⟩))
  clear hwf
  clear hgrp hy hget hyl
  subst hdr
  obtain ⟨E0, e0, E1, e1, hgrpb⟩ := grp_at HR.out hyb
  have HGRPB := Lib.hid hgrpb
  have k1 := hgrpb.k1
  have HYB := Lib.hid hyb
  have HYBL := Lib.hid hybl
  have hxb0 : (0 : Int) ≤ (xb : Int) := by omega
  have hxbi : (xb : Int) < (n : Int) := by omega
  have hxb8 : (xb : Int) ≤ 7 := by omega
  have HGETB : Hid (∀ W, Below w.heap.size w W → Calls Try.prog 46 #[.slice E1 yb.f1.length e1, .int .i64 (jb : Int)] W fun e w' => e = .returned (.bool bb) ∧ Drawn0 W w') := Lib.hid (fun W hW => bits_Get.calls E1 e1 yb.f1 _ _ W (HGRPB.out.below hGlt hW).r1 HGRPB.out.l1 hgetb)
  have t1 : (dd : Int) / (q : Int) = (xb : Int) := by rw [← hxb, Int.natCast_ediv]
  have t2 : Int.tdiv (dd : Int) (q : Int) = (xb : Int) := by rw [Int.tdiv_eq_ediv_of_nonneg (by omega)]; exact t1
  have t3 : (dd : Int) % (q : Int) = (jb : Int) := by rw [← hjb, Int.natCast_emod]
  have t4 : Int.tmod (dd : Int) (q : Int) = (jb : Int) := by rw [Int.tmod_eq_emod_of_nonneg (by omega)]; exact t3
  have t5 : IntKind.i64.wrap (xb : Int) = (xb : Int) := by rw [i64_w]; exact w64_id (by omega) (by omega)
  have t6 : wrap64 (xb : Int) = (xb : Int) := w64_id (by omega) (by omega)
  have HQ := Lib.hid hdq
  have HXB := Lib.hid hxb
  have HJB := Lib.hid hjb
  have HXN := Lib.hid hxn
  have T1 := Lib.hid t1
  have T2 := Lib.hid t2
  have T3 := Lib.hid t3
  have T4 := Lib.hid t4
  have T6 := Lib.hid t6
  clear hgrpb hyb hgetb hybl hxb hjb hdq t1 t2 t3 t4 t5 t6
  have hjb1 : jb < 1000 := by rw [← HJB.out]; exact Nat.lt_of_lt_of_le (Nat.mod_lt _ (by omega)) hq1
  go_enter Try.func36, Try.ntmps36
  go_wp2_with (first | (go_at_call 44; refine (geom_Group.calls gr i d _ _ _ _ _ HGF.out).mono ?_; rintro e w1 ⟨rfl, hb⟩; have HB1 := Lib.hid hb; have hJ := HI.out.below hb; have c0 := hJ.c0; have c1 := hJ.c1; have c2 := hJ.c2; clear hb hJ) | (go_at_call 45; refine (geom_DataOf.calls 1 gr i d _ _ _ _ HDF.out).mono ?_; rintro e w2 ⟨rfl, hb⟩; have HB2 := Lib.hid (HB1.out.trans (hb.mono HB1.out.size)); have hJ := HI.out.below HB2.out; have c0 := hJ.c0; have c1 := hJ.c1; have c2 := hJ.c2; have c3 := hJ.c3; have k0 := pw_cell_below HB2.out HGRP.out.k0; clear hb hJ) | (go_at_call 46; refine (HGET.out _ (by repeat (first | exact HB2.out | apply pw_below_drewN | apply bel_drew))).mono ?_; rintro e w3 ⟨rfl, hd⟩; obtain ⟨nd, rfl⟩ := hd.out))
  refine start_ (n := 28) (S := fun w' => w'.cell? ⟨g, 3, none⟩ = some (.slice (some ⟨G, 0, none⟩) n c) ∧ w'.cell? ⟨g, 2, none⟩ = some (.int .i64 (q : Int)) ∧ w'.cell? ⟨G, xb * 2 + 1, none⟩ = some (.slice E1 yb.f1.length e1)) (ds := []) #[false, false, false, false, false, false, false, false, false, false, false, false, false, false, false, false, false, false, false, false, false, false, false, false, false, false, false, false] (by kernel_rfl) rfl rfl ⟨pw_cell_below (by repeat (first | exact HB2.out | apply pw_below_drewN | apply bel_drew)) HI.out.c3, by rw [← HQ.out]; exact pw_cell_below (by repeat (first | exact HB2.out | apply pw_below_drewN | apply bel_drew)) HI.out.c2, pw_cell_below (by repeat (first | exact HB2.out | apply pw_below_drewN | apply bel_drew)) HGRPB.out.k1⟩ (fun hHeld => ?_)
  refine pu_ 0 (some 62) (bm 28 1) ?_ (ha := by simp only [Act.put, List.setIfInBounds_toArray, List.set_cons_zero, List.set_cons_succ, i64_w, i32_w, T1.out, T2.out, T3.out, T4.out, T6.out]; rfl)
  refine pu_ 1 (some 63) (bm 28 3) ?_ (ha := by simp only [Act.put, List.setIfInBounds_toArray, List.set_cons_zero, List.set_cons_succ, i64_w, i32_w, T1.out, T2.out, T3.out, T4.out, T6.out]; rfl)
  refine pu_ 2 (some 64) (bm 28 7) ?_ (ha := by simp only [Act.put, List.setIfInBounds_toArray, List.set_cons_zero, List.set_cons_succ, i64_w, i32_w, T1.out, T2.out, T3.out, T4.out, T6.out]; rfl)
  refine pu_ 3 (some 65) (bm 28 15) ?_ (ha := by simp only [Act.put, List.setIfInBounds_toArray, List.set_cons_zero, List.set_cons_succ, i64_w, i32_w, T1.out, T2.out, T3.out, T4.out, T6.out]; rfl)
  refine pu_ 4 (some 66) (bm 28 31) ?_ (ha := by simp only [Act.put, List.setIfInBounds_toArray, List.set_cons_zero, List.set_cons_succ, i64_w, i32_w, T1.out, T2.out, T3.out, T4.out, T6.out]; rfl)
  refine pu_ 5 (some 67) (bm 28 63) ?_ (ha := by simp only [Act.put, List.setIfInBounds_toArray, List.set_cons_zero, List.set_cons_succ, i64_w, i32_w, T1.out, T2.out, T3.out, T4.out, T6.out]; rfl)
  refine tk3_ 6 (some 68) (bm 28 127) hHeld ?_ (ha := by simp only [Act.put, List.setIfInBounds_toArray, List.set_cons_zero, List.set_cons_succ, i64_w, i32_w, T1.out, T2.out, T3.out, T4.out, T6.out]; rfl)
  refine pu_ 7 (some 69) (bm 28 255) ?_ (ha := by simp only [Act.put, List.setIfInBounds_toArray, List.set_cons_zero, List.set_cons_succ, i64_w, i32_w, T1.out, T2.out, T3.out, T4.out, T6.out]; rfl)
  refine pu_ 8 (some 70) (bm 28 511) ?_ (ha := by simp only [Act.put, List.setIfInBounds_toArray, List.set_cons_zero, List.set_cons_succ, i64_w, i32_w, T1.out, T2.out, T3.out, T4.out, T6.out]; rfl)
  refine pu_ 9 (some 71) (bm 28 1023) ?_ (ha := by simp only [Act.put, List.setIfInBounds_toArray, List.set_cons_zero, List.set_cons_succ, i64_w, i32_w, T1.out, T2.out, T3.out, T4.out, T6.out]; rfl)
  refine pu_ 10 (some 72) (bm 28 2047) ?_ (ha := by simp only [Act.put, List.setIfInBounds_toArray, List.set_cons_zero, List.set_cons_succ, i64_w, i32_w, T1.out, T2.out, T3.out, T4.out, T6.out]; rfl)
  refine pu_ 11 (some 73) (bm 28 4095) ?_ (ha := by simp only [Act.put, List.setIfInBounds_toArray, List.set_cons_zero, List.set_cons_succ, i64_w, i32_w, T1.out, T2.out, T3.out, T4.out, T6.out]; rfl)
  refine tk3_ 12 (some 74) (bm 28 8191) hHeld ?_ (ha := by simp only [Act.put, List.setIfInBounds_toArray, List.set_cons_zero, List.set_cons_succ, i64_w, i32_w, T1.out, T2.out, T3.out, T4.out, T6.out]; rfl)
  refine pu_ 13 (some 75) (bm 28 16383) ?_ (ha := by simp only [Act.put, List.setIfInBounds_toArray, List.set_cons_zero, List.set_cons_succ, i64_w, i32_w, T1.out, T2.out, T3.out, T4.out, T6.out]; rfl)
  refine pu_ 14 (some 76) (bm 28 32767) ?_ (ha := by simp only [Act.put, List.setIfInBounds_toArray, List.set_cons_zero, List.set_cons_succ, i64_w, i32_w, T1.out, T2.out, T3.out, T4.out, T6.out]; rfl)
  refine pu_ 15 (some 77) (bm 28 65535) ?_ (ha := by simp only [Act.put, List.setIfInBounds_toArray, List.set_cons_zero, List.set_cons_succ, i64_w, i32_w, T1.out, T2.out, T3.out, T4.out, T6.out]; rfl)
  refine tk3_ 16 (some 78) (bm 28 131071) hHeld ?_ (ha := by simp only [Act.put, List.setIfInBounds_toArray, List.set_cons_zero, List.set_cons_succ, i64_w, i32_w, T1.out, T2.out, T3.out, T4.out, T6.out]; rfl)
  refine pu_ 17 (some 79) (bm 28 262143) ?_ (ha := by simp only [Act.put, List.setIfInBounds_toArray, List.set_cons_zero, List.set_cons_succ, i64_w, i32_w, T1.out, T2.out, T3.out, T4.out, T6.out]; rfl)
  refine pu_ 18 (some 80) (bm 28 524287) ?_ (ha := by simp only [Act.put, List.setIfInBounds_toArray, List.set_cons_zero, List.set_cons_succ, i64_w, i32_w, T1.out, T2.out, T3.out, T4.out, T6.out]; rfl)
  refine pu_ 19 (some 81) (bm 28 1048575) ?_ (ha := by simp only [Act.put, List.setIfInBounds_toArray, List.set_cons_zero, List.set_cons_succ, i64_w, i32_w, T1.out, T2.out, T3.out, T4.out, T6.out]; rfl)
  refine pu_ 20 (some 82) (bm 28 2097151) ?_ (ha := by simp only [Act.put, List.setIfInBounds_toArray, List.set_cons_zero, List.set_cons_succ, i64_w, i32_w, T1.out, T2.out, T3.out, T4.out, T6.out]; rfl)
  refine pu_ 21 (some 83) (bm 28 4194303) ?_ (ha := by simp only [Act.put, List.setIfInBounds_toArray, List.set_cons_zero, List.set_cons_succ, i64_w, i32_w, T1.out, T2.out, T3.out, T4.out, T6.out]; rfl)
  refine tk3_ 22 (some 84) (bm 28 8388607) hHeld ?_ (ha := by simp only [Act.put, List.setIfInBounds_toArray, List.set_cons_zero, List.set_cons_succ, i64_w, i32_w, T1.out, T2.out, T3.out, T4.out, T6.out]; rfl)
  refine pu_ 23 (some 85) (bm 28 16777215) ?_ (ha := by simp only [Act.put, List.setIfInBounds_toArray, List.set_cons_zero, List.set_cons_succ, i64_w, i32_w, T1.out, T2.out, T3.out, T4.out, T6.out]; rfl)
  refine pu_ 25 (some 87) (bm 28 50331647) ?_ (ha := by simp only [Act.put, List.setIfInBounds_toArray, List.set_cons_zero, List.set_cons_succ, i64_w, i32_w, T1.out, T2.out, T3.out, T4.out, T6.out]; rfl)
  refine one_ (i := 24) (N := some 86) (bm 28 67108863) rfl rfl (by kernel_rfl) (by decide) (fun K hK => ?_)
  refine goes_ Try.func46 (by kernel_rfl) rfl #[.slice E1 yb.f1.length e1, .int .i64 (jb : Int)] (by rfl) rfl rfl (by (try simp only [List.map_toArray, List.map_cons, List.map_nil]); first | done | rfl) ?_
  refine (HGETB.out _ (by repeat (first | exact HB2.out | apply pw_below_drewN | apply bel_drew))).mono ?_
  rintro e w4 ⟨rfl, hd⟩
  obtain ⟨ne, rfl⟩ := hd.out
  refine ⟨_, rfl, hK.out _ _ ⟨hHeld.1, hHeld.2.1, hHeld.2.2⟩ (fun hHeld => ?_)⟩
  clear hK K
  refine norm_ (a' := ?_) ?_ ?_
  rotate_left
  · show Act.put _ (some 86) _ = _
    simp only [Act.put, List.setIfInBounds_toArray, List.set_cons_zero, List.set_cons_succ, i64_w, i32_w, T1.out, T2.out, T3.out, T4.out, T6.out]
    rfl
  refine pu_ 26 (some 88) (bm 28 134217727) ?_ (ha := by simp only [Act.put, List.setIfInBounds_toArray, List.set_cons_zero, List.set_cons_succ, i64_w, i32_w, T1.out, T2.out, T3.out, T4.out, T6.out]; rfl)
  refine pu_ 27 (some 89) (bm 28 268435455) ?_ (ha := by simp only [Act.put, List.setIfInBounds_toArray, List.set_cons_zero, List.set_cons_succ, i64_w, i32_w, T1.out, T2.out, T3.out, T4.out, T6.out]; rfl)
  refine done_ (by kernel_rfl) ?_
  go_wp2
  refine start_ (n := 19) (S := fun w' => w'.cell? ⟨g, 3, none⟩ = some (.slice (some ⟨G, 0, none⟩) n c) ∧ w'.cell? ⟨G, x * 2, none⟩ = some (.slice A0 y.f0.length a0)) (ds := [18]) #[false, false, false, false, false, false, false, false, false, false, false, false, false, false, false, false, false, false, false] (by kernel_rfl) rfl rfl ⟨pw_cell_below (by repeat (first | exact HB2.out | apply pw_below_drewN | apply bel_drew)) HI.out.c3, pw_cell_below (by repeat (first | exact HB2.out | apply pw_below_drewN | apply bel_drew)) HGRP.out.k0⟩ (fun hHeld => ?_)
  refine pu_ 0 (some 92) (bm 19 1) ?_
  refine pu_ 1 (some 93) (bm 19 3) ?_
  refine pu_ 2 (some 94) (bm 19 7) ?_
  refine tk2_ 3 (some 95) (bm 19 15) hHeld ?_
  refine pu_ 4 (some 96) (bm 19 31) ?_
  refine pu_ 5 (some 97) (bm 19 63) ?_
  refine pu_ 6 (some 98) (bm 19 127) ?_
  refine pu_ 7 (some 99) (bm 19 255) ?_
  refine tk2_ 8 (some 100) (bm 19 511) hHeld ?_
  refine pu_ 9 (some 101) (bm 19 1023) ?_
  refine pu_ 10 (some 102) (bm 19 2047) ?_
  refine pu_ 11 (some 103) (bm 19 4095) ?_
  refine tk2_ 12 (some 104) (bm 19 8191) hHeld ?_
  refine pu_ 13 (some 105) (bm 19 16383) ?_
  refine pu_ 14 (some 106) (bm 19 32767) ?_
  refine one_ (i := 15) (N := some 107) (bm 19 65535) rfl rfl (by kernel_rfl) (by decide) (fun K hK => ?_)
  refine goes_ Try.func30 (by kernel_rfl) rfl #[.slice A0 y.f0.length a0, .int .i64 (j : Int), .bool on] (by rfl) rfl rfl (by (try simp only [List.map_toArray, List.map_cons, List.map_nil]); first | done | rfl) ?_
  refine (HWITH.out _ (by repeat (first | exact HB2.out | apply pw_below_drewN | apply bel_drew))).mono ?_
  rintro e V2 ⟨v2, rfl, hv2, hb2⟩
  obtain ⟨A2, c2', rfl⟩ := Kd.R_slice hv2
  have HPU := Lib.hid (IsA.put0 (W := w) HI.out HG.out HR.out HY.out hbs HOK.out hb2 hv2)
  have hS1 := And.intro (pw_cell_below hb2 HI.out.c3) (pw_cell_below hb2 HGRP.out.k0)
  have hfz := (hb2.frozen (p := ⟨G, x * 2, none⟩) hGlt).trans HGRP.out.z0
  clear hb2 hv2
  refine ⟨_, rfl, hK.out _ _ hS1 (fun hHeld => ?_)⟩
  clear hK K
  refine norm_ (a' := ?_) ?_ ?_
  rotate_left
  · show Act.put _ (some 107) _ = _
    simp only [Act.put, List.setIfInBounds_toArray, List.set_cons_zero, List.set_cons_succ, i64_w, i32_w]
    rfl
  refine pu_ 16 (some 108) (bm 19 131071) ?_
  refine pu_ 17 (some 109) (bm 19 262143) ?_
  refine last_ (i := 18) (N := none) (bm 19 524287) rfl rfl (by kernel_rfl) (by decide) (fun K hK => ?_)
  refine skip_ (w1 := ?_) (by rfl) rfl ?_ ?_
  rotate_left
  · go_simp
    rfl
  refine hK.out _ _ ?_
  clear hK K
  refine done_ (by kernel_rfl) ?_
  have hPU := HPU.out
  generalize V2.setCell ⟨G, x * 2, none⟩ (.slice A2 (withB y.f0 j on).length c2') = V3 at hPU ⊢
  obtain ⟨hA3, ho3⟩ := hPU
  have HA3 := Lib.hid hA3.bound
  have HO3 := Lib.hid ho3
  clear hA3 ho3 HPU hHeld hfz hS1
  obtain ⟨vz, hIz, hgz, hRz⟩ := HA3.out
  have hlen1 : (gs.set x ⟨withB y.f0 j on, y.f1⟩).length = n := by rw [List.length_set]; exact HN.out.symm
  obtain ⟨Gz, cz, rfl, _, hGz, _⟩ := Kd.R_form hRz (by omega)
  rw [hlen1] at hIz hRz
  obtain ⟨yc, hyc⟩ : ∃ yc, (gs.set x ⟨withB y.f0 j on, y.f1⟩)[xb]? = some yc := ⟨_, List.getElem?_eq_getElem (by rw [hlen1]; exact HXN.out)⟩
  have hycl : yc.f1.length < 1000000 := by rw [set_f1 HY.out HYB.out hyc]; exact HYBL.out
  have hbz : base ≤ V3.heap.size := Nat.le_trans hbs HO3.out.size
  have HOKz : Hid (∀ k, ((ok k ∨ w.heap.size ≤ k) ∧ base ≤ k ∧ k < V3.heap.size) → k < V3.heap.size) := Lib.hid (fun k hk => hk.2.2)
  have HGZ := Lib.hid hgz
  have HIZ := Lib.hid hIz
  have HRZ := Lib.hid hRz
  clear hIz hgz hRz hlen1 k0 k1 c0 c1 c2 c3
  obtain ⟨F0, f0, F1, f1, hgc⟩ := grp_at HRZ.out hyc
  have hwf := with_nat (l := yc.f1) hycl jb (by omega) on 0
  have HWB : Hid (∀ W, Below V3.heap.size V3 W → Calls Try.prog 30 #[.slice F1 yc.f1.length f1, .int .i64 (jb : Int), .bool on] W fun e w' => ∃ v, e = .returned v ∧ Kd.R (Kd.int .u8) 5 w' V3.heap.size (fun _ => True) v (withB yc.f1 jb on) ∧ Below V3.heap.size V3 w') := Lib.hid (fun W hW => (bits_With.calls 1 F1 f1 yc.f1 (jb : Int) on _ W (hgc.below hGz hW).r1 hgc.l1 hwf).mono (fun e w' h => by obtain ⟨v, h1, h2, h3⟩ := h; exact ⟨v, h1, Kd.R_lower h2 hW.size, hW.trans (h3.mono hW.size)⟩))
  have HGC := Lib.hid hgc
  have HYC := Lib.hid hyc
  clear hgc hwf hyc hycl
  go_wp2
  refine start_ (n := 13) (S := fun w' => w'.cell? ⟨g, 3, none⟩ = some (.slice (some ⟨Gz, 0, none⟩) n cz) ∧ w'.cell? ⟨g, 2, none⟩ = some (.int .i64 (q : Int))) (ds := []) #[false, false, false, false, false, false, false, false, false, false, false, false, false] (by kernel_rfl) rfl rfl ⟨pw_cell_below (by repeat (first | exact Below.refl _ _ | apply pw_below_drewN | apply bel_drew)) HIZ.out.c3, by rw [← HQ.out]; exact pw_cell_below (by repeat (first | exact Below.refl _ _ | apply pw_below_drewN | apply bel_drew)) HIZ.out.c2⟩ (fun hHeld => ?_)
  refine pu_ 0 (some 112) (bm 13 1) ?_ (ha := by simp only [Act.put, List.setIfInBounds_toArray, List.set_cons_zero, List.set_cons_succ, i64_w, i32_w, T1.out, T2.out, T3.out, T4.out, T6.out]; rfl)
  refine pu_ 1 (some 113) (bm 13 3) ?_ (ha := by simp only [Act.put, List.setIfInBounds_toArray, List.set_cons_zero, List.set_cons_succ, i64_w, i32_w, T1.out, T2.out, T3.out, T4.out, T6.out]; rfl)
  refine pu_ 2 (some 114) (bm 13 7) ?_ (ha := by simp only [Act.put, List.setIfInBounds_toArray, List.set_cons_zero, List.set_cons_succ, i64_w, i32_w, T1.out, T2.out, T3.out, T4.out, T6.out]; rfl)
  refine tk2_ 3 (some 115) (bm 13 15) hHeld ?_ (ha := by simp only [Act.put, List.setIfInBounds_toArray, List.set_cons_zero, List.set_cons_succ, i64_w, i32_w, T1.out, T2.out, T3.out, T4.out, T6.out]; rfl)
  refine pu_ 4 (some 116) (bm 13 31) ?_ (ha := by simp only [Act.put, List.setIfInBounds_toArray, List.set_cons_zero, List.set_cons_succ, i64_w, i32_w, T1.out, T2.out, T3.out, T4.out, T6.out]; rfl)
  refine pu_ 5 (some 117) (bm 13 63) ?_ (ha := by simp only [Act.put, List.setIfInBounds_toArray, List.set_cons_zero, List.set_cons_succ, i64_w, i32_w, T1.out, T2.out, T3.out, T4.out, T6.out]; rfl)
  refine pu_ 6 (some 118) (bm 13 127) ?_ (ha := by simp only [Act.put, List.setIfInBounds_toArray, List.set_cons_zero, List.set_cons_succ, i64_w, i32_w, T1.out, T2.out, T3.out, T4.out, T6.out]; rfl)
  refine pu_ 7 (some 119) (bm 13 255) ?_ (ha := by simp only [Act.put, List.setIfInBounds_toArray, List.set_cons_zero, List.set_cons_succ, i64_w, i32_w, T1.out, T2.out, T3.out, T4.out, T6.out]; rfl)
  refine pu_ 8 (some 120) (bm 13 511) ?_ (ha := by simp only [Act.put, List.setIfInBounds_toArray, List.set_cons_zero, List.set_cons_succ, i64_w, i32_w, T1.out, T2.out, T3.out, T4.out, T6.out]; rfl)
  refine tk2_ 9 (some 121) (bm 13 1023) hHeld ?_ (ha := by simp only [Act.put, List.setIfInBounds_toArray, List.set_cons_zero, List.set_cons_succ, i64_w, i32_w, T1.out, T2.out, T3.out, T4.out, T6.out]; rfl)
  refine pu_ 10 (some 122) (bm 13 2047) ?_ (ha := by simp only [Act.put, List.setIfInBounds_toArray, List.set_cons_zero, List.set_cons_succ, i64_w, i32_w, T1.out, T2.out, T3.out, T4.out, T6.out]; rfl)
  refine pu_ 11 (some 123) (bm 13 4095) ?_ (ha := by simp only [Act.put, List.setIfInBounds_toArray, List.set_cons_zero, List.set_cons_succ, i64_w, i32_w, T1.out, T2.out, T3.out, T4.out, T6.out]; rfl)
  refine pu_ 12 (some 14) (bm 13 8191) ?_ (ha := by simp only [Act.put, List.setIfInBounds_toArray, List.set_cons_zero, List.set_cons_succ, i64_w, i32_w, T1.out, T2.out, T3.out, T4.out, T6.out]; rfl)
  refine done_ (by kernel_rfl) ?_
  go_wp2
  refine start_ (n := 17) (S := fun w' => w'.cell? ⟨Gz, xb * 2 + 1, none⟩ = some (.slice F1 yc.f1.length f1) ∧ w'.cell? ⟨g, 2, none⟩ = some (.int .i64 (q : Int))) (ds := [16]) #[false, false, false, false, false, false, false, false, false, false, false, false, false, false, false, false, false] (by kernel_rfl) rfl rfl ⟨pw_cell_below (by repeat (first | exact Below.refl _ _ | apply pw_below_drewN | apply bel_drew)) HGC.out.k1, by rw [← HQ.out]; exact pw_cell_below (by repeat (first | exact Below.refl _ _ | apply pw_below_drewN | apply bel_drew)) HIZ.out.c2⟩ (fun hHeld => ?_)
  refine pu_ 0 (some 124) (bm 17 1) ?_ (ha := by simp only [Act.put, List.setIfInBounds_toArray, List.set_cons_zero, List.set_cons_succ, i64_w, i32_w, T1.out, T2.out, T3.out, T4.out, T6.out]; rfl)
  refine pu_ 1 (some 125) (bm 17 3) ?_ (ha := by simp only [Act.put, List.setIfInBounds_toArray, List.set_cons_zero, List.set_cons_succ, i64_w, i32_w, T1.out, T2.out, T3.out, T4.out, T6.out]; rfl)
  refine pu_ 2 (some 126) (bm 17 7) ?_ (ha := by simp only [Act.put, List.setIfInBounds_toArray, List.set_cons_zero, List.set_cons_succ, i64_w, i32_w, T1.out, T2.out, T3.out, T4.out, T6.out]; rfl)
  refine pu_ 3 (some 127) (bm 17 15) ?_ (ha := by simp only [Act.put, List.setIfInBounds_toArray, List.set_cons_zero, List.set_cons_succ, i64_w, i32_w, T1.out, T2.out, T3.out, T4.out, T6.out]; rfl)
  refine tk2_ 4 (some 128) (bm 17 31) hHeld ?_ (ha := by simp only [Act.put, List.setIfInBounds_toArray, List.set_cons_zero, List.set_cons_succ, i64_w, i32_w, T1.out, T2.out, T3.out, T4.out, T6.out]; rfl)
  refine pu_ 5 (some 129) (bm 17 63) ?_ (ha := by simp only [Act.put, List.setIfInBounds_toArray, List.set_cons_zero, List.set_cons_succ, i64_w, i32_w, T1.out, T2.out, T3.out, T4.out, T6.out]; rfl)
  refine pu_ 6 (some 130) (bm 17 127) ?_ (ha := by simp only [Act.put, List.setIfInBounds_toArray, List.set_cons_zero, List.set_cons_succ, i64_w, i32_w, T1.out, T2.out, T3.out, T4.out, T6.out]; rfl)
  refine pu_ 7 (some 131) (bm 17 255) ?_ (ha := by simp only [Act.put, List.setIfInBounds_toArray, List.set_cons_zero, List.set_cons_succ, i64_w, i32_w, T1.out, T2.out, T3.out, T4.out, T6.out]; rfl)
  refine pu_ 8 (some 132) (bm 17 511) ?_ (ha := by simp only [Act.put, List.setIfInBounds_toArray, List.set_cons_zero, List.set_cons_succ, i64_w, i32_w, T1.out, T2.out, T3.out, T4.out, T6.out]; rfl)
  refine pu_ 9 (some 133) (bm 17 1023) ?_ (ha := by simp only [Act.put, List.setIfInBounds_toArray, List.set_cons_zero, List.set_cons_succ, i64_w, i32_w, T1.out, T2.out, T3.out, T4.out, T6.out]; rfl)
  refine tk2_ 10 (some 134) (bm 17 2047) hHeld ?_ (ha := by simp only [Act.put, List.setIfInBounds_toArray, List.set_cons_zero, List.set_cons_succ, i64_w, i32_w, T1.out, T2.out, T3.out, T4.out, T6.out]; rfl)
  refine pu_ 11 (some 135) (bm 17 4095) ?_ (ha := by simp only [Act.put, List.setIfInBounds_toArray, List.set_cons_zero, List.set_cons_succ, i64_w, i32_w, T1.out, T2.out, T3.out, T4.out, T6.out]; rfl)
  refine pu_ 12 (some 136) (bm 17 8191) ?_ (ha := by simp only [Act.put, List.setIfInBounds_toArray, List.set_cons_zero, List.set_cons_succ, i64_w, i32_w, T1.out, T2.out, T3.out, T4.out, T6.out]; rfl)
  refine one_ (i := 13) (N := some 137) (bm 17 16383) rfl rfl (by kernel_rfl) (by decide) (fun K hK => ?_)
  refine goes_ Try.func30 (by kernel_rfl) rfl #[.slice F1 yc.f1.length f1, .int .i64 (jb : Int), .bool on] (by rfl) rfl rfl (by (try simp only [List.map_toArray, List.map_cons, List.map_nil]); first | done | rfl) ?_
  refine (HWB.out _ (by repeat (first | exact Below.refl _ _ | apply pw_below_drewN | apply bel_drew))).mono ?_
  rintro e V4 ⟨v4, rfl, hv4, hb4⟩
  obtain ⟨A4, c4, rfl⟩ := Kd.R_slice hv4
  have HPU := Lib.hid (IsA.put1 (W := V3) (ok := (fun k => (ok k ∨ w.heap.size ≤ k) ∧ base ≤ k ∧ k < V3.heap.size)) HIZ.out HGZ.out HRZ.out HYC.out hbz HOKz.out hb4 hv4)
  have hS1 := And.intro (pw_cell_below hb4 HGC.out.k1) (show V4.cell? ⟨g, 2, none⟩ = some (.int .i64 (q : Int)) from by rw [← HQ.out]; exact pw_cell_below hb4 HIZ.out.c2)
  have hfz := (hb4.frozen (p := ⟨Gz, xb * 2 + 1, none⟩) hGz).trans HGC.out.z1
  clear hb4 hv4
  refine ⟨_, rfl, hK.out _ _ hS1 (fun hHeld => ?_)⟩
  clear hK K
  refine norm_ (a' := ?_) ?_ ?_
  rotate_left
  · show Act.put _ (some 137) _ = _
    simp only [Act.put, List.setIfInBounds_toArray, List.set_cons_zero, List.set_cons_succ, i64_w, i32_w, T1.out, T2.out, T3.out, T4.out, T6.out]
    rfl
  refine pu_ 14 (some 138) (bm 17 32767) ?_ (ha := by simp only [Act.put, List.setIfInBounds_toArray, List.set_cons_zero, List.set_cons_succ, i64_w, i32_w, T1.out, T2.out, T3.out, T4.out, T6.out]; rfl)
  refine pu_ 15 (some 139) (bm 17 65535) ?_ (ha := by simp only [Act.put, List.setIfInBounds_toArray, List.set_cons_zero, List.set_cons_succ, i64_w, i32_w, T1.out, T2.out, T3.out, T4.out, T6.out]; rfl)
  refine last_ (i := 16) (N := none) (bm 17 131071) rfl rfl (by kernel_rfl) (by decide) (fun K hK => ?_)
  refine skip_ (w1 := ?_) (by rfl) rfl ?_ ?_
  rotate_left
  · go_simp
    rfl
  refine hK.out _ _ ?_
  clear hK K
  refine done_ (by kernel_rfl) ?_
  have hPU := HPU.out
  generalize V4.setCell ⟨Gz, xb * 2 + 1, none⟩ (.slice A4 (withB yc.f1 jb on).length c4) = V5 at hPU ⊢
  obtain ⟨hA5, ho5⟩ := hPU
  clear HPU hHeld hfz hS1
  go_wp2
  go_ret
  exact ⟨rfl, yc, HYC.out, hA5.mono (fun k hk => hk.elim (fun h => h.1) (fun h => .inr (Nat.le_trans HO3.out.size h))), HO3.out.then_ ho5 (fun k hk => hk.1)⟩
end Go.Proofs.Ytppjeikkodjjhaa.Given
