/- DiskPlays: a round of its loop (one kind of call). -/
import Derived.Test.YtahljbbofjbhgaaE16
namespace Go.Proofs.Ytahljbbofjbhgaa.Given
open Go.RowKit Go.Shelf Go.Proofs.YtahljbbofjbhgaaW.PrintWords Go.Proofs.YtahljbbofjbhgaaW.PrintLast Go.Proofs.YtahljbbofjbhgaaW.PrintMore Go.Proofs.YtahljbbofjbhgaaBase
set_option linter.unusedVariables false
set_option linter.unusedSimpArgs false

set_option maxRecDepth 1000000 in
set_option maxHeartbeats 8000000 in
theorem plays_r3 (l : List S38) (A : Option Addr) (c n gd go gm N1 : Nat) (w : World) (c2 c3 c5 c18 c19 c20 c21 c22 c23 c24 c25 c26 c27 c28 c29 c30 c31 c32 c33 c34 c35 c36 c37 c38 c39 c40 c41 c42 c43 c201 c202 c203 c204 c205 c206 c207 c208 c209 c210 c211 c212 c213 c214 c215 c216 c217 c218 c219 c220 c221 c222 c223 c224 c225 c226 c227 c228 c229 c230 c231 c232 c233 c234 c235 c236 c237 c238 c239 c240 c241 c242 c243 c244 c245 c246 c247 c248 c249 c250 c251 c252 c253 c254 c255 c256 c257 c258 c259 c260 c261 c262 c263 c264 c265 : Value) (u4 u10 u11 u12 u13 u14 u15 u16 u17 u44 u45 u46 u47 u48 u49 u50 u51 u52 u53 u54 u55 u56 u57 u58 u59 u60 u61 u62 u63 u64 u65 u66 u67 u68 u69 u70 u71 u72 u73 u74 u75 u76 u77 u78 u79 u80 u81 u82 u83 u84 u85 u86 u87 u88 u89 u90 u91 u92 u93 u94 u95 u96 u97 u98 u99 u100 u101 u102 u103 u104 u105 u106 u107 u108 u109 u110 u111 u112 u113 u114 u115 u116 u117 u118 u119 u120 u121 u122 u123 u124 u125 u126 u127 u128 u129 u130 u131 u132 u133 u134 u135 u136 u137 u138 u139 u140 u141 u142 u143 u144 u145 u146 u147 u148 u149 u150 u151 u152 u153 u154 u155 u156 u157 u158 u159 u160 u161 u162 u163 u164 u165 u166 u167 u168 u169 u170 u171 u172 u173 u174 u175 u176 u177 u178 u179 u180 u181 u182 u183 u184 u185 u186 u187 u188 u189 u190 u191 u192 u193 u194 u195 u196 u197 u198 u199 u200 : Value) (j : Nat) (wr : World) (Q0 : Exit → Act → World → Prop) (hpan : ∀ ch a a' w, a.defers = a'.defers → Q0 (.panic ch) a w → Q0 (.panic ch) a' w) (hC : Kd.C k38 w A l.length l) (hc : l.length ≤ c) (hl : l.length ≤ 200) (hwf : ∀ y ∈ l, (Lit.int .i64 y.f2).wf = true ∧ y.f3.length ≤ maxLen) (hn50 : n ≤ 50) (hlt : j < l.length) (hI : PlI w N1 gd go gm n j wr) (h3 : ¬ 3000 < (rd_T38 l (j : Int)).f3.length) (hk : (rd_T38 l (j : Int)).f0 ≠ 0 ∧ (rd_T38 l (j : Int)).f0 ≠ 1 ∧ (rd_T38 l (j : Int)).f0 ≠ 2) :
    Code.wp Try.prog plBody (Exit.then (fun a' w'' => PlW l A c n gd go gm N1 w c2 c3 c5 c18 c19 c20 c21 c22 c23 c24 c25 c26 c27 c28 c29 c30 c31 c32 c33 c34 c35 c36 c37 c38 c39 c40 c41 c42 c43 c201 c202 c203 c204 c205 c206 c207 c208 c209 c210 c211 c212 c213 c214 c215 c216 c217 c218 c219 c220 c221 c222 c223 c224 c225 c226 c227 c228 c229 c230 c231 c232 c233 c234 c235 c236 c237 c238 c239 c240 c241 c242 c243 c244 c245 c246 c247 c248 c249 c250 c251 c252 c253 c254 c255 c256 c257 c258 c259 c260 c261 c262 c263 c264 c265 a' w'' ∧ PlMu l.length a' w'' < PlMu l.length ⟨#[.int .i64 (n : Int), .slice A l.length c, c2, c3, u4, c5, .pointer (some ⟨gd, 0, none⟩), .pointer (some ⟨go, 0, none⟩), .pointer (some ⟨gm, 0, none⟩), .int .i64 (j : Int), u10, u11, u12, u13, u14, u15, u16, u17, c18, c19, c20, c21, c22, c23, c24, c25, c26, c27, c28, c29, c30, c31, c32, c33, c34, c35, c36, c37, c38, c39, c40, c41, c42, c43, u44, u45, u46, u47, u48, u49, u50, u51, u52, u53, u54, u55, u56, u57, u58, u59, u60, u61, u62, u63, u64, u65, u66, u67, u68, u69, u70, u71, u72, u73, u74, u75, u76, u77, u78, u79, u80, u81, u82, u83, u84, u85, u86, u87, u88, u89, u90, u91, u92, u93, u94, u95, u96, u97, u98, u99, u100, u101, u102, u103, u104, u105, u106, u107, u108, u109, u110, u111, u112, u113, u114, u115, u116, u117, u118, u119, u120, u121, u122, u123, u124, u125, u126, u127, u128, u129, u130, u131, u132, u133, u134, u135, u136, u137, u138, u139, u140, u141, u142, u143, u144, u145, u146, u147, u148, u149, u150, u151, u152, u153, u154, u155, u156, u157, u158, u159, u160, u161, u162, u163, u164, u165, u166, u167, u168, u169, u170, u171, u172, u173, u174, u175, u176, u177, u178, u179, u180, u181, u182, u183, u184, u185, u186, u187, u188, u189, u190, u191, u192, u193, u194, u195, u196, u197, u198, u199, u200, c201, c202, c203, c204, c205, c206, c207, c208, c209, c210, c211, c212, c213, c214, c215, c216, c217, c218, c219, c220, c221, c222, c223, c224, c225, c226, c227, c228, c229, c230, c231, c232, c233, c234, c235, c236, c237, c238, c239, c240, c241, c242, c243, c244, c245, c246, c247, c248, c249, c250, c251, c252, c253, c254, c255, c256, c257, c258, c259, c260, c261, c262, c263, c264, c265], []⟩ wr) Q0) ⟨#[.int .i64 (n : Int), .slice A l.length c, c2, c3, u4, c5, .pointer (some ⟨gd, 0, none⟩), .pointer (some ⟨go, 0, none⟩), .pointer (some ⟨gm, 0, none⟩), .int .i64 (j : Int), u10, u11, u12, u13, u14, u15, u16, u17, c18, c19, c20, c21, c22, c23, c24, c25, c26, c27, c28, c29, c30, c31, c32, c33, c34, c35, c36, c37, c38, c39, c40, c41, c42, c43, u44, u45, u46, u47, u48, u49, u50, u51, u52, u53, u54, u55, u56, u57, u58, u59, u60, u61, u62, u63, u64, u65, u66, u67, u68, u69, u70, u71, u72, u73, u74, u75, u76, u77, u78, u79, u80, u81, u82, u83, u84, u85, u86, u87, u88, u89, u90, u91, u92, u93, u94, u95, u96, u97, u98, u99, u100, u101, u102, u103, u104, u105, u106, u107, u108, u109, u110, u111, u112, u113, u114, u115, u116, u117, u118, u119, u120, u121, u122, u123, u124, u125, u126, u127, u128, u129, u130, u131, u132, u133, u134, u135, u136, u137, u138, u139, u140, u141, u142, u143, u144, u145, u146, u147, u148, u149, u150, u151, u152, u153, u154, u155, u156, u157, u158, u159, u160, u161, u162, u163, u164, u165, u166, u167, u168, u169, u170, u171, u172, u173, u174, u175, u176, u177, u178, u179, u180, u181, u182, u183, u184, u185, u186, u187, u188, u189, u190, u191, u192, u193, u194, u195, u196, u197, u198, u199, u200, c201, c202, c203, c204, c205, c206, c207, c208, c209, c210, c211, c212, c213, c214, c215, c216, c217, c218, c219, c220, c221, c222, c223, c224, c225, c226, c227, c228, c229, c230, c231, c232, c233, c234, c235, c236, c237, c238, c239, c240, c241, c242, c243, c244, c245, c246, c247, c248, c249, c250, c251, c252, c253, c254, c255, c256, c257, c258, c259, c260, c261, c262, c263, c264, c265], []⟩ wr := by
  have hlt2 : (j : Int) < (l.length : Int) := by omega
  have hn0 : (0 : Int) ≤ (n : Int) := by omega
  have hn1 : (n : Int) ≤ 50 := by omega
  obtain ⟨okd, oko, okm, s, so, hT, hs, hso, hb, hz0, hz1⟩ := hI
  obtain ⟨ad, A3, cx, e0, k0, k1, k2, k3, l3, g3⟩ := at_T38 hC j hlt
  subst e0
  have mv : ∀ {a : Addr} {v : Value}, w.cell? a = some v → wr.cell? a = some v := fun h => (hb.cell (World.block_lt_of_cell? w _ h)).trans h
  replace k0 := mv k0
  replace k1 := mv k1
  replace k2 := mv k2
  replace k3 := mv k3
  have hmem0 : rd_T38 l (j : Int) ∈ l := by
    rw [rd_T38, Int.toNat_natCast, List.getD_eq_getElem?_getD, List.getElem?_eq_getElem hlt, Option.getD_some]
    exact List.getElem_mem _
  obtain ⟨y, hy⟩ : ∃ y, rd_T38 l (j : Int) = y := ⟨_, rfl⟩
  rw [hy] at k0 k1 k2 k3 l3 g3 hmem0 h3 hk
  have HW2 := Lib.hid (wf_hi (hwf y hmem0).1)
  have HT := Lib.hid hT
  have HS := Lib.hid hs
  have HSO := Lib.hid hso
  have HB := Lib.hid hb
  have HFX := Lib.hid (Kd.F_below (Kd.C_F (Kd.heap_int _) g3) hb)
  clear hC hwf hT hs hso hb hy hmem0 g3 mv
  have t4 : (y.f0 == 0) = false := by simp [hk.1]
  have t5 : (y.f0 == 1) = false := by simp [hk.2.1]
  have t6 : (y.f0 == 2) = false := by simp [hk.2.2]
  clear hk
  have t3 : decide ((y.f3.length : Int) > 3000) = false := decide_eq_false (by omega)
  have hA0 := blk_new wr (.cells #[.int .i64 y.f0, .int .i64 y.f1, .int .i64 y.f2, .slice A3 y.f3.length cx] 38)
  have HA0 := Lib.hid hA0
  have hS0 : (wr.alloc (.cells #[.int .i64 y.f0, .int .i64 y.f1, .int .i64 y.f2, .slice A3 y.f3.length cx] 38)).drew.cell? ⟨wr.heap.size, 1, none⟩ = some (.int .i64 y.f1) := (blk_cell HA0 1).trans rfl
  clear hA0
  conv => arg 2; whnf
  go_upto_region 15 with (fail)
  clear k0 k1 k2 k3
  refine start_ (n := 5) (S := fun w' => w'.cell? ⟨wr.heap.size, 1, none⟩ = some (.int .i64 y.f1)) (ds := [4]) #[false, false, false, false, false] (by kernel_rfl) rfl rfl hS0 (fun hHeld => ?_)
  refine pure_ (i := 0) (N := some 58) (v := ?_) (a' := ?_) #[true, false, false, false, false] rfl rfl (by kernel_rfl) (fun _ _ _ h => hpan _ _ _ _ (by rfl) h) (Or.inl ⟨by rfl, ?_⟩) ?_ ?_
  rotate_left
  · intro w'
    go_simp
    with_reducible rfl
  rotate_left
  · simp only [Act.put, List.setIfInBounds_toArray, List.set_cons_zero, List.set_cons_succ, i64_w, i32_w]
    rfl
  refine pure_ (i := 1) (N := some 59) (v := ?_) (a' := ?_) #[true, true, false, false, false] rfl rfl (by kernel_rfl) (fun _ _ _ h => hpan _ _ _ _ (by rfl) h) (Or.inl ⟨by rfl, ?_⟩) ?_ ?_
  rotate_left
  · intro w'
    go_simp
    with_reducible rfl
  rotate_left
  · simp only [Act.put, List.setIfInBounds_toArray, List.set_cons_zero, List.set_cons_succ, i64_w, i32_w]
    rfl
  refine take_ (i := 2) (N := some 60) (v := ?_) (a' := ?_) #[true, true, true, false, false] rfl rfl (by kernel_rfl) (fun _ _ _ h => hpan _ _ _ _ (by rfl) h) (Or.inl ⟨by rfl, ?_⟩) hHeld ?_ ?_
  rotate_left
  · rintro w' s0
    go_simp
    with_reducible rfl
  rotate_left
  · simp only [Act.put, List.setIfInBounds_toArray, List.set_cons_zero, List.set_cons_succ, i64_w, i32_w]
    rfl
  have HT5 := Lib.hid ((HT.out.below (below_alloc (Below.refl _ wr) (.cells #[.int .i64 y.f0, .int .i64 y.f1, .int .i64 y.f2, .slice A3 y.f3.length cx] 38))).below (below_drew (Below.refl _ _)))
  have HB5 := Lib.hid (below_drew (below_alloc HB.out (.cells #[.int .i64 y.f0, .int .i64 y.f1, .int .i64 y.f2, .slice A3 y.f3.length cx] 38)))
  have HF5 := Lib.hid (Kd.F_drew (Kd.F_alloc HFX.out (.cells #[.int .i64 y.f0, .int .i64 y.f1, .int .i64 y.f2, .slice A3 y.f3.length cx] 38)))
  have HA5 : Hid ((wr.alloc (.cells #[.int .i64 y.f0, .int .i64 y.f1, .int .i64 y.f2, .slice A3 y.f3.length cx] 38)).drew.heap[wr.heap.size]? = some (.cells #[.int .i64 y.f0, .int .i64 y.f1, .int .i64 y.f2, .slice A3 y.f3.length cx] 38 (0, 0))) := HA0
  have HZ5 : Hid ((wr.alloc (.cells #[.int .i64 y.f0, .int .i64 y.f1, .int .i64 y.f2, .slice A3 y.f3.length cx] 38)).drew.heap.size = wr.heap.size + 1) := Lib.hid (World.size_alloc _ _)
  generalize (wr.alloc (.cells #[.int .i64 y.f0, .int .i64 y.f1, .int .i64 y.f2, .slice A3 y.f3.length cx] 38)).drew = w5 at HT5 HB5 HF5 HA5 HZ5 hHeld hS0 ⊢
  obtain ⟨w6, hmk6, hR6, hb6, hz6⟩ := madeR w5 1024 1024 rfl (by decide)
  refine one_ (i := 3) (N := some 61) #[true, true, true, true, false] rfl rfl (by kernel_rfl) (by decide) (fun K hK => ?_)
  refine value_ (w1 := w6) (v := .slice (some ⟨w5.heap.size, 0, none⟩) 1024 1024) (by rfl) rfl ?_ (hK.out _ _ ((hb6.cell (World.block_lt_of_cell? _ _ hS0)).trans hS0) (fun hHeld => ?_))
  · go_simp
  clear hK K
  refine norm_ (a' := ?_) ?_ ?_
  rotate_left
  · show Act.put _ (some 61) _ = _
    simp only [Act.put, List.setIfInBounds_toArray, List.set_cons_zero, List.set_cons_succ, i64_w, i32_w]
    rfl
  obtain ⟨X0, hX0⟩ : ∃ X0, List.replicate 1024 (0 : Int) = X0 := ⟨_, rfl⟩
  have hX0l : X0.length = 1024 := by rw [← hX0, List.length_replicate]
  rw [hX0] at hR6
  have hT6 := HT5.out.below hb6
  have hN6 : N1 ≤ w6.heap.size := by have := HZ5.out; omega
  have hw := write_calls go N1 oko (fun k => k = w5.heap.size) so y.f1 (some ⟨w5.heap.size, 0, none⟩) 1024 X0 w6 hT6.o (fun k hk => (hT6.bo k hk).2) hN6 (Kd.F_mono (by have := Kd.R_F hR6; rw [hX0l]; exact this) (fun _ h => h)) (by rw [hX0l]; exact Nat.le_refl _) (fun k hk h2 => by have := (HT5.out.bo k h2).2; omega) (by rw [HSO.out.len]; omega) (by have := HSO.out.log; omega) HSO.out.cut1 HSO.out.cut0
  rw [hX0l] at hw
  refine last_ (i := 4) (N := some 62) #[true, true, true, true, true] rfl rfl (by kernel_rfl) (by decide) (fun K hK => ?_)
  refine goes_ Try.func10 (by kernel_rfl) rfl #[.pointer (some ⟨go, 0, none⟩), .int .i64 y.f1, .slice (some ⟨w5.heap.size, 0, none⟩) 1024 1024] (by rfl) rfl rfl (by (try simp only [List.map_toArray, List.map_cons, List.map_nil]); first | done | rfl) ?_
  refine hw.mono ?_
  rintro e w7 ⟨rfl, hd7, ho7⟩
  have HT7 := Lib.hid (hT6.wo hN6 hd7 ho7)
  have HB7 := Lib.hid (Off.keepB (HB5.out.trans (hb6.mono HB5.out.size)) ho7 (fun k hk => by have := (HT5.out.bo k hk).1; omega) (Nat.le_trans HB5.out.size hb6.size))
  have HA7 := Lib.hid (ho7.blk ((hb6.block _ (by have := HZ5.out; omega)).trans HA5.out) (fun h => by have := (HT.out.bo _ h).2; omega))
  have HF7 := Lib.hid (Off.F (Kd.F_below HF5.out hb6) ho7 (fun k hk h2 => by have := (HT5.out.bo k h2).1; omega))
  have HZ7 : Hid (wr.heap.size < w7.heap.size ∧ N1 ≤ w7.heap.size) := Lib.hid ⟨by have := ho7.size; have := HZ5.out; omega, by have := ho7.size; have := HZ5.out; omega⟩
  have HSO7 := Lib.hid (HSO.out.write y.f1 X0)
  obtain ⟨so7, hso7⟩ : ∃ so7, (writeD y.f1 X0 so).1 = so7 := ⟨_, rfl⟩
  rw [hso7] at HT7 HSO7
  clear hw hd7 ho7 hT6 hX0 hX0l hR6 hb6 hz6 hmk6 hso7
  refine ⟨_, rfl, hK.out _ _ ?_⟩
  clear hK K
  refine norm_ (a' := ?_) ?_ ?_
  rotate_left
  · show Act.put _ (some 62) _ = _
    simp only [Act.put, List.setIfInBounds_toArray, List.set_cons_zero, List.set_cons_succ, i64_w, i32_w]
    rfl
  refine done_ (by kernel_rfl) ?_
  have k0 := (blk_cell HA7.out 0).trans rfl
  have k1 := (blk_cell HA7.out 1).trans rfl
  have k2 := (blk_cell HA7.out 2).trans rfl
  have k3 := (blk_cell HA7.out 3).trans rfl
  go_upto_region 43 with (first | (go_at_call 15; refine (startD HT7.out.d).mono ?_; rintro e w8 ⟨rfl, hd8, ho8⟩; have HT8 := Lib.hid (HT7.out.cd (s' := { s with cut := -1, dead := false }) hd8 ho8); obtain ⟨Am, cm, vlm, hIm, _, _, hokm⟩ := HT8.out.mb; have m2 := hIm.c2; have m3 := hIm.c3; have m2f := blk_frozen hIm 2; have m3f := blk_frozen hIm 3; have HIM := Lib.hid hIm; have HOKM := Lib.hid hokm; have HB8 := Lib.hid (Off.keepB HB7.out ho8 (fun k hk => by have := (HT7.out.bd k hk).1; omega) HB7.out.size); have HZ8 : Hid (N1 ≤ w8.heap.size) := Lib.hid (by have := ho8.size; have := HZ7.out.2; omega); clear k0 k1 k2 k3 hd8 ho8 hIm hokm))
  have hMM := (HT8.out.m.set3 false).set2 (-1)
  have hMO := (Off.set1 (ok := okm) w8 ⟨gm, 3, none⟩ HOKM.out (.bool false)).setCell (p := ⟨gm, 2, none⟩) (.inl HOKM.out) (.int .i64 (-1))
  have hTE := HT8.out.cm (s' := { s with cut := -1, dead := false }) hMM hMO
  have HTE := Lib.hid hTE
  have HBE := Lib.hid (Off.keepB HB8.out hMO (fun k hk => by have := (HT8.out.bm k hk).1; omega) HB8.out.size)
  have HNE : Hid (N1 ≤ _) := Lib.hid (Nat.le_trans HZ8.out hMO.size)
  have HSE : Hid (DSok { s with cut := -1, dead := false } (n * 1024) (2 * j)) := Lib.hid ⟨HS.out.len, HS.out.log, by simp, by simp, HS.out.sec⟩
  have hM3 := ((HIM.out.set3 false).set2 (-1)).c3
  clear hMM hMO hTE m2 m2f m3 m3f
  generalize (w8.setCell ⟨gm, 3, none⟩ (.bool false)).setCell ⟨gm, 2, none⟩ (.int .i64 (-1)) = w9 at HTE HBE HNE hM3 ⊢
  go_quiet ((go_at_call 12; exact Calls.quiet_of ((deadD ((HTE.out.below (pw_below_drewN (Below.refl _ _) _)).d)).mono (fun e w' h => ⟨h.1, h.2.out⟩))))
  go_wp2
  refine ⟨?_, by simp [PlMu, intOf]; omega⟩
  unfold PlW
  refine ⟨_, _, _, _, _, _, _, _, _, _, _, _, _, _, _, _, _, _, _, _, _, _, _, _, _, _, _, _, _, _, _, _, _, _, _, _, _, _, _, _, _, _, _, _, _, _, _, _, _, _, _, _, _, _, _, _, _, _, _, _, _, _, _, _, _, _, _, _, _, _, _, _, _, _, _, _, _, _, _, _, _, _, _, _, _, _, _, _, _, _, _, _, _, _, _, _, _, _, _, _, _, _, _, _, _, _, _, _, _, _, _, _, _, _, _, _, _, _, _, _, _, _, _, _, _, _, _, _, _, _, _, _, _, _, _, _, _, _, _, _, _, _, _, _, _, _, _, _, _, _, _, _, _, _, _, _, _, _, _, _, _, _, _, _, _, _, _, ⟨j + 1, by omega, by go_num, _, _, _, _, _, HTE.out.below (pw_below_drewN (Below.refl _ _) _), HSE.out.more (by omega), HSO7.out.more (by omega), pw_below_drewN HBE.out _, hz0, HNE.out⟩, rfl⟩
end Go.Proofs.Ytahljbbofjbhgaa.Given
