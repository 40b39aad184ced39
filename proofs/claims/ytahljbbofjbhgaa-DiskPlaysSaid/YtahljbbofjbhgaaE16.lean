/- DiskPlays: its loop's body, what holds between two rounds. -/
import Derived.Test.YtahljbbofjbhgaaE14
import Derived.Deep.QuietTactic
import Derived.BigQuiet
import Derived.Deep.Cut
import Derived.Deep.CutRange
namespace Go.Proofs.Ytahljbbofjbhgaa.Given
open Go.RowKit Go.Shelf Go.Proofs.YtahljbbofjbhgaaW.PrintWords Go.Proofs.YtahljbbofjbhgaaW.PrintLast Go.Proofs.YtahljbbofjbhgaaW.PrintMore Go.Proofs.YtahljbbofjbhgaaBase
set_option linter.unusedVariables false
set_option linter.unusedSimpArgs false

/-- the first loop's body of a piece of code -/
def firstLoop : Code → Option Code
  | .loop c => some c
  | .seq a b => match firstLoop a with
    | some c => some c
    | none => firstLoop b
  | .block _ c => firstLoop c
  | .scope c => firstLoop c
  | .cond _ a b => match firstLoop a with
    | some c => some c
    | none => firstLoop b
  | _ => none
noncomputable def plBody : Code := ((Try.f4.body.bind firstLoop).getD .skip)
set_option maxRecDepth 1000000 in
def PlW (l : List S38) (A : Option Addr) (c n gd go gm N1 : Nat) (w : World) (c2 c3 c5 c18 c19 c20 c21 c22 c23 c24 c25 c26 c27 c28 c29 c30 c31 c32 c33 c34 c35 c36 c37 c38 c39 c40 c41 c42 c43 c201 c202 c203 c204 c205 c206 c207 c208 c209 c210 c211 c212 c213 c214 c215 c216 c217 c218 c219 c220 c221 c222 c223 c224 c225 c226 c227 c228 c229 c230 c231 c232 c233 c234 c235 c236 c237 c238 c239 c240 c241 c242 c243 c244 c245 c246 c247 c248 c249 c250 c251 c252 c253 c254 c255 c256 c257 c258 c259 c260 c261 c262 c263 c264 c265 : Value) (a : Act) (w' : World) : Prop := ∃ u4 u9 u10 u11 u12 u13 u14 u15 u16 u17 u44 u45 u46 u47 u48 u49 u50 u51 u52 u53 u54 u55 u56 u57 u58 u59 u60 u61 u62 u63 u64 u65 u66 u67 u68 u69 u70 u71 u72 u73 u74 u75 u76 u77 u78 u79 u80 u81 u82 u83 u84 u85 u86 u87 u88 u89 u90 u91 u92 u93 u94 u95 u96 u97 u98 u99 u100 u101 u102 u103 u104 u105 u106 u107 u108 u109 u110 u111 u112 u113 u114 u115 u116 u117 u118 u119 u120 u121 u122 u123 u124 u125 u126 u127 u128 u129 u130 u131 u132 u133 u134 u135 u136 u137 u138 u139 u140 u141 u142 u143 u144 u145 u146 u147 u148 u149 u150 u151 u152 u153 u154 u155 u156 u157 u158 u159 u160 u161 u162 u163 u164 u165 u166 u167 u168 u169 u170 u171 u172 u173 u174 u175 u176 u177 u178 u179 u180 u181 u182 u183 u184 u185 u186 u187 u188 u189 u190 u191 u192 u193 u194 u195 u196 u197 u198 u199 u200 : Value, (∃ j : Nat, j ≤ l.length ∧ u9 = .int .i64 (j : Int) ∧ PlI w N1 gd go gm n j w') ∧ a = ⟨#[.int .i64 (n : Int), .slice A l.length c, c2, c3, u4, c5, .pointer (some ⟨gd, 0, none⟩), .pointer (some ⟨go, 0, none⟩), .pointer (some ⟨gm, 0, none⟩), u9, u10, u11, u12, u13, u14, u15, u16, u17, c18, c19, c20, c21, c22, c23, c24, c25, c26, c27, c28, c29, c30, c31, c32, c33, c34, c35, c36, c37, c38, c39, c40, c41, c42, c43, u44, u45, u46, u47, u48, u49, u50, u51, u52, u53, u54, u55, u56, u57, u58, u59, u60, u61, u62, u63, u64, u65, u66, u67, u68, u69, u70, u71, u72, u73, u74, u75, u76, u77, u78, u79, u80, u81, u82, u83, u84, u85, u86, u87, u88, u89, u90, u91, u92, u93, u94, u95, u96, u97, u98, u99, u100, u101, u102, u103, u104, u105, u106, u107, u108, u109, u110, u111, u112, u113, u114, u115, u116, u117, u118, u119, u120, u121, u122, u123, u124, u125, u126, u127, u128, u129, u130, u131, u132, u133, u134, u135, u136, u137, u138, u139, u140, u141, u142, u143, u144, u145, u146, u147, u148, u149, u150, u151, u152, u153, u154, u155, u156, u157, u158, u159, u160, u161, u162, u163, u164, u165, u166, u167, u168, u169, u170, u171, u172, u173, u174, u175, u176, u177, u178, u179, u180, u181, u182, u183, u184, u185, u186, u187, u188, u189, u190, u191, u192, u193, u194, u195, u196, u197, u198, u199, u200, c201, c202, c203, c204, c205, c206, c207, c208, c209, c210, c211, c212, c213, c214, c215, c216, c217, c218, c219, c220, c221, c222, c223, c224, c225, c226, c227, c228, c229, c230, c231, c232, c233, c234, c235, c236, c237, c238, c239, c240, c241, c242, c243, c244, c245, c246, c247, c248, c249, c250, c251, c252, c253, c254, c255, c256, c257, c258, c259, c260, c261, c262, c263, c264, c265], []⟩
def PlMu (len : Nat) (a : Act) (_ : World) : Nat := len - (intOf (a.tmps.getD 9 undef)).toNat
/-- a scratch row of the round: its bytes may be whatever they are -/
def PlO (w7 w8 w9 : World) (A : Option Addr) (c n : Nat) (wr : World) : Prop := (∃ xs : List Int, xs.length = n ∧ Kd.R (Kd.int .u8) 5 wr w7.heap.size (fun k => w7.heap.size ≤ k ∧ k < w8.heap.size) (.slice A n c) xs) ∧ Off (fun k => w7.heap.size ≤ k ∧ k < w8.heap.size) w9 wr
theorem PlO.store {w7 w8 w9 : World} {G c n : Nat} {wr : World} (h : PlO w7 w8 w9 (some ⟨G, 0, none⟩) c n wr) (hG : w7.heap.size ≤ G ∧ G < w8.heap.size) (j : Nat) (x : Int) : PlO w7 w8 w9 (some ⟨G, 0, none⟩) c n (wr.setCell ⟨G, j, none⟩ (.int .u8 x)) := by
  obtain ⟨⟨xs, hl, hR⟩, ho⟩ := h
  exact ⟨⟨xs.set j x, by rw [List.length_set]; exact hl, R_put hR j x⟩, ho.setCell (p := ⟨G, j, none⟩) (.inl hG) _⟩
end Go.Proofs.Ytahljbbofjbhgaa.Given
