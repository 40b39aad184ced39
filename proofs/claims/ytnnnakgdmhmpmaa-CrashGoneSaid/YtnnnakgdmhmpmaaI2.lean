/- The kinds of keys; the state of a Watch in memory, and how it turns. -/
import Derived.Test.YtnnnakgdmhmpmaaI1
namespace Go.Proofs.Ytnnnakgdmhmpmaa.Given
open Go.RowKit Go.Proofs.YtnnnakgdmhmpmaaW.PrintWords Go.Proofs.YtnnnakgdmhmpmaaW.PrintLast Go.Proofs.YtnnnakgdmhmpmaaW.PrintMore Go.Proofs.YtnnnakgdmhmpmaaBase
open Go.Maps (Keyed)
set_option linter.unusedVariables false
set_option linter.unusedSimpArgs false

theorem laidOut : laidOutB Try.prog = true := by kernel_rfl
theorem law47 : Keyed Try.prog 47 := Keyed.of_law (deep_law_laid laidOut (m := 3) (by omega) (of_decide_eq_true (by kernel_rfl)) (by kernel_rfl) (by rw [Try.underlying47]))
theorem law55 : Keyed Try.prog 55 := Keyed.of_law (deep_law_laid laidOut (m := 3) (by omega) (of_decide_eq_true (by kernel_rfl)) (by kernel_rfl) (by rw [Try.underlying55]))
theorem law3 : Keyed Try.prog 3 := Maps.int_keyed Try.underlying3
theorem law9 : Keyed Try.prog 9 := Maps.string_keyed Try.underlying9
def I64 (n : Int) : Prop := -9223372036854775808 ≤ n ∧ n ≤ 9223372036854775807
theorem I64.wf {n : Int} (h : I64 n) : (Lit.int .i64 n).wf = true := WalkArith.wf_i64 (by have := h.1; have := h.2; omega)
theorem key3 {n : Int} (h : I64 n) : keyOf Try.prog 3 (.int .i64 n) = some (.int .i64 n) := Maps.keyOf_int_mk Try.underlying3 h.wf
theorem key9 {s : ByteArray} (h : s.size ≤ maxLen) : ∃ kl, keyOf Try.prog 9 (.string s) = some kl := by
  refine ⟨.string s.data.toList, ?_⟩
  simp [keyOf, Try.underlying9, mapKey, h]
theorem keyType47 : Try.prog.keyType 47 = true := by kernel_rfl
theorem keyType55 : Try.prog.keyType 55 = true := by kernel_rfl
theorem cells47 : Try.prog.cellsOf 47 = 2 := by kernel_rfl
theorem cells55 : Try.prog.cellsOf 55 = 2 := by kernel_rfl
theorem cells3 : Try.prog.cellsOf 3 = 1 := by kernel_rfl
theorem cells9 : Try.prog.cellsOf 9 = 1 := by kernel_rfl
def keyN (d : Int) (s : ByteArray) : Value := .agg #[.int .i64 d, .string s]
def keyP (i a : Int) : Value := .agg #[.int .i64 i, .int .i64 a]
theorem key47 {d : Int} {s : ByteArray} (h : I64 d) (hs : s.size ≤ maxLen) : ∃ kl, keyOf Try.prog 47 (keyN d s) = some kl := by
  have hw := h.wf
  have h1 : (Value.agg #[.int .i64 d, .string s]).formed Try.prog 47 = true := by simp [Value.formed, Try.underlying47, cells47]
  obtain ⟨m, hm⟩ : ∃ m, Try.prog.types.size = m + 1 := ⟨Try.prog.types.size - 1, by have : 47 < Try.prog.types.size := of_decide_eq_true (by kernel_rfl); omega⟩
  have h2 : ∃ ls, Try.prog.keyLits (Try.prog.types.size + 1) 47 [.int .i64 d, .string s] = some ls := by
    rw [hm]
    simp [Program.keyLits, Try.underlying47, cells47, cells3, cells9, Try.underlying3, Try.underlying9, hw, hs]
  obtain ⟨ls, hls⟩ := h2
  exact ⟨_, keyOf_pair Try.underlying47 keyType47 h1 (by rw [hls]; rfl)⟩
theorem key55 {i a : Int} (h : I64 i) (ha : I64 a) : ∃ kl, keyOf Try.prog 55 (keyP i a) = some kl := by
  have hw := h.wf
  have hw2 := ha.wf
  have h1 : (Value.agg #[.int .i64 i, .int .i64 a]).formed Try.prog 55 = true := by simp [Value.formed, Try.underlying55, cells55]
  obtain ⟨m, hm⟩ : ∃ m, Try.prog.types.size = m + 1 := ⟨Try.prog.types.size - 1, by have : 47 < Try.prog.types.size := of_decide_eq_true (by kernel_rfl); omega⟩
  have h2 : ∃ ls, Try.prog.keyLits (Try.prog.types.size + 1) 55 [.int .i64 i, .int .i64 a] = some ls := by
    rw [hm]
    simp [Program.keyLits, Try.underlying55, cells55, cells3, Try.underlying3, hw, hw2]
  obtain ⟨ls, hls⟩ := h2
  exact ⟨_, keyOf_pair Try.underlying55 keyType55 h1 (by rw [hls]; rfl)⟩

/-- a name: its directory, what it names now, what it named since the last sync -/
structure NS where
  dir : Int
  nm : ByteArray
  now : Int
  ever : List Int
/-- a block of a file: what it ever held -/
structure PS where
  ino : Int
  pos : Int
  ever : List ByteArray
def entN (x : NS × Nat × Nat) : Value × Value := (keyN x.1.dir x.1.nm, .pointer (some ⟨x.2.1, 0, none⟩))
def entP (x : PS × Nat) : Value × Value := (keyP x.1.ino x.1.pos, .map (some x.2))
def onI (i : Int) : Value × Value := (.int .i64 i, .bool true)
def onS (s : ByteArray) : Value × Value := (.string s, .bool true)
def flatN (N : List (NS × Nat × Nat)) : List Nat := N.flatMap fun x => [x.2.1, x.2.2]
def bls (g bn bp : Nat) (N : List (NS × Nat × Nat)) (Q : List (PS × Nat)) : List Nat := [g, bn, bp] ++ (Q.map (·.2) ++ flatN N)
structure AtN (w : World) (x : NS) (xb mb : Nat) : Prop where
  blk : w.heap[xb]? = some (.cells #[.int .i64 x.now, .map (some mb)] 51 (0, 0))
  map : MapAt Try.prog 3 w mb (x.ever.map onI)
  fit : I64 x.now
/-- a Watch at g -/
structure IsW (base : Nat) (w : World) (g bn bp : Nat) (N : List (NS × Nat × Nat)) (Q : List (PS × Nat)) : Prop where
  hg : w.heap[g]? = some (.cells #[.map (some bn), .map (some bp)] 45 (0, 0))
  hn : MapAt Try.prog 47 w bn (N.map entN)
  hp : MapAt Try.prog 55 w bp (Q.map entP)
  hx : ∀ x ∈ N, AtN w x.1 x.2.1 x.2.2
  hq : ∀ x ∈ Q, MapAt Try.prog 9 w x.2 (x.1.ever.map onS)
  nd : (bls g bn bp N Q).Nodup
  lo : ∀ b ∈ bls g bn bp N Q, base ≤ b

theorem AtN.move {w w' : World} {x : NS} {xb mb : Nat} (h : AtN w x xb mb) (h1 : w'.heap[xb]? = w.heap[xb]?) (h2 : w'.heap[mb]? = w.heap[mb]?) : AtN w' x xb mb := ⟨h1.trans h.blk, h.map.move h2, h.fit⟩
theorem mem_flatN {N : List (NS × Nat × Nat)} {x : NS × Nat × Nat} (hx : x ∈ N) : x.2.1 ∈ flatN N ∧ x.2.2 ∈ flatN N := ⟨List.mem_flatMap.2 ⟨x, hx, by simp⟩, List.mem_flatMap.2 ⟨x, hx, by simp⟩⟩
theorem flatN_append (a b : List (NS × Nat × Nat)) : flatN (a ++ b) = flatN a ++ flatN b := by simp [flatN]
theorem flatN_cons (x : NS × Nat × Nat) (b : List (NS × Nat × Nat)) : flatN (x :: b) = x.2.1 :: x.2.2 :: flatN b := by simp [flatN]
section
variable {base : Nat} {w w' : World} {g bn bp : Nat} {N N1 N2 : List (NS × Nat × Nat)} {Q Q1 Q2 : List (PS × Nat)}
theorem IsW.lt (h : IsW base w g bn bp N Q) : ∀ b ∈ bls g bn bp N Q, b < w.heap.size := by
  intro b hb
  simp only [bls, List.mem_append, List.mem_cons, List.not_mem_nil, or_false, List.mem_map] at hb
  rcases hb with (rfl | rfl | rfl) | (⟨x, hx, rfl⟩ | hb)
  · exact blk_lt h.hg
  · exact h.hn.lt
  · exact h.hp.lt
  · exact (h.hq x hx).lt
  · obtain ⟨x, hx, hb⟩ := List.mem_flatMap.1 hb
    simp only [List.mem_cons, List.not_mem_nil, or_false] at hb
    rcases hb with rfl | rfl
    · exact blk_lt (h.hx x hx).blk
    · exact (h.hx x hx).map.lt
theorem IsW.move (h : IsW base w g bn bp N Q) (hm : ∀ b ∈ bls g bn bp N Q, w'.heap[b]? = w.heap[b]?) : IsW base w' g bn bp N Q := by
  have hN : ∀ x ∈ N, x.2.1 ∈ bls g bn bp N Q ∧ x.2.2 ∈ bls g bn bp N Q := fun x hx => ⟨by simp [bls, (mem_flatN hx).1], by simp [bls, (mem_flatN hx).2]⟩
  have hQ : ∀ x ∈ Q, x.2 ∈ bls g bn bp N Q := fun x hx => by simp only [bls, List.mem_append, List.mem_map]; exact .inr (.inl ⟨x, hx, rfl⟩)
  exact ⟨(hm g (by simp [bls])).trans h.hg, h.hn.move (hm bn (by simp [bls])), h.hp.move (hm bp (by simp [bls])), fun x hx => (h.hx x hx).move (hm _ (hN x hx).1) (hm _ (hN x hx).2), fun x hx => (h.hq x hx).move (hm _ (hQ x hx)), h.nd, h.lo⟩
theorem IsW.below (h : IsW base w g bn bp N Q) (hb : Below w.heap.size w w') : IsW base w' g bn bp N Q := h.move (fun b hm => hb.block b (h.lt b hm))
theorem IsW.lower {base' : Nat} (h : IsW base w g bn bp N Q) (hb : base' ≤ base) : IsW base' w g bn bp N Q := ⟨h.hg, h.hn, h.hp, h.hx, h.hq, h.nd, fun b hm => Nat.le_trans hb (h.lo b hm)⟩

theorem nd_two {L1 L2 : List Nat} {a b : Nat} (h : (L1 ++ a :: b :: L2).Nodup) : a ≠ b ∧ ∀ c ∈ L1 ++ L2, c ≠ a ∧ c ≠ b := by
  rw [List.nodup_append] at h
  obtain ⟨h1, h2, h3⟩ := h
  rw [List.nodup_cons, List.nodup_cons] at h2
  obtain ⟨h4, h5, h6⟩ := h2
  refine ⟨fun e => h4 (by simp [e]), fun c hc => ?_⟩
  rw [List.mem_append] at hc
  rcases hc with hc | hc
  · exact ⟨h3 c hc a (by simp), h3 c hc b (by simp)⟩
  · exact ⟨fun e => h4 (by rw [← e]; simp [hc]), fun e => h5 (by rw [← e]; exact hc)⟩
theorem nd_one {L1 L2 : List Nat} {a : Nat} (h : (L1 ++ a :: L2).Nodup) : ∀ c ∈ L1 ++ L2, c ≠ a := by
  rw [List.nodup_append] at h
  obtain ⟨h1, h2, h3⟩ := h
  rw [List.nodup_cons] at h2
  intro c hc
  rw [List.mem_append] at hc
  rcases hc with hc | hc
  · exact h3 c hc a (by simp)
  · exact fun e => h2.1 (by rw [← e]; exact hc)
theorem mem_one {L1 L2 : List Nat} {a c : Nat} (h : c ∈ L1 ++ L2) : c ∈ L1 ++ a :: L2 := by
  rw [List.mem_append] at h ⊢
  exact h.imp id (fun h => by simp [h])
theorem mem_two {L1 L2 : List Nat} {a b c : Nat} (h : c ∈ L1 ++ L2) : c ∈ L1 ++ a :: b :: L2 := mem_one (mem_one h)
theorem bls_mid (x : NS × Nat × Nat) : bls g bn bp (N1 ++ x :: N2) Q = ([g, bn, bp] ++ (Q.map (·.2) ++ flatN N1)) ++ x.2.1 :: x.2.2 :: flatN N2 := by simp [bls, flatN_append, flatN_cons]
theorem blsQ_mid (q : PS × Nat) : bls g bn bp N (Q1 ++ q :: Q2) = ([g, bn, bp] ++ Q1.map (·.2)) ++ q.2 :: (Q2.map (·.2) ++ flatN N) := by simp [bls]

/-- one name has turned (and has perhaps a new map) -/
theorem IsW.updN {x y : NS} {xb mb mb' : Nat} (h : IsW base w g bn bp (N1 ++ (x, xb, mb) :: N2) Q) (hd : y.dir = x.dir) (hs : y.nm = x.nm) (hy : AtN w' y xb mb') (hmb : mb' = mb ∨ w.heap.size ≤ mb') (hb : base ≤ mb')
    (hk : ∀ b, b < w.heap.size → b ≠ xb → b ≠ mb → w'.heap[b]? = w.heap[b]?) : IsW base w' g bn bp (N1 ++ (y, xb, mb') :: N2) Q := by
  have hlt := h.lt
  have hnd := h.nd
  rw [bls_mid] at hnd hlt
  simp only at hnd hlt
  obtain ⟨hne, hoth⟩ := nd_two hnd
  have hmove : ∀ c ∈ ([g, bn, bp] ++ (Q.map (·.2) ++ flatN N1)) ++ flatN N2, w'.heap[c]? = w.heap[c]? := fun c hc => hk c (hlt c (mem_two hc)) (hoth c hc).1 (hoth c hc).2
  have hg := hmove g (by simp)
  have hbn := hmove bn (by simp)
  have hbp := hmove bp (by simp)
  have hent : (N1 ++ (y, xb, mb') :: N2).map entN = (N1 ++ (x, xb, mb) :: N2).map entN := by
    simp only [List.map_append, List.map_cons, entN, hd, hs]
  refine ⟨hg.trans h.hg, by rw [hent]; exact h.hn.move hbn, h.hp.move hbp, ?_, fun q hq => (h.hq q hq).move (hmove _ ?_), ?_, ?_⟩
  · intro z hz
    rw [List.mem_append, List.mem_cons] at hz
    rcases hz with hz | rfl | hz
    · exact (h.hx z (by simp [hz])).move (hmove _ (by simp [(mem_flatN hz).1])) (hmove _ (by simp [(mem_flatN hz).2]))
    · exact hy
    · exact (h.hx z (by simp [hz])).move (hmove _ (by simp [(mem_flatN hz).1])) (hmove _ (by simp [(mem_flatN hz).2]))
  · simp only [List.mem_append, List.mem_map]
    exact .inl (.inr (.inl ⟨q, hq, rfl⟩))
  · rw [bls_mid]
    simp only
    rcases hmb with rfl | hmb
    · exact hnd
    · rw [List.nodup_append] at hnd ⊢
      obtain ⟨h1, h2, h3⟩ := hnd
      rw [List.nodup_cons, List.nodup_cons] at h2 ⊢
      have hfar : ∀ c ∈ ([g, bn, bp] ++ (Q.map (·.2) ++ flatN N1)) ++ xb :: mb :: flatN N2, c ≠ mb' := fun c hc e => by have := hlt c hc; omega
      refine ⟨h1, ⟨?_, ?_, h2.2.2⟩, ?_⟩
      · rw [List.mem_cons]
        rintro (e | e)
        · exact hfar xb (by simp) e
        · exact h2.1 (by simp [e])
      · intro e
        exact hfar mb' (by simp [e]) rfl
      · intro a ha b hb
        rw [List.mem_cons, List.mem_cons] at hb
        rcases hb with rfl | rfl | hb
        · exact h3 a ha _ (by simp)
        · exact hfar a (by rw [List.mem_append]; exact .inl ha)
        · exact h3 a ha b (by simp [hb])
  · intro c hc
    have hlo := h.lo
    rw [bls_mid] at hlo hc
    simp only [List.mem_append, List.mem_cons] at hlo hc
    rcases hc with hc | rfl | rfl | hc
    · exact hlo c (.inl hc)
    · exact hlo c (.inr (.inl rfl))
    · exact hb
    · exact hlo c (.inr (.inr (.inr hc)))

/-- a name is new -/
theorem IsW.newN {y : NS} {xb mb : Nat} (h : IsW base w g bn bp N Q) (hmap : MapAt Try.prog 47 w' bn (N.map entN ++ [entN (y, xb, mb)])) (hy : AtN w' y xb mb) (h1 : w.heap.size ≤ xb) (h2 : w.heap.size ≤ mb) (h3 : xb ≠ mb) (hb : base ≤ w.heap.size)
    (hk : ∀ b, b < w.heap.size → b ≠ bn → w'.heap[b]? = w.heap[b]?) : IsW base w' g bn bp (N ++ [(y, xb, mb)]) Q := by
  have hlt := h.lt
  have hnd := h.nd
  have hnb : ∀ c ∈ [g, bp] ++ (Q.map (·.2) ++ flatN N), c ≠ bn := by
    have : bls g bn bp N Q = [g] ++ bn :: ([bp] ++ (Q.map (·.2) ++ flatN N)) := by simp [bls]
    rw [this] at hnd
    intro c hc
    exact nd_one hnd c (by simpa using hc)
  have hmove : ∀ c ∈ [g, bp] ++ (Q.map (·.2) ++ flatN N), w'.heap[c]? = w.heap[c]? := fun c hc => hk c (hlt c (mem_one (L1 := [g]) (L2 := [bp] ++ (Q.map (·.2) ++ flatN N)) (by simpa only [List.cons_append, List.nil_append, List.append_assoc] using hc))) (hnb c hc)
  refine ⟨(hmove g (by simp)).trans h.hg, by rw [List.map_append]; exact hmap, h.hp.move (hmove bp (by simp)), ?_, fun q hq => (h.hq q hq).move (hmove _ ?_), ?_, ?_⟩
  · intro z hz
    rw [List.mem_append, List.mem_singleton] at hz
    rcases hz with hz | rfl
    · exact (h.hx z hz).move (hmove _ (by simp [(mem_flatN hz).1])) (hmove _ (by simp [(mem_flatN hz).2]))
    · exact hy
  · simp only [List.mem_append, List.mem_map]
    exact .inr (.inl ⟨q, hq, rfl⟩)
  · rw [bls_mid]
    simp only
    rw [List.nodup_append]
    refine ⟨hnd, ?_, ?_⟩
    · simp [flatN, h3]
    · intro a ha b hb2
      have := hlt a ha
      simp [flatN] at hb2
      rcases hb2 with rfl | rfl <;> omega
  · intro c hc
    rw [bls_mid, List.mem_append] at hc
    rcases hc with hc | hc
    · exact h.lo c hc
    · simp [flatN] at hc
      rcases hc with rfl | rfl <;> omega

/-- one block has turned -/
theorem IsW.updQ {x y : PS} {pb : Nat} (h : IsW base w g bn bp N (Q1 ++ (x, pb) :: Q2)) (hd : y.ino = x.ino) (hs : y.pos = x.pos) (hy : MapAt Try.prog 9 w' pb (y.ever.map onS)) (hk : ∀ b, b < w.heap.size → b ≠ pb → w'.heap[b]? = w.heap[b]?) :
    IsW base w' g bn bp N (Q1 ++ (y, pb) :: Q2) := by
  have hlt := h.lt
  have hnd := h.nd
  rw [blsQ_mid] at hnd hlt
  simp only at hnd hlt
  have hoth := nd_one hnd
  have hmove : ∀ c ∈ ([g, bn, bp] ++ Q1.map (·.2)) ++ (Q2.map (·.2) ++ flatN N), w'.heap[c]? = w.heap[c]? := fun c hc => hk c (hlt c (mem_one hc)) (hoth c hc)
  have hent : (Q1 ++ (y, pb) :: Q2).map entP = (Q1 ++ (x, pb) :: Q2).map entP := by simp only [List.map_append, List.map_cons, entP, hd, hs]
  refine ⟨(hmove g (by simp)).trans h.hg, h.hn.move (hmove bn (by simp)), by rw [hent]; exact h.hp.move (hmove bp (by simp)), fun z hz => (h.hx z hz).move (hmove _ (by simp [(mem_flatN hz).1])) (hmove _ (by simp [(mem_flatN hz).2])), ?_, ?_, ?_⟩
  · intro z hz
    rw [List.mem_append, List.mem_cons] at hz
    rcases hz with hz | rfl | hz
    · exact (h.hq z (by simp [hz])).move (hmove _ (by simp only [List.mem_append, List.mem_map]; exact .inl (.inr ⟨z, hz, rfl⟩)))
    · exact hy
    · exact (h.hq z (by simp [hz])).move (hmove _ (by simp only [List.mem_append, List.mem_map]; exact .inr (.inl ⟨z, hz, rfl⟩)))
  · rw [blsQ_mid]
    exact hnd
  · have hlo := h.lo
    rw [blsQ_mid] at hlo ⊢
    exact hlo

/-- a block is new -/
theorem IsW.newQ {y : PS} {pb : Nat} (h : IsW base w g bn bp N Q) (hmap : MapAt Try.prog 55 w' bp (Q.map entP ++ [entP (y, pb)])) (hy : MapAt Try.prog 9 w' pb (y.ever.map onS)) (h1 : w.heap.size ≤ pb) (hb : base ≤ w.heap.size)
    (hk : ∀ b, b < w.heap.size → b ≠ bp → w'.heap[b]? = w.heap[b]?) : IsW base w' g bn bp N (Q ++ [(y, pb)]) := by
  have hlt := h.lt
  have hnd := h.nd
  have hnb : ∀ c ∈ [g, bn] ++ (Q.map (·.2) ++ flatN N), c ≠ bp := by
    have : bls g bn bp N Q = [g, bn] ++ bp :: (Q.map (·.2) ++ flatN N) := by simp [bls]
    rw [this] at hnd
    intro c hc
    exact nd_one hnd c hc
  have hmove : ∀ c ∈ [g, bn] ++ (Q.map (·.2) ++ flatN N), w'.heap[c]? = w.heap[c]? := fun c hc => hk c (hlt c (mem_one (L1 := [g, bn]) (L2 := Q.map (·.2) ++ flatN N) hc)) (hnb c hc)
  refine ⟨(hmove g (by simp)).trans h.hg, h.hn.move (hmove bn (by simp)), by rw [List.map_append]; exact hmap, fun z hz => (h.hx z hz).move (hmove _ (by simp [(mem_flatN hz).1])) (hmove _ (by simp [(mem_flatN hz).2])), ?_, ?_, ?_⟩
  · intro z hz
    rw [List.mem_append, List.mem_singleton] at hz
    rcases hz with hz | rfl
    · exact (h.hq z hz).move (hmove _ (by simp only [List.mem_append, List.mem_map]; exact .inr (.inl ⟨z, hz, rfl⟩)))
    · exact hy
  · have e : bls g bn bp N Q = ([g, bn, bp] ++ Q.map (·.2)) ++ flatN N := by simp [bls]
    rw [blsQ_mid]
    simp only [List.map_nil, List.nil_append]
    rw [e] at hnd hlt
    rw [List.nodup_append] at hnd ⊢
    obtain ⟨g1, g2, g3⟩ := hnd
    refine ⟨g1, List.nodup_cons.2 ⟨fun hm => ?_, g2⟩, fun a ha b hb2 => ?_⟩
    · have := hlt pb (by rw [List.mem_append]; exact .inr hm)
      omega
    · rw [List.mem_cons] at hb2
      rcases hb2 with rfl | hb2
      · have := hlt a (by rw [List.mem_append]; exact .inl ha)
        omega
      · exact g3 a ha b hb2
  · intro c hc
    rw [blsQ_mid] at hc
    simp only [List.mem_append, List.mem_cons, List.map_nil, List.nil_append] at hc
    have hlo := h.lo
    simp only [bls, List.mem_append, List.mem_cons] at hlo
    rcases hc with (hc | hc) | rfl | hc
    · exact hlo c (.inl hc)
    · exact hlo c (.inr (.inl hc))
    · omega
    · exact hlo c (.inr (.inr hc))
end

/-- no cells turn but those of a name -/
def KeepC (w w' : World) : Prop := ∀ (c : Nat) (cs : Array Value) (ty : TypeId) (fz : Nat × Nat), ty ≠ 51 → w.heap[c]? = some (.cells cs ty fz) → w'.heap[c]? = some (.cells cs ty fz)
theorem KeepC.refl (w : World) : KeepC w w := fun _ _ _ _ _ h => h
theorem KeepC.trans {w w1 w2 : World} (h : KeepC w w1) (k : KeepC w1 w2) : KeepC w w2 := fun c cs ty fz hne hc => k c cs ty fz hne (h c cs ty fz hne hc)
theorem KeepC.of_below {w w' : World} (hb : Below w.heap.size w w') : KeepC w w' := fun c cs ty fz _ hc => (hb.block c (blk_lt hc)).trans hc
theorem KeepC.of_map {P : Program} {k : TypeId} {w w' : World} {b : Nat} {l : List (Value × Value)} (hM : MapAt P k w b l) (hg : w.grownBy w' (some b)) : KeepC w w' := fun c cs ty fz _ hc => (hg.block c (blk_lt hc) (fun e => hM.ne_cells hc (Option.some.inj e))).trans hc
theorem KeepC.set {w : World} {xb : Nat} {cs0 : Array Value} (h : w.heap[xb]? = some (.cells cs0 51 (0, 0))) (i : Nat) (u : Value) : KeepC w (w.setCell ⟨xb, i, none⟩ u) := fun c cs ty fz hne hc => by
  refine (Below.heap_setCell w ⟨xb, i, none⟩ u c (fun e => ?_)).trans hc
  have e' : c = xb := e
  rw [e', h] at hc
  cases hc
  exact hne rfl

/-! ### without the blocks -/
/-- a Watch at g: its names and its blocks -/
def WS (base : Nat) (w : World) (g : Nat) (N : List NS) (Q : List PS) : Prop := ∃ bn bp N' Q', IsW base w g bn bp N' Q' ∧ N'.map (·.1) = N ∧ Q'.map (·.1) = Q
theorem WS.below {base g : Nat} {w w' : World} {N : List NS} {Q : List PS} (h : WS base w g N Q) (hb : Below w.heap.size w w') : WS base w' g N Q := by
  obtain ⟨bn, bp, N', Q', hI, h1, h2⟩ := h
  exact ⟨bn, bp, N', Q', hI.below hb, h1, h2⟩
def addI (l : List Int) (i : Int) : List Int := if i ∈ l then l else l ++ [i]
open Classical in
noncomputable def addS (l : List ByteArray) (s : ByteArray) : List ByteArray := if s ∈ l then l else l ++ [s]
/-- a name names an inode from now on -/
def entS (N : List NS) (d : Int) (s : ByteArray) (i : Int) : List NS :=
  match N with
  | [] => [⟨d, s, i, addI [0] i⟩]
  | x :: N => if x.dir = d ∧ x.nm = s then { x with now := i, ever := addI x.ever i } :: N else x :: entS N d s i
open Classical in
/-- a block has these bytes from now on -/
noncomputable def partS (Q : List PS) (i a : Int) (b : ByteArray) : List PS :=
  match Q with
  | [] => [⟨i, a, addS [blk []] b⟩]
  | x :: Q => if x.ino = i ∧ x.pos = a then { x with ever := addS x.ever b } :: Q else x :: partS Q i a b
/-- all lies on the disk -/
def syncS (N : List NS) : List NS := N.map fun x => { x with ever := [x.now] }
theorem entS_hit {N1 N2 : List NS} {x : NS} {i : Int} (h : ∀ y ∈ N1, ¬ (y.dir = x.dir ∧ y.nm = x.nm)) : entS (N1 ++ x :: N2) x.dir x.nm i = N1 ++ { x with now := i, ever := addI x.ever i } :: N2 := by
  induction N1 with
  | nil => simp [entS]
  | cons y N1 ih =>
    rw [List.cons_append, entS, if_neg (h y (by simp)), ih (fun z hz => h z (by simp [hz]))]
    rfl
theorem entS_miss {N : List NS} {d : Int} {s : ByteArray} {i : Int} (h : ∀ y ∈ N, ¬ (y.dir = d ∧ y.nm = s)) : entS N d s i = N ++ [⟨d, s, i, addI [0] i⟩] := by
  induction N with
  | nil => rfl
  | cons y N1 ih =>
    rw [entS, if_neg (h y (by simp)), ih (fun z hz => h z (by simp [hz]))]
    rfl
theorem partS_hit {N1 N2 : List PS} {x : PS} {b : ByteArray} (h : ∀ y ∈ N1, ¬ (y.ino = x.ino ∧ y.pos = x.pos)) : partS (N1 ++ x :: N2) x.ino x.pos b = N1 ++ { x with ever := addS x.ever b } :: N2 := by
  induction N1 with
  | nil => simp [partS]
  | cons y N1 ih =>
    rw [List.cons_append, partS, if_neg (h y (by simp)), ih (fun z hz => h z (by simp [hz]))]
    rfl
theorem partS_miss {N : List PS} {i a : Int} {b : ByteArray} (h : ∀ y ∈ N, ¬ (y.ino = i ∧ y.pos = a)) : partS N i a b = N ++ [⟨i, a, addS [blk []] b⟩] := by
  induction N with
  | nil => rfl
  | cons y N1 ih =>
    rw [partS, if_neg (h y (by simp)), ih (fun z hz => h z (by simp [hz]))]
    rfl
theorem keyN_inj {d d' : Int} {s s' : ByteArray} (h : keyN d s = keyN d' s') : d = d' ∧ s = s' := by
  simp only [keyN, Value.agg.injEq, Array.mk.injEq, List.cons.injEq, Value.int.injEq, true_and, Value.string.injEq, and_true] at h
  exact h
theorem keyP_inj {d d' : Int} {s s' : Int} (h : keyP d s = keyP d' s') : d = d' ∧ s = s' := by
  simp only [keyP, Value.agg.injEq, Array.mk.injEq, List.cons.injEq, Value.int.injEq, true_and, and_true] at h
  exact h
/-- a name is there, or is not -/
theorem find_N (N : List (NS × Nat × Nat)) (d : Int) (s : ByteArray) : (∃ N1 x N2, N = N1 ++ x :: N2 ∧ x.1.dir = d ∧ x.1.nm = s ∧ ∀ y ∈ N1, ¬ (y.1.dir = d ∧ y.1.nm = s)) ∨ ∀ y ∈ N, ¬ (y.1.dir = d ∧ y.1.nm = s) := by
  induction N with
  | nil => exact .inr (by simp)
  | cons x N ih =>
    by_cases hx : x.1.dir = d ∧ x.1.nm = s
    · exact .inl ⟨[], x, N, rfl, hx.1, hx.2, by simp⟩
    · rcases ih with ⟨N1, y, N2, rfl, h1, h2, h3⟩ | h
      · refine .inl ⟨x :: N1, y, N2, rfl, h1, h2, fun z hz => ?_⟩
        rcases List.mem_cons.1 hz with rfl | hz
        · exact hx
        · exact h3 z hz
      · refine .inr (fun z hz => ?_)
        rcases List.mem_cons.1 hz with rfl | hz
        · exact hx
        · exact h z hz
theorem find_Q (N : List (PS × Nat)) (d s : Int) : (∃ N1 x N2, N = N1 ++ x :: N2 ∧ x.1.ino = d ∧ x.1.pos = s ∧ ∀ y ∈ N1, ¬ (y.1.ino = d ∧ y.1.pos = s)) ∨ ∀ y ∈ N, ¬ (y.1.ino = d ∧ y.1.pos = s) := by
  induction N with
  | nil => exact .inr (by simp)
  | cons x N ih =>
    by_cases hx : x.1.ino = d ∧ x.1.pos = s
    · exact .inl ⟨[], x, N, rfl, hx.1, hx.2, by simp⟩
    · rcases ih with ⟨N1, y, N2, rfl, h1, h2, h3⟩ | h
      · refine .inl ⟨x :: N1, y, N2, rfl, h1, h2, fun z hz => ?_⟩
        rcases List.mem_cons.1 hz with rfl | hz
        · exact hx
        · exact h3 z hz
      · refine .inr (fun z hz => ?_)
        rcases List.mem_cons.1 hz with rfl | hz
        · exact hx
        · exact h z hz
/-- a store of 'true' in a set of numbers: it is there then -/
theorem putI {w : World} {b : Nat} {l : List Int} (h : MapAt Try.prog 3 w b (l.map onI)) {i : Int} (hi : I64 i) :
    ∃ w', (Instr.mapUpdate 49 (.map (some b)) (.int .i64 i) (.bool true)).run Try.prog w = .ok () w' ∧ MapAt Try.prog 3 w' b ((addI l i).map onI) ∧ w.grownBy w' (some b) ∧ w'.heap.size = w.heap.size := by
  unfold addI
  split
  · rename_i hm
    obtain ⟨l1, l2, rfl⟩ := List.append_of_mem hm
    rw [List.map_append, List.map_cons] at h
    obtain ⟨w', h1, h2, h3⟩ := MapAt.put_hit h law3 Try.underlying49 (.bool true) (key3 hi)
    exact ⟨w', h1, by rw [List.map_append, List.map_cons]; exact h2, h3⟩
  · rename_i hm
    obtain ⟨w', h1, h2, h3⟩ := MapAt.put_miss h law3 Try.underlying49 (key := .int .i64 i) (.bool true) (key3 hi) (fun p hp e => by
      obtain ⟨j, hj, rfl⟩ := List.mem_map.1 hp
      simp only [onI, Value.int.injEq, true_and] at e
      exact hm (e ▸ hj))
    exact ⟨w', h1, by rw [List.map_append]; exact h2, h3⟩
theorem putS {w : World} {b : Nat} {l : List ByteArray} (h : MapAt Try.prog 9 w b (l.map onS)) {s : ByteArray} (hs : s.size ≤ maxLen) :
    ∃ w', (Instr.mapUpdate 56 (.map (some b)) (.string s) (.bool true)).run Try.prog w = .ok () w' ∧ MapAt Try.prog 9 w' b ((addS l s).map onS) ∧ w.grownBy w' (some b) ∧ w'.heap.size = w.heap.size := by
  obtain ⟨kl, hkl⟩ := key9 hs
  unfold addS
  split
  · rename_i hm
    obtain ⟨l1, l2, rfl⟩ := List.append_of_mem hm
    rw [List.map_append, List.map_cons] at h
    obtain ⟨w', h1, h2, h3⟩ := MapAt.put_hit h law9 Try.underlying56 (.bool true) hkl
    exact ⟨w', h1, by rw [List.map_append, List.map_cons]; exact h2, h3⟩
  · rename_i hm
    obtain ⟨w', h1, h2, h3⟩ := MapAt.put_miss h law9 Try.underlying56 (key := .string s) (.bool true) hkl (fun p hp e => by
      obtain ⟨j, hj, rfl⟩ := List.mem_map.1 hp
      simp only [onS, Value.string.injEq] at e
      exact hm (e ▸ hj))
    exact ⟨w', h1, by rw [List.map_append]; exact h2, h3⟩
end Go.Proofs.Ytnnnakgdmhmpmaa.Given
