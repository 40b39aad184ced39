/- A map's block as the list of its entries (keys and elements as values): lookup, store, delete, len, range; at the operations, too. -/
import Derived.Maps.RangeWalk
import Derived.Maps.OwnSet
import Derived.DeepKeys4
import Derived.Test.YthcafgjcgikgpaaWWords
namespace Go.Proofs.YthcafgjcgikgpaaBase
open Go.RowKit Go.MapKept Go.Proofs.YthcafgjcgikgpaaW.PrintWords
open Go.Maps (Keyed)
open Go.ChangeMaps (setBlock)
set_option linter.unusedVariables false
set_option linter.unusedSimpArgs false

def kv (e : MapEntry) : Value × Value := (e.key, e.val)
structure MapE (P : Program) (k : TypeId) (es : Array MapEntry) (clock : Nat) (l : List (Value × Value)) : Prop where
  st : Stamped es clock
  keys : ∀ e ∈ es.toList, ∃ kl, keyOf P k e.key = some kl
  eq : es.toList.map kv = l
/-- block b is a map with just these entries, in the order in which they were laid -/
def MapAt (P : Program) (k : TypeId) (w : World) (b : Nat) (l : List (Value × Value)) : Prop := ∃ es clock, w.heap[b]? = some (.map es clock) ∧ MapE P k es clock l

section
variable {P : Program} {k e t : TypeId} {w w1 : World} {b r : Nat} {l left : List (Value × Value)}

theorem MapAt.lt (h : MapAt P k w b l) : b < w.heap.size := by
  obtain ⟨es, clock, hb, _⟩ := h
  exact (Array.getElem?_eq_some_iff.1 hb).1
theorem MapAt.move (h : MapAt P k w b l) (hm : w1.heap[b]? = w.heap[b]?) : MapAt P k w1 b l := by
  obtain ⟨es, clock, hb, hE⟩ := h
  exact ⟨es, clock, hm.trans hb, hE⟩
theorem MapAt.kept (h : MapAt P k w b l) {row : Option Nat} (hg : w.grownBy w1 row) (hne : some b ≠ row) : MapAt P k w1 b l := h.move (hg.block b h.lt hne)
theorem MapAt.drew (h : MapAt P k w b l) : MapAt P k w.drew b l := h
theorem MapAt.alloc (h : MapAt P k w b l) (o : Obj) : MapAt P k (w.alloc o) b l := h.kept (World.grownBy_alloc w o none) (by simp)
theorem MapAt.new (w : World) : MapAt P k (w.alloc (.map #[] 0)) w.heap.size [] := ⟨#[], 0, (heap_alloc w (.map #[] 0)).1, stamped_empty 0, by simp, rfl⟩
theorem MapAt.nodup (h : MapAt P k w b l) : (l.map (·.1)).Nodup := by
  obtain ⟨es, clock, hb, hst, hk, rfl⟩ := h
  rw [List.map_map]
  exact hst.2.2
theorem MapAt.ne_cells (h : MapAt P k w b l) {g : Nat} {cs : Array Value} {ty : TypeId} {fz : Nat × Nat} (hg : w.heap[g]? = some (.cells cs ty fz)) : g ≠ b := by
  obtain ⟨es, clock, hb, _⟩ := h
  rintro rfl
  rw [hb] at hg
  cases hg
theorem MapAt.keyed (h : MapAt P k w b l) {p : Value × Value} (hp : p ∈ l) : ∃ kl, keyOf P k p.1 = some kl := by
  obtain ⟨es, clock, hb, hst, hk, rfl⟩ := h
  obtain ⟨x, hx, rfl⟩ := List.mem_map.1 hp
  exact hk x hx

theorem kv_key {es : Array MapEntry} {clock : Nat} (hst : Stamped es clock) {e0 : MapEntry} (he : e0 ∈ es.toList) {v : Value} (hm : (e0.key, v) ∈ es.toList.map kv) : e0.val = v := by
  obtain ⟨x, hx, hx2⟩ := List.mem_map.1 hm
  injection hx2 with h1 h2
  have := entry_eq_of_key ((stamped_iff es clock).1 hst).2.2 hx he h1
  rw [← this, h2]

theorem MapAt.look_hit (h : MapAt P k w b l) (K : Keyed P k) (ht : P.underlying t = some (.map k e)) {key v : Value} {kl : Lit} (hkey : keyOf P k key = some kl) (hm : (key, v) ∈ l) (c : Bool) :
    (Instr.lookup t (.map (some b)) key c).run P w = .ok (if c then .tuple #[v, .bool true] else v) w := by
  obtain ⟨es, clock, hb, hst, hk, rfl⟩ := h
  rcases K.find w hkey es.toList hk with ⟨h1, h2⟩ | ⟨j, e0, h1, h2, h3⟩
  · obtain ⟨x, hx, hx2⟩ := List.mem_map.1 hm
    injection hx2 with h4 h5
    exact absurd h4 (h2 x hx)
  · have hv : e0.val = v := kv_key hst (List.mem_of_getElem? h2) (by rw [h3]; exact hm)
    simp [Instr.lookup, run_underlying ht, MapKept.run_getObj_map hb, K.check w _ hkey, h1, Result.andThen, hv]

theorem MapAt.look_miss (h : MapAt P k w b l) (K : Keyed P k) (ht : P.underlying t = some (.map k e)) {z : Value} (hz : (zeroValue e).run P w = .ok z w) {key : Value} {kl : Lit} (hkey : keyOf P k key = some kl) (hm : ∀ p ∈ l, p.1 ≠ key) (c : Bool) :
    (Instr.lookup t (.map (some b)) key c).run P w = .ok (if c then .tuple #[z, .bool false] else z) w := by
  obtain ⟨es, clock, hb, hst, hk, rfl⟩ := h
  rcases K.find w hkey es.toList hk with ⟨h1, h2⟩ | ⟨j, e0, h1, h2, h3⟩
  · simp [Instr.lookup, run_underlying ht, MapKept.run_getObj_map hb, K.check w _ hkey, h1, hz, Result.andThen]
  · exact absurd h3 (hm (kv e0) (List.mem_map.2 ⟨e0, List.mem_of_getElem? h2, rfl⟩))

theorem grownBy_setBlock (hb : b < w.heap.size) (o : Obj) : w.grownBy (setBlock w b o) (some b) := ⟨rfl, rfl, rfl, by simp [setBlock], fun i hi hne => by
  show (w.heap.setIfInBounds b o)[i]? = _
  rw [Array.getElem?_setIfInBounds_ne (fun e1 => hne (by rw [e1]))]⟩
theorem setBlock_at (hb : b < w.heap.size) (o : Obj) : (setBlock w b o).heap[b]? = some o := by
  show (w.heap.setIfInBounds b o)[b]? = _
  rw [Array.getElem?_setIfInBounds_self_of_lt hb]

theorem MapAt.put_hit {l1 l2 : List (Value × Value)} {key v0 : Value} (h : MapAt P k w b (l1 ++ (key, v0) :: l2)) (K : Keyed P k) (ht : P.underlying t = some (.map k e)) (v : Value) {kl : Lit} (hkey : keyOf P k key = some kl) :
    ∃ w', (Instr.mapUpdate t (.map (some b)) key v).run P w = .ok () w' ∧ MapAt P k w' b (l1 ++ (key, v) :: l2) ∧ w.grownBy w' (some b) ∧ w'.heap.size = w.heap.size := by
  have hlt := h.lt
  obtain ⟨es, clock, hb, hst, hk, heq⟩ := h
  rcases K.find w hkey es.toList hk with ⟨h1, h2⟩ | ⟨j, e0, h1, h2, h3⟩
  · have hm : (key, v0) ∈ es.toList.map kv := by rw [heq]; simp
    obtain ⟨x, hx, hx2⟩ := List.mem_map.1 hm
    injection hx2 with h4 h5
    exact absurd h4 (h2 x hx)
  · have hj : es[j]? = some e0 := by simpa using h2
    have hkeyf : ∀ e', es[j]? = some e' → ({ e' with key := key, val := v } : MapEntry).key = e'.key := fun e' he' => by rw [hj] at he'; cases he'; exact h3.symm
    have hlist : (es.modify j (fun e' => { e' with key := key, val := v })).toList = es.toList.set j { e0 with key := key, val := v } := by rw [Array.toList_modify, ChangeMaps.modify_eq_set _ _ _ _ h2]
    have hjl : j = l1.length := by
      have h4 : (es.toList.map kv)[j]? = some (key, e0.val) := by rw [List.getElem?_map, h2]; simp [kv, h3]
      have hnd : (es.toList.map (·.key)).Nodup := hst.2.2
      have h5 : (es.toList.map (·.key))[j]? = some key := by rw [List.getElem?_map, h2]; simp [h3]
      have h6 : (es.toList.map (·.key))[l1.length]? = some key := by
        have : es.toList.map (·.key) = (es.toList.map kv).map (·.1) := by rw [List.map_map]; rfl
        rw [this, heq]
        simp
      have hl5 := (List.getElem?_eq_some_iff.1 h5)
      have hl6 := (List.getElem?_eq_some_iff.1 h6)
      obtain ⟨a5, b5⟩ := hl5
      obtain ⟨a6, b6⟩ := hl6
      exact (List.getElem_inj hnd).1 (b5.trans b6.symm)
    refine ⟨setBlock w b (.map (es.modify j (fun e' => { e' with key := key, val := v })) clock), ?_, ⟨_, _, setBlock_at hlt _, stamped_modify hst _ _ (fun _ _ => rfl) (fun e' _ he' => hkeyf e' he'), ?_, ?_⟩, grownBy_setBlock hlt _, by simp [setBlock]⟩
    · simp [Instr.mapUpdate, run_underlying ht, MapKept.run_getObj_map hb, K.check w false hkey, h1, hj, h3, K.stays w hkey, MapKept.run_setObj_map _ hb, Result.andThen, setBlock]
    · intro x hx
      rw [hlist] at hx
      rcases List.mem_or_eq_of_mem_set hx with hx | rfl
      · exact hk x hx
      · exact ⟨_, hkey⟩
    · rw [hlist, List.map_set, heq, hjl]
      simp [kv]

theorem MapAt.put_miss (h : MapAt P k w b l) (K : Keyed P k) (ht : P.underlying t = some (.map k e)) {key : Value} (v : Value) {kl : Lit} (hkey : keyOf P k key = some kl) (hm : ∀ p ∈ l, p.1 ≠ key) :
    ∃ w', (Instr.mapUpdate t (.map (some b)) key v).run P w = .ok () w' ∧ MapAt P k w' b (l ++ [(key, v)]) ∧ w.grownBy w' (some b) ∧ w'.heap.size = w.heap.size := by
  have hlt := h.lt
  obtain ⟨es, clock, hb, hst, hk, rfl⟩ := h
  rcases K.find w hkey es.toList hk with ⟨h1, h2⟩ | ⟨j, e0, h1, h2, h3⟩
  · refine ⟨setBlock w b (.map (es.push ⟨key, v, clock⟩) (clock + 1)), ?_, ⟨_, _, setBlock_at hlt _, stamped_push hst h2, ?_, ?_⟩, grownBy_setBlock hlt _, by simp [setBlock]⟩
    · simp [Instr.mapUpdate, run_underlying ht, MapKept.run_getObj_map hb, K.check w false hkey, h1, MapKept.run_setObj_map _ hb, Result.andThen, setBlock]
    · intro x hx
      simp only [Array.toList_push, List.mem_append, List.mem_singleton] at hx
      rcases hx with hx | rfl
      · exact hk x hx
      · exact ⟨_, hkey⟩
    · simp [kv]
  · exact absurd h3 (hm (kv e0) (List.mem_map.2 ⟨e0, List.mem_of_getElem? h2, rfl⟩))

theorem MapAt.drop_hit {l1 l2 : List (Value × Value)} {key v0 : Value} (h : MapAt P k w b (l1 ++ (key, v0) :: l2)) (K : Keyed P k) (ht : P.underlying t = some (.map k e)) (ty : TypeId) {kl : Lit} (hkey : keyOf P k key = some kl) :
    ∃ w', (Builtin.delete_ #[t, k] ty #[.map (some b), key]).run P w = .ok (.tuple #[]) w' ∧ MapAt P k w' b (l1 ++ l2) ∧ w.grownBy w' (some b) ∧ w'.heap.size = w.heap.size := by
  have hlt := h.lt
  obtain ⟨es, clock, hb, hst, hk, heq⟩ := h
  rcases K.find w hkey es.toList hk with ⟨h1, h2⟩ | ⟨j, e0, h1, h2, h3⟩
  · have hm : (key, v0) ∈ es.toList.map kv := by rw [heq]; simp
    obtain ⟨x, hx, hx2⟩ := List.mem_map.1 hm
    injection hx2 with h4 h5
    exact absurd h4 (h2 x hx)
  · have hjs : j < es.size := by simpa using (List.getElem?_eq_some_iff.1 h2).1
    have hsub : (es.eraseIdxIfInBounds j).toList = es.toList.eraseIdx j := by
      unfold Array.eraseIdxIfInBounds
      rw [dif_pos hjs]
      simp
    have hjl : j = l1.length := by
      have hnd : (es.toList.map (·.key)).Nodup := hst.2.2
      have h5 : (es.toList.map (·.key))[j]? = some key := by rw [List.getElem?_map, h2]; simp [h3]
      have h6 : (es.toList.map (·.key))[l1.length]? = some key := by
        have : es.toList.map (·.key) = (es.toList.map kv).map (·.1) := by rw [List.map_map]; rfl
        rw [this, heq]
        simp
      obtain ⟨a5, b5⟩ := List.getElem?_eq_some_iff.1 h5
      obtain ⟨a6, b6⟩ := List.getElem?_eq_some_iff.1 h6
      exact (List.getElem_inj hnd).1 (b5.trans b6.symm)
    refine ⟨setBlock w b (.map (es.eraseIdxIfInBounds j) clock), ?_, ⟨_, _, setBlock_at hlt _, stamped_erase hst j, ?_, ?_⟩, grownBy_setBlock hlt _, by simp [setBlock]⟩
    · simp [Builtin.delete_, run_underlying ht, MapKept.run_getObj_map hb, K.check w _ hkey, h1, MapKept.run_setObj_map _ hb, Result.andThen, setBlock]
    · intro x hx
      rw [hsub] at hx
      exact hk x ((List.eraseIdx_sublist _ _).subset hx)
    · rw [hsub, ChangeMaps.map_eraseIdx, heq, hjl, List.eraseIdx_append_of_length_le (Nat.le_refl _), Nat.sub_self]
      rfl

theorem MapAt.drop_miss (h : MapAt P k w b l) (K : Keyed P k) (ht : P.underlying t = some (.map k e)) (ty : TypeId) {key : Value} {kl : Lit} (hkey : keyOf P k key = some kl) (hm : ∀ p ∈ l, p.1 ≠ key) :
    ∃ w', (Builtin.delete_ #[t, k] ty #[.map (some b), key]).run P w = .ok (.tuple #[]) w' ∧ MapAt P k w' b l ∧ w.grownBy w' (some b) ∧ w'.heap.size = w.heap.size := by
  have hlt := h.lt
  obtain ⟨es, clock, hb, hst, hk, rfl⟩ := h
  rcases K.find w hkey es.toList hk with ⟨h1, h2⟩ | ⟨j, e0, h1, h2, h3⟩
  · refine ⟨setBlock w b (.map es clock), ?_, ⟨_, _, setBlock_at hlt _, hst, hk, rfl⟩, grownBy_setBlock hlt _, by simp [setBlock]⟩
    simp [Builtin.delete_, run_underlying ht, MapKept.run_getObj_map hb, K.check w _ hkey, h1, MapKept.run_setObj_map _ hb, Result.andThen, setBlock]
  · exact absurd h3 (hm (kv e0) (List.mem_map.2 ⟨e0, List.mem_of_getElem? h2, rfl⟩))

theorem MapAt.len (h : MapAt P k w b l) (ht : P.underlying t = some (.map k e)) (ty : TypeId) : (Builtin.len_ #[t] ty #[.map (some b)]).run P w = .ok (.int .i64 l.length) w := by
  obtain ⟨es, clock, hb, hst, hk, rfl⟩ := h
  simp [Builtin.len_, Builtin.lenOf, run_underlying ht, MapKept.run_getObj_map hb, Result.andThen, goInt]

/-- a range loop over the map at b is under way, its iterator at r; left: what is still to come -/
def Rng (P : Program) (k : TypeId) (w : World) (b r : Nat) (l left : List (Value × Value)) : Prop :=
  ∃ es clock since seen c0, w.heap[b]? = some (.map es clock) ∧ MapE P k es clock l ∧ w.heap[r]? = some (.mapIter (some b) since seen c0) ∧ (∀ x ∈ es.toList, x.born < since) ∧ since ≤ c0 ∧ since ≤ clock ∧ (leftOf es seen).toList.map kv = left

theorem Rng.map (h : Rng P k w b r l left) : MapAt P k w b l := by
  obtain ⟨es, clock, since, seen, c0, hb, hE, _⟩ := h
  exact ⟨es, clock, hb, hE⟩
theorem Rng.lt (h : Rng P k w b r l left) : r < w.heap.size := by
  obtain ⟨es, clock, since, seen, c0, _, _, hr, _⟩ := h
  exact (Array.getElem?_eq_some_iff.1 hr).1
theorem Rng.move (h : Rng P k w b r l left) (hb' : w1.heap[b]? = w.heap[b]?) (hr' : w1.heap[r]? = w.heap[r]?) : Rng P k w1 b r l left := by
  obtain ⟨es, clock, since, seen, c0, hb, hE, hr, rest⟩ := h
  exact ⟨es, clock, since, seen, c0, hb'.trans hb, hE, hr'.trans hr, rest⟩
theorem Rng.kept (h : Rng P k w b r l left) {row : Option Nat} (hg : w.grownBy w1 row) (hb : some b ≠ row) (hr : some r ≠ row) : Rng P k w1 b r l left := h.move (hg.block b h.map.lt hb) (hg.block r h.lt hr)
theorem Rng.left_eq (h : Rng P k w b r l left) : w.rangeLeft b r = left.length := by
  obtain ⟨es, clock, since, seen, c0, hb, hE, hr, _, _, _, rfl⟩ := h
  simp [World.rangeLeft, hb, hr]

theorem MapAt.range (h : MapAt P k w b l) (ht : P.underlying t = some (.map k e)) :
    ∃ w', (Instr.range t (.map (some b))).run P w = .ok (.pointer (some ⟨w.heap.size, 0, none⟩)) w' ∧ Rng P k w' b w.heap.size l l ∧ w.grownBy w' none ∧ w'.heap.size = w.heap.size + 1 := by
  have hlt := h.lt
  obtain ⟨es, clock, hb, hst, hk, rfl⟩ := h
  refine ⟨_, run_range_map w t k e b es clock ht hb, ⟨es, clock, clock, #[], clock, ((MapKept.heap_alloc w _).2 b hlt).trans hb, ⟨hst, hk, rfl⟩, (MapKept.heap_alloc w _).1, hst.1, Nat.le_refl _, Nat.le_refl _, ?_⟩, World.grownBy_alloc w _ none, by simp⟩
  have : leftOf es #[] = es := Array.filter_eq_self.2 (by simp)
  rw [this]

theorem filter_push {es : List MapEntry} (hn : (es.map (·.born)).Nodup) (seen : Array Nat) (e0 : MapEntry) (he : e0 ∈ es.filter (fun x => !seen.contains x.born)) :
    ∃ a c, es.filter (fun x => !seen.contains x.born) = a ++ e0 :: c ∧ es.filter (fun x => !(seen.push e0.born).contains x.born) = a ++ c := by
  obtain ⟨a, c, hac⟩ := List.append_of_mem he
  refine ⟨a, c, hac, ?_⟩
  have h1 : es.filter (fun x => !(seen.push e0.born).contains x.born) = (es.filter (fun x => !seen.contains x.born)).filter (fun x => !(x.born == e0.born)) := by
    rw [List.filter_filter]
    congr 1
    funext x
    rw [contains_push]
    cases seen.contains x.born <;> cases (x.born == e0.born) <;> rfl
  rw [h1, hac, List.filter_append, List.filter_cons]
  have h2 : ((a ++ e0 :: c).map (·.born)).Nodup := by rw [← hac]; exact List.Sublist.nodup (List.Sublist.map _ List.filter_sublist) hn
  rw [List.map_append, List.map_cons, List.nodup_append] at h2
  obtain ⟨h3, h4, h5⟩ := h2
  rw [List.nodup_cons] at h4
  have ha : a.filter (fun x => !(x.born == e0.born)) = a := List.filter_eq_self.2 (fun x hx => by
    have := h5 x.born (List.mem_map.2 ⟨x, hx, rfl⟩) e0.born (by simp)
    simpa using this)
  have hc : c.filter (fun x => !(x.born == e0.born)) = c := List.filter_eq_self.2 (fun x hx => by
    have : x.born ≠ e0.born := fun e1 => h4.1 (e1 ▸ List.mem_map.2 ⟨x, hx, rfl⟩)
    simpa using this)
  rw [ha, hc]
  simp

theorem Rng.next (h : Rng P k w b r l left) (ty : TypeId) :
    (left = [] ∧ (Instr.next (.pointer (some ⟨r, 0, none⟩)) false ty).run P w = .ok (.tuple #[.bool false]) w) ∨
    ∃ key v l1 l2 w', left = l1 ++ (key, v) :: l2 ∧ (key, v) ∈ l ∧ (Instr.next (.pointer (some ⟨r, 0, none⟩)) false ty).run P w = .ok (.tuple #[.bool true, key, v]) w' ∧ Rng P k w' b r l (l1 ++ l2) ∧
      w.grownBy w' (some r) ∧ w'.heap.size = w.heap.size ∧ (Instr.entry (.pointer (some ⟨r, 0, none⟩))).run P w' = .ok (.tuple #[key, v]) w' := by
  obtain ⟨es, clock, since, seen, c0, hb, ⟨hst, hk, rfl⟩, hr, hold, hsc, hsk, rfl⟩ := h
  have hne : r ≠ b := fun e1 => by rw [e1, hb] at hr; cases hr
  rcases run_next_at (P := P) w ty r b since c0 seen es clock hr hb hold hsc with ⟨h0, hrun⟩ | ⟨e0, he, w1, hal, hrun⟩
  · refine Or.inl ⟨?_, hrun⟩
    have : leftOf es seen = #[] := Array.eq_empty_of_size_eq_zero h0
    rw [this]
    rfl
  · obtain ⟨hem, hes⟩ := mem_left he
    have hr1 : w1.heap[r]? = some (.mapIter (some b) since seen c0) := by rcases hal with rfl | rfl <;> exact hr
    have hb1 : w1.heap[b]? = some (.map es clock) := by rcases hal with rfl | rfl <;> exact hb
    have hlt1 : r < w1.heap.size := (Array.getElem?_eq_some_iff.1 hr1).1
    have hat := setBlock_at hlt1 (.mapIter (some b) since (seen.push e0.born) clock)
    have hgr := grownBy_setBlock hlt1 (.mapIter (some b) since (seen.push e0.born) clock)
    have hb' : (setBlock w1 r (.mapIter (some b) since (seen.push e0.born) clock)).heap[b]? = some (.map es clock) := (hgr.block b (Array.getElem?_eq_some_iff.1 hb1).1 (fun e1 => hne (Option.some.inj e1).symm)).trans hb1
    have hleft : (leftOf es seen).toList = es.toList.filter (fun x => !seen.contains x.born) := by simp [leftOf]
    have hleft' : (leftOf es (seen.push e0.born)).toList = es.toList.filter (fun x => !(seen.push e0.born).contains x.born) := by simp [leftOf]
    obtain ⟨a, c, hac, hac'⟩ := filter_push hst.2.1 seen e0 (by rw [← hleft]; exact he)
    refine Or.inr ⟨e0.key, e0.val, a.map kv, c.map kv, _, ?_, List.mem_map.2 ⟨e0, hem, rfl⟩, hrun, ⟨es, clock, since, seen.push e0.born, clock, hb', ⟨hst, hk, rfl⟩, hat, hold, hsk, hsk, ?_⟩, ?_, ?_, run_entry_at _ r b since seen es clock e0 hat hb' hem hst.2.1⟩
    · rw [hleft, hac, List.map_append, List.map_cons]
      rfl
    · rw [hleft', hac', List.map_append]
    · rcases hal with rfl | rfl <;> exact ⟨hgr.os, hgr.tape, hgr.output, hgr.size, hgr.block⟩
    · rcases hal with rfl | rfl <;> simp [setBlock]
end

/-! ### at the operation -/
section
variable {P : Program} (w : World) {ops : Array Oper} {rest : List Oper} {o : Oper} {a : Act} {Q : Exit → Act → World → Prop} {k e t : TypeId} {b r : Nat} {l left : List (Value × Value)}
/-- a store whose run is known -/
theorem at_put (hg : o.guard = none) (m x v : Operand) (t : TypeId) (hop : o.op = Op.mapUpdate t m x v) {mv kx vv : Value} (hm : a.eval m = mv) (hx : a.eval x = kx) (hv : a.eval v = vv) {w' : World}
    (hrun : (Instr.mapUpdate t mv kx vv).run P w = .ok () w') (hK : wpList P ops Q rest (a.put o.dst undef) w') : wpList P ops Q (o :: rest) a w := by
  refine wpList_plain hg fun K' hK' => ?_
  unfold Oper.wp
  simp [execOp, hop, hm, hx, hv, hrun, Result.andThen]
  exact hK' _ _ hK
theorem at_insert (hg : o.guard = none) (m x v : Operand) (t : TypeId) (hop : o.op = Op.insert t m x v) {mv kx vv : Value} (hm : a.eval m = mv) (hx : a.eval x = kx) (hv : a.eval v = vv) {w' : World}
    (hrun : (Instr.mapUpdate t mv kx vv).run P w = .ok () w') (hK : wpList P ops Q rest (a.put o.dst undef) w') : wpList P ops Q (o :: rest) a w := by
  refine wpList_plain hg fun K' hK' => ?_
  unfold Oper.wp
  simp [execOp, hop, hm, hx, hv, hrun, Result.andThen]
  exact hK' _ _ hK
theorem at_look (hg : o.guard = none) (m x : Operand) (t : TypeId) (c : Bool) (hop : o.op = Op.lookup t m x c) {mv kx vv : Value} (hm : a.eval m = mv) (hx : a.eval x = kx)
    (hrun : (Instr.lookup t mv kx c).run P w = .ok vv w) (hK : wpList P ops Q rest (a.put o.dst vv) w) : wpList P ops Q (o :: rest) a w := by
  refine wpList_plain hg fun K' hK' => ?_
  unfold Oper.wp
  simp [execOp, hop, hm, hx, hrun, Result.andThen]
  exact hK' _ _ hK
theorem at_drop (hg : o.guard = none) (m x : Operand) (t k : TypeId) (hop : o.op = Op.call { callee := Callee.builtin Builtin.delete, args := #[m, x], argTypes := #[t, k] }) {mv kx : Value} (hm : a.eval m = mv) (hx : a.eval x = kx) {w' : World}
    (hrun : (Builtin.delete_ #[t, k] o.type #[mv, kx]).run P w = .ok (.tuple #[]) w') (hK : wpList P ops Q rest (a.put o.dst (.tuple #[])) w') : wpList P ops Q (o :: rest) a w := by
  refine wpList_plain hg fun K' hK' => ?_
  unfold Oper.wp
  simp [execOp, hop, resolve, invoke, builtin, hm, hx, hrun, Result.andThen]
  exact hK' _ _ hK
theorem at_rng (hg : o.guard = none) (m : Operand) (t : TypeId) (hop : o.op = Op.range t m) (ht : P.underlying t = some (.map k e)) (hm : a.eval m = .map (some b)) (h : MapAt P k w b l)
    (hK : ∀ w', Rng P k w' b w.heap.size l l → w.grownBy w' none → w'.heap.size = w.heap.size + 1 → wpList P ops Q rest (a.put o.dst (.pointer (some ⟨w.heap.size, 0, none⟩))) w') : wpList P ops Q (o :: rest) a w := by
  refine wpList_plain hg fun K' hK' => ?_
  obtain ⟨w', hrun, r1, r2, r3⟩ := h.range ht
  unfold Oper.wp
  simp [execOp, hop, hm, hrun, Result.andThen]
  exact hK' _ _ (hK w' r1 r2 r3)
theorem at_nxt (hg : o.guard = none) (it : Operand) (hop : o.op = Op.next it false) (hit : a.eval it = .pointer (some ⟨r, 0, none⟩)) (h : Rng P k w b r l left)
    (hDone : left = [] → wpList P ops Q rest (a.put o.dst (.tuple #[.bool false])) w)
    (hMore : ∀ (key v : Value) (l1 l2 : List (Value × Value)) (w' : World), left = l1 ++ (key, v) :: l2 → (key, v) ∈ l → Rng P k w' b r l (l1 ++ l2) → w.grownBy w' (some r) → w'.heap.size = w.heap.size →
      (Instr.entry (.pointer (some ⟨r, 0, none⟩))).run P w' = .ok (.tuple #[key, v]) w' → wpList P ops Q rest (a.put o.dst (.tuple #[.bool true, key, v])) w') : wpList P ops Q (o :: rest) a w := by
  refine wpList_plain hg fun K' hK' => ?_
  unfold Oper.wp
  rcases h.next o.type with ⟨hl, hrun⟩ | ⟨key, v, l1, l2, w', hl, hmem, hrun, hrg, hgr, hsz, hen⟩
  · simp [execOp, hop, hit, hrun, Result.andThen]
    exact hK' _ _ (hDone hl)
  · simp [execOp, hop, hit, hrun, Result.andThen]
    exact hK' _ _ (hMore key v l1 l2 w' hl hmem hrg hgr hsz hen)
end

/-! ### keys -/
theorem keyOf_pair {P : Program} {k : TypeId} {fields : Array Field} (hk : P.underlying k = some (.struct fields)) {a c : Value} {l : Lit} (hkt : P.keyType k = true) (hf : (Value.agg #[a, c]).formed P k = true) (hl : (P.keyLits (P.types.size + 1) k [a, c]).map (fun ls => Lit.string (keyBytes ls)) = some l) :
    keyOf P k (.agg #[a, c]) = some l := by
  simp only [keyOf, hk, hf, hkt, Bool.and_self, if_true]
  simpa [Value.cells] using hl
end Go.Proofs.YthcafgjcgikgpaaBase
