/- (*Alloc).set, Take and Give as one contract. -/
import Derived.Test.YtppjeikkodjjhaaA8
import Derived.Test.YtppjeikkodjjhaaA10
namespace Go.Proofs.Ytppjeikkodjjhaa.Given
open Go.RowKit Go.Shelf Go.Proofs.YtppjeikkodjjhaaW.PrintWords Go.Proofs.YtppjeikkodjjhaaW.PrintLast Go.Proofs.YtppjeikkodjjhaaW.PrintMore Go.Proofs.YtppjeikkodjjhaaBase Go.Proofs.Ytppjeikkodjjhaa.PGeo Go.Proofs.Ytppjeikkodjjhaa.PGet Go.Proofs.Ytppjeikkodjjhaa.PWith
set_option linter.unusedVariables false
set_option linter.unusedSimpArgs false

/-- what set leaves -/
def SetP (base : Nat) (ok : Nat → Prop) (w : World) (g : Nat) (gr i d : Int) (n p q : Nat) (li ld : List Bool) (ino block : Int) (on : Bool) (e : Ending) (w' : World) : Prop :=
  e = .returned (.bool (maySet gr i d n p li ld ino block on)) ∧
    IsAA base (fun k => (ok k ∨ w.heap.size ≤ k) ∧ k < w'.heap.size) w' g gr i d n p q (if maySet gr i d n p li ld ino block on = true then newI n p li ino on else li) (if maySet gr i d n p li ld ino block on = true then newD gr i d ld block on else ld) ∧ Off ok w w'
section
variable {base : Nat} {ok : Nat → Prop} {w w' : World} {g n p q : Nat} {gr i d : Int} {li ld : List Bool} {ino block : Int} {on : Bool} {e : Ending}
theorem SetP.no (h : IsAA base ok w g gr i d n p q li ld) (hok : ∀ k, ok k → k < w.heap.size) (hm : maySet gr i d n p li ld ino block on = false) (he : e = .returned (.bool false)) (hb : Below w.heap.size w w') : SetP base ok w g gr i d n p q li ld ino block on e w' := by
  refine ⟨by rw [hm]; exact he, ?_, Off.of_below hb ok⟩
  rw [hm]
  exact (h.below hb).mono (fun k hk => ⟨.inl hk, Nat.lt_of_lt_of_le (hok k hk) hb.size⟩)
theorem SetP.same (h : IsAA base ok w g gr i d n p q li ld) (hok : ∀ k, ok k → k < w.heap.size) (hm : maySet gr i d n p li ld 0 0 on = true) (he : e = .returned (.bool true)) (hb : Below w.heap.size w w') : SetP base ok w g gr i d n p q li ld 0 0 on e w' := by
  refine ⟨by rw [hm]; exact he, ?_, Off.of_below hb ok⟩
  rw [hm]
  have e1 : newI n p li 0 on = li := by unfold newI iOf; rw [if_neg (by omega)]
  have e2 : newD gr i d ld 0 on = ld := by unfold newD; rw [if_pos rfl]
  rw [if_pos rfl, if_pos rfl, e1, e2]
  exact (h.below hb).mono (fun k hk => ⟨.inl hk, Nat.lt_of_lt_of_le (hok k hk) hb.size⟩)
theorem SetP.yes {gs' : List S54} {li' ld' : List Bool} (hm : maySet gr i d n p li ld ino block on = true) (he : e = .returned (.bool true)) (hI : IsA base (fun k => ok k ∨ w.heap.size ≤ k) w' g gr i d gs') (ha : AOk gr i d n p q gs' li' ld') (hli : newI n p li ino on = li') (hld : newD gr i d ld block on = ld') (ho : Off ok w w') : SetP base ok w g gr i d n p q li ld ino block on e w' := by
  refine ⟨by rw [hm]; exact he, ?_, ho⟩
  rw [hm, if_pos rfl, if_pos rfl, hli, hld]
  exact ⟨gs', hI.bound.mono (fun k hk => ⟨hk.1, hk.2.2⟩), ha⟩
end

theorem setA {base : Nat} {ok : Nat → Prop} {w : World} {g n p q : Nat} {gr i d : Int} {li ld : List Bool} (ino block : Int) (on : Bool) (h : IsAA base ok w g gr i d n p q li ld) (hok : ∀ k, ok k → k < w.heap.size) (hbs : base ≤ w.heap.size) :
    Calls Try.prog 36 #[.pointer (some ⟨g, 0, none⟩), .int .i64 ino, .int .i64 block, .bool on] w (SetP base ok w g gr i d n p q li ld ino block on) := by
  have hAA := h
  obtain ⟨gs, ⟨v, hI, hg, hR⟩, hA⟩ := h
  have hn8 := hA.le
  have hlen := hA.gok.len
  obtain ⟨A, c, rfl⟩ := Kd.R_slice hR
  have hdf := dOf_is (gr := gr) (i := i) (d := d) block
  -- a place's group
  have hgrp : ∀ k, k < n * p → ∃ y, gs[k / p]? = some y ∧ y.f0.length = 8 ∧ bits_Get.f y.f0 ((k % p : Nat) : Int) = some (li.getD k false) ∧ k / p < n ∧ k % p < p := fun k hk => by
    obtain ⟨h1, h2, h3, h4⟩ := place_split hk
    have hy : gs[k / p]? = some (gs[k / p]'(by omega)) := List.getElem?_eq_getElem _
    obtain ⟨r0, _⟩ := hA.gok.rows _ _ hy
    obtain ⟨_, b2, _, b4, b5, b6, b7, _⟩ := hA.fine (Nat.lt_of_le_of_lt (Nat.zero_le _) h2)
    refine ⟨_, hy, r0.1, ?_, h2, h3⟩
    rw [get_row r0 (by omega) (by omega)]
    unfold placeF
    rw [if_pos h3, h4]
  have hgrq : ∀ k, k < n * q → ∃ y, gs[k / q]? = some y ∧ y.f1.length ≤ 126 ∧ bits_Get.f y.f1 ((k % q : Nat) : Int) = some (ld.getD k false) ∧ k / q < n ∧ k % q < q := fun k hk => by
    obtain ⟨h1, h2, h3, h4⟩ := place_split hk
    have hy : gs[k / q]? = some (gs[k / q]'(by omega)) := List.getElem?_eq_getElem _
    obtain ⟨_, r1⟩ := hA.gok.rows _ _ hy
    obtain ⟨_, _, b3, _, _, _, _, b8, b9⟩ := hA.fine (Nat.lt_of_le_of_lt (Nat.zero_le _) h2)
    refine ⟨_, hy, by rw [r1.1]; omega, ?_, h2, h3⟩
    rw [get_row r1 (by omega) (by omega)]
    unfold placeF
    rw [if_pos h3, h4]
  have form : 0 < n → ∃ G, A = some ⟨G, 0, none⟩ := fun hn => by
    obtain ⟨G, cap, hv, _⟩ := Kd.R_form hR (by omega)
    injection hv with hv1 _ _
    exact ⟨G, hv1⟩
  rw [hlen] at hI hR
  have hdr := dOf_range (gr := gr) (i := i) (d := d) (n := n) (q := q) (block := block) (fun h0 => by obtain ⟨b1, _, b3, b4⟩ := hA.fine h0; exact ⟨b1, b3, b4⟩) hA.none_
  have hfin : 0 < n → Fine gr i d ∧ gr = (n : Int) ∧ i * 16 = (p : Int) := fun h0 => by obtain ⟨b1, b2, _, b4⟩ := hA.fine h0; exact ⟨b4, b1, b2⟩
  -- the inode
  by_cases hi0 : ino = 0
  · subst hi0
    have hgf := group_out (ino := 0) hfin hA.none_ (.inl (by omega))
    have hmI : mayI n p li 0 on = true := by simp [mayI]
    by_cases hb0 : block = 0
    · subst hb0
      have hm : maySet gr i d n p li ld 0 0 on = true := by unfold maySet; rw [hmI]; simp [mayD]
      exact (set_zero_zero g base ok gr i d _ gs 0 on _ w hI hg hok hbs hgf hdf (by decide)).mono fun e w' hh => SetP.same hAA hok hm hh.1 hh.2
    · have hbb : (block != 0) = true := by simpa using hb0
      cases hd2 : (dOf gr i d block).2 with
      | false =>
        have hm : maySet gr i d n p li ld 0 block on = false := by unfold maySet mayD; rw [hmI, hd2]; simp [hb0]
        exact (set_zero_bad g base ok gr i d _ gs block on _ w hI hg hok hbs hgf hdf hbb hd2).mono fun e w' hh => SetP.no hAA hok hm hh.1 hh.2
      | true =>
        obtain ⟨hn, dd, hdd, hdd1⟩ := hdr hd2
        obtain ⟨yb, hyb, hybl, hgetb, hxb, hjb⟩ := hgrq dd hdd
        obtain ⟨G, rfl⟩ := form hn
        obtain ⟨b1, b2, b3, b4, b5, b6, b7, b8, b9⟩ := hA.fine hn
        have hdp : dOf gr i d block = ((dd : Int), true) := by rw [← hdd1, ← hd2]
        have hnq : n * q ≤ 8 * 1000 := Nat.mul_le_mul hn8 (by omega)
        have hmD : mayD gr i d ld block on = (ld.getD dd false != on) := by unfold mayD; rw [hdp]; simp [hb0]
        cases heq : (ld.getD dd false == on) with
        | true =>
          have hm : maySet gr i d n p li ld 0 block on = false := by unfold maySet; rw [hmI, hmD]; simpa using heq
          exact (set_zero_taken g base ok gr i d G n c gs block on _ w q dd _ _ yb _ hI hg hok hbs hR hn8 hgf hdf hbb hdp b3 (by omega) (by omega) (by omega) rfl rfl hxb hyb (by omega) hgetb heq).mono fun e w' hh => SetP.no hAA hok hm hh.1 hh.2
        | false =>
          have hm : maySet gr i d n p li ld 0 block on = true := by unfold maySet; rw [hmI, hmD]; simpa using heq
          refine (set_zero_good g base ok gr i d G n c gs block on _ w q dd _ _ yb _ hI hg hok hbs hR hn8 hgf hdf hbb hdp b3 (by omega) (by omega) (by omega) rfl rfl hxb hyb (by omega) hgetb heq).mono ?_
          rintro e w' ⟨he, yc, hyc, hI', ho⟩
          refine SetP.yes hm he hI' (hA.setD hyc hjb on) (by unfold newI iOf; rw [if_neg (by omega)]) ?_ ho
          unfold newD
          rw [if_neg hb0, hdp, Int.toNat_natCast, (place_split hdd).2.2.2]
  · cases hio : iOf n p ino with
    | none =>
      have hout : ino < 1 ∨ ((n * p : Nat) : Int) < ino := by
        unfold iOf at hio
        split at hio
        · cases hio
        · omega
      have hgf := group_out (ino := ino) hfin hA.none_ hout
      have hm : maySet gr i d n p li ld ino block on = false := by unfold maySet mayI; rw [hio]; simp [hi0]
      exact (set_bad_any g base ok gr i d _ gs block on _ w ino hI hg hok hbs hgf (by simpa using hi0) hdf).mono fun e w' hh => SetP.no hAA hok hm hh.1 hh.2
    | some m =>
      obtain ⟨hm1, hm2⟩ : m < n * p ∧ ino = (m : Int) + 1 := by
        unfold iOf at hio
        split at hio
        · injection hio with hio; omega
        · cases hio
      subst hm2
      obtain ⟨y, hy, hyl, hget, hx, hj⟩ := hgrp m hm1
      have hn : 0 < n := Nat.lt_of_le_of_lt (Nat.zero_le _) hx
      obtain ⟨G, rfl⟩ := form hn
      obtain ⟨b1, b2, b3, b4, b5, b6, b7, b8, b9⟩ := hA.fine hn
      have hgf := group_in ⟨b4, b5, b6, b7, b8, b9⟩ b1 b2 hm1
      have hnp : n * p ≤ 8 * 64 := Nat.mul_le_mul hn8 (by omega)
      have hmI : mayI n p li ((m : Int) + 1) on = (li.getD m false != on) := by unfold mayI; rw [hio]; simp [hi0]
      have hnI : newI n p li ((m : Int) + 1) on = li.set m on := by unfold newI; rw [hio]
      cases heq : (li.getD m false == on) with
      | true =>
        have hm : maySet gr i d n p li ld ((m : Int) + 1) block on = false := by unfold maySet; rw [hmI, show (li.getD m false != on) = false by simpa using heq, Bool.false_and]
        exact (set_taken_any g base ok gr i d G n c gs block on _ w m _ _ y _ hI hg hok hbs hR hn8 hgf (by omega) hx (by omega) hy (by omega) hget heq hdf).mono fun e w' hh => SetP.no hAA hok hm hh.1 hh.2
      | false =>
        have hmI' : mayI n p li ((m : Int) + 1) on = true := by rw [hmI]; simpa using heq
        have hset := hA.setI hy hj on
        rw [(place_split hm1).2.2.2] at hset
        by_cases hb0 : block = 0
        · subst hb0
          have hm : maySet gr i d n p li ld ((m : Int) + 1) 0 on = true := by unfold maySet; rw [hmI']; simp [mayD]
          refine (set_good_zero g base ok gr i d G n c gs 0 on _ w m _ _ y _ hI hg hok hbs hR hn8 hgf (by omega) hx (by omega) hy (by omega) hget heq hdf (by decide)).mono ?_
          rintro e w' ⟨he, hI', ho⟩
          exact SetP.yes hm he hI' hset hnI (by unfold newD; rw [if_pos rfl]) ho
        · have hbb : (block != 0) = true := by simpa using hb0
          cases hd2 : (dOf gr i d block).2 with
          | false =>
            have hm : maySet gr i d n p li ld ((m : Int) + 1) block on = false := by unfold maySet mayD; rw [hmI', hd2]; simp [hb0]
            exact (set_good_bad g base ok gr i d G n c gs block on _ w m _ _ y _ hI hg hok hbs hR hn8 hgf (by omega) hx (by omega) hy (by omega) hget heq hdf hbb hd2).mono fun e w' hh => SetP.no hAA hok hm hh.1 hh.2
          | true =>
            obtain ⟨_, dd, hdd, hdd1⟩ := hdr hd2
            obtain ⟨yb, hyb, hybl, hgetb, hxb, hjb⟩ := hgrq dd hdd
            have hdp : dOf gr i d block = ((dd : Int), true) := by rw [← hdd1, ← hd2]
            have hnq : n * q ≤ 8 * 1000 := Nat.mul_le_mul hn8 (by omega)
            have hmD : mayD gr i d ld block on = (ld.getD dd false != on) := by unfold mayD; rw [hdp]; simp [hb0]
            cases heqb : (ld.getD dd false == on) with
            | true =>
              have hm : maySet gr i d n p li ld ((m : Int) + 1) block on = false := by unfold maySet; rw [hmI', hmD]; simpa using heqb
              exact (set_good_taken g base ok gr i d G n c gs block on _ w m _ _ y _ q dd _ _ yb _ hI hg hok hbs hR hn8 hgf (by omega) hx (by omega) hy (by omega) hget heq hdf hbb hdp b3 (by omega) (by omega) (by omega) rfl rfl hxb hyb (by omega) hgetb heqb).mono fun e w' hh => SetP.no hAA hok hm hh.1 hh.2
            | false =>
              have hm : maySet gr i d n p li ld ((m : Int) + 1) block on = true := by unfold maySet; rw [hmI', hmD]; simpa using heqb
              refine (set_good_good g base ok gr i d G n c gs block on _ w m _ _ y _ q dd _ _ yb _ hI hg hok hbs hR hn8 hgf (by omega) hx (by omega) hy (by omega) hget heq hdf hbb hdp b3 (by omega) (by omega) (by omega) rfl rfl hxb hyb (by omega) hgetb heqb).mono ?_
              rintro e w' ⟨he, yc, hyc, hI', ho⟩
              refine SetP.yes hm he hI' (hset.setD hyc hjb on) hnI ?_ ho
              unfold newD
              rw [if_neg hb0, hdp, Int.toNat_natCast, (place_split hdd).2.2.2]
set_option maxRecDepth 100000 in
theorem takeA {base : Nat} {ok : Nat → Prop} {w : World} {g n p q : Nat} {gr i d : Int} {li ld : List Bool} (ino block : Int) (h : IsAA base ok w g gr i d n p q li ld) (hok : ∀ k, ok k → k < w.heap.size) (hbs : base ≤ w.heap.size) :
    Calls Try.prog 21 #[.pointer (some ⟨g, 0, none⟩), .int .i64 ino, .int .i64 block] w (SetP base ok w g gr i d n p q li ld ino block true) := by
  have HH := Lib.hid h
  clear h
  go_enter Try.func21, Try.ntmps21
  go_wp2_with (first | (go_at_call 36; refine (setA ino block true HH.out hok hbs).mono ?_; rintro e w1 hs; have he := hs.1; subst he; have HS := Lib.hid hs; clear hs))
  go_ret
  exact HS.out
set_option maxRecDepth 100000 in
theorem giveA {base : Nat} {ok : Nat → Prop} {w : World} {g n p q : Nat} {gr i d : Int} {li ld : List Bool} (ino block : Int) (h : IsAA base ok w g gr i d n p q li ld) (hok : ∀ k, ok k → k < w.heap.size) (hbs : base ≤ w.heap.size) :
    Calls Try.prog 17 #[.pointer (some ⟨g, 0, none⟩), .int .i64 ino, .int .i64 block] w (SetP base ok w g gr i d n p q li ld ino block false) := by
  have HH := Lib.hid h
  clear h
  go_enter Try.func17, Try.ntmps17
  go_wp2_with (first | (go_at_call 36; refine (setA ino block false HH.out hok hbs).mono ?_; rintro e w1 hs; have he := hs.1; subst he; have HS := Lib.hid hs; clear hs))
  go_ret
  exact HS.out
end Go.Proofs.Ytppjeikkodjjhaa.Given
