/- The reference's Set as one contract, Free, NewAlloc. -/
import Derived.Test.YtppjeikkodjjhaaA17
namespace Go.Proofs.Ytppjeikkodjjhaa.Given
open Go.RowKit Go.Shelf Go.Proofs.YtppjeikkodjjhaaW.PrintWords Go.Proofs.YtppjeikkodjjhaaW.PrintLast Go.Proofs.YtppjeikkodjjhaaW.PrintMore Go.Proofs.YtppjeikkodjjhaaBase Go.Proofs.Ytppjeikkodjjhaa.PGeo Go.Proofs.Ytppjeikkodjjhaa.PGet Go.Proofs.Ytppjeikkodjjhaa.PWith
set_option linter.unusedVariables false
set_option linter.unusedSimpArgs false

theorem rSet (g Bi Bb n p q : Nat) (gr i d : Int) (li ld : List Bool) (ino block : Int) (on : Bool) (w : World) (h : IsR w g Bi Bb gr i d li ld) (hl : li.length = n * p) (hlb : ld.length = n * q) (hs : n * p ≤ 1000000) (hsb : n * q ≤ 1000000)
    (hf : 0 < n → gr = (n : Int) ∧ d = (q : Int) ∧ Fine gr i d) (h0 : n = 0 → ¬ Fine gr i d) :
    Calls Try.prog 22 #[.pointer (some ⟨g, 0, none⟩), .int .i64 ino, .int .i64 block, .bool on] w fun e w' => e = .returned (.bool (maySet gr i d n p li ld ino block on)) ∧
      IsR w' g Bi Bb gr i d (if maySet gr i d n p li ld ino block on = true then newI n p li ino on else li) (if maySet gr i d n p li ld ino block on = true then newD gr i d ld block on else ld) ∧ Off (fun k => k = Bi ∨ k = Bb) w w' := by
  have hdr := dOf_range (gr := gr) (i := i) (d := d) (n := n) (q := q) (block := block) hf h0
  have hdf := rdOf_is gr i d block
  have hno : ∀ {e : Ending} {w' : World} {r : Bool}, maySet gr i d n p li ld ino block on = false → (e = .returned (.bool false) ∧ IsR w' g Bi Bb gr i d li ld ∧ Off (fun k => k = Bi ∨ k = Bb) w w') →
      (e = .returned (.bool (maySet gr i d n p li ld ino block on)) ∧ IsR w' g Bi Bb gr i d (if maySet gr i d n p li ld ino block on = true then newI n p li ino on else li) (if maySet gr i d n p li ld ino block on = true then newD gr i d ld block on else ld) ∧ Off (fun k => k = Bi ∨ k = Bb) w w') := fun hm hh => by
    rw [hm]; exact hh
  have hyes : ∀ {e : Ending} {w' : World} {li' ld' : List Bool}, maySet gr i d n p li ld ino block on = true → newI n p li ino on = li' → newD gr i d ld block on = ld' → (e = .returned (.bool true) ∧ IsR w' g Bi Bb gr i d li' ld' ∧ Off (fun k => k = Bi ∨ k = Bb) w w') →
      (e = .returned (.bool (maySet gr i d n p li ld ino block on)) ∧ IsR w' g Bi Bb gr i d (if maySet gr i d n p li ld ino block on = true then newI n p li ino on else li) (if maySet gr i d n p li ld ino block on = true then newD gr i d ld block on else ld) ∧ Off (fun k => k = Bi ∨ k = Bb) w w') := fun hm h1 h2 hh => by
    rw [hm, if_pos rfl, if_pos rfl, h1, h2]; exact hh
  -- what the inode is
  have hino : (ino = 0) ∨ (ino ≠ 0 ∧ iOf n p ino = none ∧ (ino < 1 ∨ (li.length : Int) < ino)) ∨ (∃ m : Nat, m < li.length ∧ ino = (m : Int) + 1 ∧ iOf n p ino = some m) := by
    by_cases hi0 : ino = 0
    · exact .inl hi0
    · by_cases hr : 1 ≤ ino ∧ ino ≤ ((n * p : Nat) : Int)
      · refine .inr (.inr ⟨(ino - 1).toNat, by omega, by omega, ?_⟩)
        unfold iOf
        rw [if_pos hr]
      · refine .inr (.inl ⟨hi0, ?_, by omega⟩)
        unfold iOf
        rw [if_neg hr]
  by_cases hb0 : block = 0
  · subst hb0
    have hmD : mayD gr i d ld 0 on = true := by simp [mayD]
    have hnD : newD gr i d ld 0 on = ld := by unfold newD; rw [if_pos rfl]
    rcases hino with rfl | ⟨hi0, hio, hout⟩ | ⟨m, hm, rfl, hio⟩
    · have hms : maySet gr i d n p li ld 0 0 on = true := by unfold maySet; rw [hmD]; simp [mayI]
      exact (rset_zero_zero g Bi Bb gr i d li ld on w h).mono fun e w' hh => hyes hms (by unfold newI iOf; rw [if_neg (by omega)]) hnD hh
    · have hms : maySet gr i d n p li ld ino 0 on = false := by unfold maySet mayI; rw [hio]; simp [hi0]
      exact (rset_bad_zero g Bi Bb gr i d li ld on w ino h (by simpa using hi0) hout).mono fun e w' hh => hno (r := true) hms hh
    · have hmI : mayI n p li ((m : Int) + 1) on = (li.getD m false != on) := by unfold mayI; rw [hio]; simp; omega
      cases heq : (li.getD m false == on) with
      | true =>
        have hms : maySet gr i d n p li ld ((m : Int) + 1) 0 on = false := by unfold maySet; rw [hmI, show (li.getD m false != on) = false by simpa using heq, Bool.false_and]
        exact (rset_taken_zero g Bi Bb gr i d li ld on w m h hm (by omega) heq).mono fun e w' hh => hno (r := true) hms hh
      | false =>
        have hms : maySet gr i d n p li ld ((m : Int) + 1) 0 on = true := by unfold maySet; rw [hmI, hmD, show (li.getD m false != on) = true by simpa using heq]; rfl
        exact (rset_good_zero g Bi Bb gr i d li ld on w m h hm (by omega) heq).mono fun e w' hh => hyes hms (by unfold newI; rw [hio]) hnD hh
  · have hbb : (block != 0) = true := by simpa using hb0
    cases hd2 : (dOf gr i d block).2 with
    | false =>
      have hms : maySet gr i d n p li ld ino block on = false := by unfold maySet mayD; rw [hd2]; simp [hb0]
      have hdf' : lockgateref1_DataOf.f 1 gr i d block = some ((dOf gr i d block).1, false) := by rw [hdf, ← hd2]
      exact (rset_any_bad g Bi Bb gr i d li ld on w block ino _ h hbb hdf').mono fun e w' hh => hno (r := true) hms hh
    | true =>
      obtain ⟨hn, dd, hdd, hdd1⟩ := hdr hd2
      have hdp : dOf gr i d block = ((dd : Int), true) := by rw [← hdd1, ← hd2]
      rw [hdp] at hdf
      have hmD : mayD gr i d ld block on = (ld.getD dd false != on) := by unfold mayD; rw [hdp]; simp [hb0]
      have hnD : newD gr i d ld block on = ld.set dd on := by unfold newD; rw [if_neg hb0, hdp, Int.toNat_natCast]
      cases heqb : (ld.getD dd false == on) with
      | true =>
        have hms : maySet gr i d n p li ld ino block on = false := by unfold maySet; rw [hmD, show (ld.getD dd false != on) = false by simpa using heqb, Bool.and_false]
        exact (rset_any_taken g Bi Bb gr i d li ld on w block ino dd h hbb hdf (by omega) (by omega) heqb).mono fun e w' hh => hno (r := true) hms hh
      | false =>
        have hmD' : mayD gr i d ld block on = true := by rw [hmD]; simpa using heqb
        rcases hino with rfl | ⟨hi0, hio, hout⟩ | ⟨m, hm, rfl, hio⟩
        · have hms : maySet gr i d n p li ld 0 block on = true := by unfold maySet; rw [hmD']; simp [mayI]
          exact (rset_zero_good g Bi Bb gr i d li ld on w block dd h hbb hdf (by omega) (by omega) heqb).mono fun e w' hh => hyes hms (by unfold newI iOf; rw [if_neg (by omega)]) hnD hh
        · have hms : maySet gr i d n p li ld ino block on = false := by unfold maySet mayI; rw [hio]; simp [hi0]
          exact (rset_bad_good g Bi Bb gr i d li ld on w block ino dd h hbb (by simpa using hi0) hout hdf (by omega) (by omega) heqb).mono fun e w' hh => hno (r := true) hms hh
        · have hmI : mayI n p li ((m : Int) + 1) on = (li.getD m false != on) := by unfold mayI; rw [hio]; simp; omega
          cases heq : (li.getD m false == on) with
          | true =>
            have hms : maySet gr i d n p li ld ((m : Int) + 1) block on = false := by unfold maySet; rw [hmI, show (li.getD m false != on) = false by simpa using heq, Bool.false_and]
            exact (rset_taken_good g Bi Bb gr i d li ld on w block m dd h hbb hm (by omega) heq hdf (by omega) (by omega) heqb).mono fun e w' hh => hno (r := true) hms hh
          | false =>
            have hms : maySet gr i d n p li ld ((m : Int) + 1) block on = true := by unfold maySet; rw [hmI, hmD', show (li.getD m false != on) = true by simpa using heq]; rfl
            exact (rset_good_good g Bi Bb gr i d li ld on w block m dd h hbb hm (by omega) heq hdf (by omega) (by omega) heqb).mono fun e w' hh => hyes hms (by unfold newI; rw [hio]) hnD hh

theorem freeN_one (l : List Bool) (k : Nat) (hk : k < l.length) : freeN (l.take (k + 1)) = freeN (l.take k) + (if l.getD k false = true then 0 else 1) := by
  rw [List.take_succ_eq_append_getElem hk]
  unfold freeN
  rw [List.countP_append, List.getD_eq_getElem?_getD, List.getElem?_eq_getElem hk]
  cases l[k] <;> rfl
set_option maxRecDepth 100000 in
set_option maxHeartbeats 2000000 in
theorem rFree (g Bi Bb : Nat) (gr i d : Int) (li ld : List Bool) (w : World) (h : IsR w g Bi Bb gr i d li ld) (hs : li.length ≤ 1000000) (hsb : ld.length ≤ 1000000) :
    Calls Try.prog 23 #[.pointer (some ⟨g, 0, none⟩)] w fun e w' => e = .returned (.tuple #[.int .i64 (freeN li : Int), .int .i64 (freeN ld : Int)]) ∧ w = w' := by
  have c3 := h.c3
  have c4 := h.c4
  have HR := Lib.hid h
  clear h
  go_enter Try.func23, Try.ntmps23
  go_wp2
  go_loop [4, 6] (fun a j => ∃ k : Nat, k ≤ li.length ∧ j = .int .i64 (k : Int) ∧ a = .int .i64 (freeN (li.take k) : Int)) (fun _ j => li.length - (intOf j).toNat)
  case atStart => exact ⟨0, Nat.zero_le _, rfl, by simp [freeN]⟩
  case round =>
    obtain ⟨k, hk, rfl, rfl⟩ := hrel
    by_cases hlt : k < li.length
    · have s1 := HR.out.2.1.1.cell hlt
      have hst := freeN_one li k hlt
      have hfp := freeN_part li k
      have hki : (k : Int) < (li.length : Int) := by omega
      have hk0 : (0 : Int) ≤ (k : Int) := by omega
      obtain ⟨F, hF⟩ : ∃ F, freeN (li.take k) = F := ⟨_, rfl⟩
      rw [hF] at hst hfp ⊢
      have HST := Lib.hid hst
      clear hst hF
      cases hb : li.getD k false with
      | true =>
        rw [hb] at s1
        have HB := Lib.hid hb
        clear hb
        go_wp2
        go_round
        case rel => exact ⟨k + 1, by omega, by go_num, by rw [HST.out, HB.out]; rfl⟩
        case measure => simp [intOf]; omega
      | false =>
        rw [hb] at s1
        have HB := Lib.hid hb
        clear hb
        go_wp2
        go_round
        case rel => exact ⟨k + 1, by omega, by go_num, by rw [HST.out, HB.out]; rfl⟩
        case measure => simp [intOf]; omega
    · obtain rfl : k = li.length := by omega
      rw [List.take_length]
      have hki : ¬ (li.length : Int) < (li.length : Int) := by omega
      obtain ⟨F1, hF1⟩ : ∃ F, freeN li = F := ⟨_, rfl⟩
      have HF1 := Lib.hid hF1
      rw [hF1]
      clear hF1
      go_wp2
      go_loop [5, 7] (fun a j => ∃ k : Nat, k ≤ ld.length ∧ j = .int .i64 (k : Int) ∧ a = .int .i64 (freeN (ld.take k) : Int)) (fun _ j => ld.length - (intOf j).toNat)
      case atStart => exact ⟨0, Nat.zero_le _, rfl, by simp [freeN]⟩
      case round =>
        clear hlt hk hki
        obtain ⟨k, hk, rfl, rfl⟩ := hrel
        by_cases hlt : k < ld.length
        · have s1 := HR.out.2.1.2.cell hlt
          have hst := freeN_one ld k hlt
          have hfp := freeN_part ld k
          have hki : (k : Int) < (ld.length : Int) := by omega
          have hk0 : (0 : Int) ≤ (k : Int) := by omega
          obtain ⟨F, hF⟩ : ∃ F, freeN (ld.take k) = F := ⟨_, rfl⟩
          rw [hF] at hst hfp ⊢
          have HST := Lib.hid hst
          clear hst hF
          cases hb : ld.getD k false with
          | true =>
            rw [hb] at s1
            have HB := Lib.hid hb
            clear hb
            go_wp2
            go_round
            case rel => exact ⟨k + 1, by omega, by go_num, by rw [HST.out, HB.out]; rfl⟩
            case measure => simp [intOf]; omega
          | false =>
            rw [hb] at s1
            have HB := Lib.hid hb
            clear hb
            go_wp2
            go_round
            case rel => exact ⟨k + 1, by omega, by go_num, by rw [HST.out, HB.out]; rfl⟩
            case measure => simp [intOf]; omega
        · obtain rfl : k = ld.length := by omega
          rw [List.take_length]
          have hki : ¬ (ld.length : Int) < (ld.length : Int) := by omega
          go_wp2
          go_ret2
          exact ⟨by rw [HF1.out]; rfl, rfl⟩
end Go.Proofs.Ytppjeikkodjjhaa.Given
