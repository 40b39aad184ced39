/- The iterator of disk.sectors: a block's two sectors. -/
import Derived.Test.YthcafgjcgikgpaaE3
import Derived.Shelf.Abstract
import Derived.Shelf.RegionOpen
import Derived.TacticsInMore
import Derived.LoopNIn
import Derived.LoopIn
import Derived.BigRegionIn
import Derived.Stop.RegionWithIn
namespace Go.Proofs.Ythcafgjcgikgpaa.Given
open Go.RowKit Go.Shelf Go.Proofs.YthcafgjcgikgpaaW.PrintWords Go.Proofs.YthcafgjcgikgpaaW.PrintLast Go.Proofs.YthcafgjcgikgpaaW.PrintMore Go.Proofs.YthcafgjcgikgpaaBase
set_option linter.unusedVariables false
set_option linter.unusedSimpArgs false
attribute [local go_sem] Oper.semAt_some

/-- where a sector lies -/
def secA (A : Option Addr) (c k : Nat) : Option Addr := if c = k * 512 then A else A.map (·.add (k * 512 * 1))
abbrev encSec (blk : Int) (A : Option Addr) (c : Nat) (x : Fin 2) : Array Value := #[.int .i64 (blk * 2 + (x.val : Int)), .slice (secA A c x.val) 512 (c - x.val * 512)]
theorem sec_run (A : Option Addr) (c k : Nat) (hk : k < 2) (hc : 1024 ≤ c) :
    ∀ W : World, (Instr.slice 28 (.slice A 1024 c) (some (.int .i64 ((k : Int) * 512))) (some (.int .i64 (((k : Int) + 1) * 512))) none).run Try.prog W = .ok (.slice (secA A c k) 512 (c - k * 512)) W := by
  intro W
  obtain ⟨i, hi5, hz⟩ := one5
  have := cut_mid (P := Try.prog) 28 5 .i64 .i64 Try.underlying28 hi5 1 hz A 1024 c ((k : Int) * 512) (((k : Int) + 1) * 512) (by omega) (by omega) (by omega) hc W
  rw [show ((k : Int) * 512).toNat = k * 512 by omega, show ((((k : Int) + 1) * 512)).toNat - k * 512 = 512 by omega] at this
  exact this
theorem sec_reads (A : Option Addr) (c k : Nat) (hk : k < 2) (hc : 1024 ≤ c) (b : List Int) (hb : b.length = 1024) (w : World) (h : Kd.C (Kd.int .u8) w A b.length b) :
    Kd.C (Kd.int .u8) w (secA A c k) 512 ((b.take ((k + 1) * 512)).drop (k * 512)) := by
  have := Kd.C_mid (lo := k * 512) (hi := (k + 1) * 512) (c := c) h (by omega) (by omega) (by omega)
  rwa [show ((b.take ((k + 1) * 512)).drop (k * 512)).length = 512 by rw [List.length_drop, List.length_take]; omega] at this

theorem h_drewN {β : Type} {B : Nat} {J : β → World → Prop} (h : AbidesFrom B J) {s : β} {W : World} (hs : J s W) (k : Nat) : J s (W.drewN k) :=
  h s W _ none hs ⟨rfl, rfl, rfl, Nat.le_refl _, fun _ _ _ => rfl⟩ (fun r e => by cases e)

theorem two_ways {e : Ending} {p q : Prop} (h : (e = .returned (.bool true) ∧ p) ∨ (e = .returned (.bool false) ∧ q)) : ∃ bo : Bool, e = .returned (.bool bo) ∧ Hid ((bo = true ∧ p) ∨ (bo = false ∧ q)) := by
  rcases h with ⟨h, hp⟩ | ⟨h, hq⟩
  · exact ⟨true, h, Lib.hid (.inl ⟨rfl, hp⟩)⟩
  · exact ⟨false, h, Lib.hid (.inr ⟨rfl, hq⟩)⟩

structure SecG (Bk Bb : Nat) (blk : Int) (A : Option Addr) (c : Nat) (G : World → Prop) (Kp : World → World → Prop) : Prop where
  k : ∀ W, G W → W.cell? ⟨Bk, 0, none⟩ = some (.int .i64 blk)
  b : ∀ W, G W → W.cell? ⟨Bb, 0, none⟩ = some (.slice A 1024 c)
  d : ∀ W k, G W → G (W.drewN k)
  keep : ∀ A B, G A → Kp A B → G B

set_option maxRecDepth 100000 in
set_option maxHeartbeats 4000000 in
theorem sec1_in (m : Nat) (hm : 1 ≤ m) (lr Bk Bb c : Nat) (blk : Int) (A : Option Addr) (hb0 : 0 ≤ blk) (hb1 : blk ≤ 1000000) (hc : 1024 ≤ c)
    (G : World → Prop) (Kp : World → World → Prop) (hG : SecG Bk Bb blk A c G Kp)
    (J Jx : List (Fin 2) → World → Prop)
    (hY : ∀ pre x W, J pre W → pre.length < 2 → YieldAt Fence.wide (m - 1) Try.prog lr (encSec blk A c x) W fun e W' =>
      (e = .returned (.bool true) ∧ J (pre ++ [x]) W' ∧ Kp W W') ∨ (e = .returned (.bool false) ∧ Jx (pre ++ [x]) W'))
    (W : World) (hGW : G W) (hJ : AbidesFrom W.heap.size J) (h0 : J [] W) :
    CallsIn Fence.wide m Try.prog 40 #[.func (.yield lr) #[] #[], .pointer (some ⟨Bk, 0, none⟩), .pointer (some ⟨Bb, 0, none⟩)] W fun e W' => (∃ v, e = .returned v) ∧
      ((∃ ys, ys.map Fin.val = List.range' 0 2 ∧ J ys W') ∨ (∃ pre, pre.map Fin.val = List.range' 0 pre.length ∧ Jx pre W')) := by
  refine callsIn_of_wp Try.func40 rfl trivial ?_ rfl
  simp only [Try.ntmps40, List.size_toArray, List.length_cons, List.length_nil, Nat.reduceAdd, Nat.reduceSub, Array.replicate_succ, Array.replicate_zero, List.push_toArray, List.append_toArray, List.nil_append, List.cons_append]
  gi_wp2
  gi_loopw [5] (fun i wr => ∃ (k : Nat) (pre : List (Fin 2)), k ≤ 2 ∧ i = .int .i64 (k : Int) ∧ Hid (pre.map Fin.val = List.range' 0 k) ∧ J pre wr ∧ G wr) (fun i _ => 2 - (intOf i).toNat)
  case atStart =>
    exact ⟨0, [], by omega, rfl, Lib.hid rfl, h0, hGW⟩
  case round =>
    obtain ⟨k, pre, hk, rfl, HP, hJs, hnx⟩ := hrel
    by_cases hlt : k < 2
    · have hkl : (k : Int) < 2 := by omega
      have hpl : pre.length < 2 := by
        have := congrArg List.length HP.out
        simp at this
        omega
      have hB1 := hG.k wr hnx
      have hB2 := hG.b wr hnx
      have hd1 : J pre wr.drew := h_drewN hJ hJs 1
      have hG1 : G wr.drew := hG.d wr 1 hnx
      obtain ⟨fn, tmps, assign, body, hy, hR⟩ := hY pre ⟨k, hlt⟩ wr.drew hd1 hpl
      have hcut := sec_run A c k hlt hc
      have HR := Lib.hid hR
      clear hR
      gi_wp2
      have u1 : IntKind.i64.wrap (blk * 2) = blk * 2 := by rw [i64_w]; unfold wrap64; omega
      have u2 : IntKind.i64.wrap (blk * 2 + (k : Int)) = blk * 2 + (k : Int) := by rw [i64_w]; unfold wrap64; omega
      have u3 : IntKind.i64.wrap ((k : Int) * 512) = (k : Int) * 512 := by rw [i64_w]; unfold wrap64; omega
      have u4 : IntKind.i64.wrap ((k : Int) + 1) = (k : Int) + 1 := by rw [i64_w]; unfold wrap64; omega
      have u5 : IntKind.i64.wrap (((k : Int) + 1) * 512) = ((k : Int) + 1) * 512 := by rw [i64_w]; unfold wrap64; omega
      refine wpIn_region_any (by kernel_rfl) ?_
      try (change wpAnyIn _ _ _ _ _ _ _ _ _ (World.drew _))
      refine wpAnyIn_take (i := 0) (v := ?_) rfl rfl (by kernel_rfl) (by kernel_rfl) (by kernel_rfl) (fun _ _ _ h => h) ⟨Or.inl ⟨by rfl, ?_⟩, fun _ => rfl⟩ ?_
      rotate_left
      · intro w'
        go_simp
        try with_reducible rfl
      refine wpAnyIn_take (i := 3) (v := ?_) rfl rfl (by kernel_rfl) (by kernel_rfl) (by kernel_rfl) (fun _ _ _ h => h) ⟨Or.inl ⟨by rfl, ?_⟩, fun _ => rfl⟩ ?_
      rotate_left
      · intro w'
        go_simp
        try with_reducible rfl
      refine wpAnyIn_take (i := 6) (v := ?_) rfl rfl (by kernel_rfl) (by kernel_rfl) (by kernel_rfl) (fun _ _ _ h => h) ⟨Or.inl ⟨by rfl, ?_⟩, fun _ => rfl⟩ ?_
      rotate_left
      · intro w'
        go_simp
        try with_reducible rfl
      refine wpAnyIn_take (i := 8) (v := ?_) rfl rfl (by kernel_rfl) (by kernel_rfl) (by kernel_rfl) (fun _ _ _ h => h) ⟨Or.inl ⟨by rfl, ?_⟩, fun _ => rfl⟩ ?_
      rotate_left
      · intro w'
        go_simp
        try with_reducible rfl
      refine wpAnyIn_take (i := 7) (v := ?_) rfl rfl (by kernel_rfl) (by kernel_rfl) (by kernel_rfl) (fun _ _ _ h => h) ⟨Or.inl ⟨by rfl, ?_⟩, fun _ => rfl⟩ ?_
      rotate_left
      · intro w'
        go_simp
        try with_reducible rfl
      refine wpAnyIn_take (i := 9) (v := ?_) rfl rfl (by kernel_rfl) (by kernel_rfl) (by kernel_rfl) (fun _ _ _ h => h) ⟨Or.inl ⟨by rfl, ?_⟩, fun _ => rfl⟩ ?_
      rotate_left
      · intro w'
        go_simp
        try with_reducible rfl
      refine wpAnyIn_take (i := 10) (v := ?_) rfl rfl (by kernel_rfl) (by kernel_rfl) (by kernel_rfl) (fun _ _ _ h => h) ⟨Or.inl ⟨by rfl, ?_⟩, fun _ => rfl⟩ ?_
      rotate_left
      · intro w'
        go_simp
        try with_reducible rfl
      refine wpAnyIn_ready (rs := [1, 5]) (by kernel_rfl) (by simp) ?_
      refine AllReadyIn.cons rfl (fun K hK => ?_) (AllReadyIn.cons rfl (fun K hK => ?_) AllReadyIn.nil)
      · go_simp
        refine hK _ _ ?_
        clear hK K
        refine wpAnyIn_take (i := 2) (v := ?_) rfl rfl (by kernel_rfl) (by kernel_rfl) (by kernel_rfl) (fun _ _ _ h => h) ⟨Or.inl ⟨by rfl, ?_⟩, fun _ => rfl⟩ ?_
        rotate_left
        · intro w'
          go_simp
          try with_reducible rfl
        refine wpAnyIn_take (i := 4) (v := ?_) rfl rfl (by kernel_rfl) (by kernel_rfl) (by kernel_rfl) (fun _ _ _ h => h) ⟨Or.inl ⟨by rfl, ?_⟩, fun _ => rfl⟩ ?_
        rotate_left
        · intro w'
          go_simp
          try with_reducible rfl
        refine wpAnyIn_ready (rs := [5]) (by kernel_rfl) (by simp) ?_
        refine AllReadyIn.cons rfl (fun K hK => ?_) AllReadyIn.nil
        go_simp
        refine hK _ _ ?_
        clear hK K
        refine wpAnyIn_take (i := 11) (v := ?_) rfl rfl (by kernel_rfl) (by kernel_rfl) (by kernel_rfl) (fun _ _ _ h => h) ⟨Or.inl ⟨by rfl, ?_⟩, fun _ => rfl⟩ ?_
        rotate_left
        · intro w'
          go_simp
          try with_reducible rfl
        refine wpAnyIn_ready (rs := [12]) (by kernel_rfl) (by simp) ?_
        refine AllReadyIn.cons rfl (fun K hK => ?_) AllReadyIn.nil
        go_simp
        gi_wp2_with (first | (refine HR.out.mono ?_; rintro e W3 he; obtain ⟨bo, rfl, hp⟩ := two_ways he))
        cases bo with
        | true =>
          have hp1 : J (pre ++ [⟨k, hlt⟩]) W3 ∧ Kp wr.drew W3 := by simpa using hp.out
          clear hp hy
          refine wpAnyIn_take (i := 13) (v := ?_) rfl rfl (by kernel_rfl) (by kernel_rfl) (by kernel_rfl) (fun _ _ _ h => h) ⟨Or.inl ⟨by rfl, ?_⟩, fun _ => rfl⟩ ?_
          rotate_left
          · intro w'
            go_simp
            try with_reducible rfl
          refine wpAnyIn_done (by kernel_rfl) ?_ _
          gi_wp2
          go_roundw
          case rel =>
            refine ⟨k + 1, pre ++ [⟨k, hlt⟩], by omega, by first | (congr 1; done) | (congr 1; omega), Lib.hid ?_, hp1.1, hG.keep _ _ hG1 hp1.2⟩
            rw [List.map_append, HP.out, List.range'_concat]
            simp
          case measure => simp [intOf]; omega
        | false =>
          have hp1 : Jx (pre ++ [⟨k, hlt⟩]) W3 := by simpa using hp.out
          clear hp hy
          refine wpAnyIn_take (i := 13) (v := ?_) rfl rfl (by kernel_rfl) (by kernel_rfl) (by kernel_rfl) (fun _ _ _ h => h) ⟨Or.inl ⟨by rfl, ?_⟩, fun _ => rfl⟩ ?_
          rotate_left
          · intro w'
            go_simp
            try with_reducible rfl
          refine wpAnyIn_done (by kernel_rfl) ?_ _
          gi_wp2
          refine bodyPost_ret (results_none rfl _ _ _) rfl ?_
          refine ⟨⟨_, rfl⟩, .inr ⟨_, ?_, hp1⟩⟩
          have hpl2 : pre.length = k := by
            have := congrArg List.length HP.out
            simpa using this
          rw [List.map_append, HP.out, List.length_append, hpl2, List.length_cons, List.length_nil, List.range'_concat]
          simp
      · go_simp
        refine hK _ _ ?_
        clear hK K
        refine wpAnyIn_take (i := 11) (v := ?_) rfl rfl (by kernel_rfl) (by kernel_rfl) (by kernel_rfl) (fun _ _ _ h => h) ⟨Or.inl ⟨by rfl, ?_⟩, fun _ => rfl⟩ ?_
        rotate_left
        · intro w'
          go_simp
          try with_reducible rfl
        refine wpAnyIn_ready (rs := [1]) (by kernel_rfl) (by simp) ?_
        refine AllReadyIn.cons rfl (fun K hK => ?_) AllReadyIn.nil
        go_simp
        refine hK _ _ ?_
        clear hK K
        refine wpAnyIn_take (i := 2) (v := ?_) rfl rfl (by kernel_rfl) (by kernel_rfl) (by kernel_rfl) (fun _ _ _ h => h) ⟨Or.inl ⟨by rfl, ?_⟩, fun _ => rfl⟩ ?_
        rotate_left
        · intro w'
          go_simp
          try with_reducible rfl
        refine wpAnyIn_take (i := 4) (v := ?_) rfl rfl (by kernel_rfl) (by kernel_rfl) (by kernel_rfl) (fun _ _ _ h => h) ⟨Or.inl ⟨by rfl, ?_⟩, fun _ => rfl⟩ ?_
        rotate_left
        · intro w'
          go_simp
          try with_reducible rfl
        refine wpAnyIn_ready (rs := [12]) (by kernel_rfl) (by simp) ?_
        refine AllReadyIn.cons rfl (fun K hK => ?_) AllReadyIn.nil
        go_simp
        gi_wp2_with (first | (refine HR.out.mono ?_; rintro e W3 he; obtain ⟨bo, rfl, hp⟩ := two_ways he))
        cases bo with
        | true =>
          have hp1 : J (pre ++ [⟨k, hlt⟩]) W3 ∧ Kp wr.drew W3 := by simpa using hp.out
          clear hp hy
          refine wpAnyIn_take (i := 13) (v := ?_) rfl rfl (by kernel_rfl) (by kernel_rfl) (by kernel_rfl) (fun _ _ _ h => h) ⟨Or.inl ⟨by rfl, ?_⟩, fun _ => rfl⟩ ?_
          rotate_left
          · intro w'
            go_simp
            try with_reducible rfl
          refine wpAnyIn_done (by kernel_rfl) ?_ _
          gi_wp2
          go_roundw
          case rel =>
            refine ⟨k + 1, pre ++ [⟨k, hlt⟩], by omega, by first | (congr 1; done) | (congr 1; omega), Lib.hid ?_, hp1.1, hG.keep _ _ hG1 hp1.2⟩
            rw [List.map_append, HP.out, List.range'_concat]
            simp
          case measure => simp [intOf]; omega
        | false =>
          have hp1 : Jx (pre ++ [⟨k, hlt⟩]) W3 := by simpa using hp.out
          clear hp hy
          refine wpAnyIn_take (i := 13) (v := ?_) rfl rfl (by kernel_rfl) (by kernel_rfl) (by kernel_rfl) (fun _ _ _ h => h) ⟨Or.inl ⟨by rfl, ?_⟩, fun _ => rfl⟩ ?_
          rotate_left
          · intro w'
            go_simp
            try with_reducible rfl
          refine wpAnyIn_done (by kernel_rfl) ?_ _
          gi_wp2
          refine bodyPost_ret (results_none rfl _ _ _) rfl ?_
          refine ⟨⟨_, rfl⟩, .inr ⟨_, ?_, hp1⟩⟩
          have hpl2 : pre.length = k := by
            have := congrArg List.length HP.out
            simpa using this
          rw [List.map_append, HP.out, List.length_append, hpl2, List.length_cons, List.length_nil, List.range'_concat]
          simp
    · obtain rfl : k = 2 := by omega
      gi_wp2
      all_goals
        go_end0
        exact ⟨⟨_, rfl⟩, .inl ⟨pre, HP.out, hJs⟩⟩
end Go.Proofs.Ythcafgjcgikgpaa.Given
