/- What (*Alloc).round goes over: the groups, from one on, round. -/
import Derived.Test.YtppjeikkodjjhaaSteps
import Derived.Test.YtppjeikkodjjhaaA2
namespace Go.Proofs.Ytppjeikkodjjhaa.Given
open Go.RowKit Go.Shelf Go.Proofs.YtppjeikkodjjhaaW.PrintWords Go.Proofs.YtppjeikkodjjhaaW.PrintLast Go.Proofs.YtppjeikkodjjhaaW.PrintMore Go.Proofs.YtppjeikkodjjhaaBase Go.Proofs.Ytppjeikkodjjhaa.PGeo Go.Proofs.Ytppjeikkodjjhaa.PGet Go.Proofs.Ytppjeikkodjjhaa.PWith
set_option linter.unusedVariables false
set_option linter.unusedSimpArgs false
attribute [local go_sem] Oper.semAt_some

theorem two_ways {e : Ending} {p q : Prop} (h : (e = .returned (.bool true) ∧ p) ∨ (e = .returned (.bool false) ∧ q)) : ∃ bo : Bool, e = .returned (.bool bo) ∧ Hid ((bo = true ∧ p) ∨ (bo = false ∧ q)) := by
  rcases h with ⟨h, hp⟩ | ⟨h, hq⟩
  · exact ⟨true, h, Lib.hid (.inl ⟨rfl, hp⟩)⟩
  · exact ⟨false, h, Lib.hid (.inr ⟨rfl, hq⟩)⟩

set_option maxRecDepth 100000 in
set_option maxHeartbeats 8000000 in
theorem round1_in (m : Nat) (hm : 1 ≤ m) (lr Bf Ba g n c : Nat) (A : Option Addr) (from0 : Int) (hn : n ≤ 1000)
    (G : World → Prop) (Kp : World → World → Prop) (hG : RoundG Bf Ba g n c A G Kp)
    (J Jx : List (Fin n) → World → Prop) (hJw : ∀ p A B, J p A → WrF Bf A B → J p B)
    (hY : ∀ pre x W, J pre W → pre.length < n → YieldAt Fence.wide (m - 1) Try.prog lr (encG x) W fun e W' =>
      (e = .returned (.bool true) ∧ J (pre ++ [x]) W' ∧ Kp W W') ∨ (e = .returned (.bool false) ∧ Jx (pre ++ [x]) W' ∧ Kp W W'))
    (W : World) (hGW : G W) (hBf : Boxed W Bf 3 (.int .i64 from0)) (hJ : AbidesFrom W.heap.size J) (h0 : J [] W) :
    CallsIn Fence.wide m Try.prog 40 #[.func (.yield lr) #[] #[], .pointer (some ⟨Bf, 0, none⟩), .pointer (some ⟨Ba, 0, none⟩)] W fun e W' => (∃ v, e = .returned v) ∧
      ((∃ ys, ys.map Fin.val = roundL n from0 n ∧ J ys W') ∨ (∃ pre : List (Fin n), (∃ q, q < n ∧ pre.map Fin.val = roundL n from0 (q + 1)) ∧ Jx pre W')) := by
  have hY' : ∀ pre x W, J pre W → pre.length < n → YieldAt Fence.wide (m - 1) Try.prog lr (encG x) W fun e W' =>
      (e = .returned (.bool true) ∧ J (pre ++ [x]) W' ∧ Kp W W') ∨ (e = .returned (.bool false) ∧ Jx (pre ++ [x]) W') := fun pre x W h1 h2 => by
    obtain ⟨fn, tmps, assign, body, hy, hR⟩ := hY pre x W h1 h2
    exact ⟨fn, tmps, assign, body, hy, hR.mono (fun e W' h => h.imp id (fun h => ⟨h.1, h.2.1⟩))⟩
  refine callsIn_of_wp Try.func40 rfl trivial ?_ rfl
  simp only [Try.ntmps40, List.size_toArray, List.length_cons, List.length_nil, Nat.reduceAdd, Nat.reduceSub, Array.replicate_succ, Array.replicate_zero, List.push_toArray, List.append_toArray, List.nil_append, List.cons_append]
  have hGd : G W.drew := hG.d _ 1 hGW
  have hS0 : W.drew.cell? ⟨Bf, 0, none⟩ = some (.int .i64 from0) ∧ W.drew.cell? ⟨Ba, 0, none⟩ = some (.pointer (some ⟨g, 0, none⟩)) ∧ W.drew.cell? ⟨g, 3, none⟩ = some (.slice A n c) := ⟨hBf.cell, hG.a _ hGd, hG.h _ hGd⟩
  have hJd : J [] W.drew := abides_drewN hJ h0 1
  have HBd : Hid (Boxed W.drew Bf 3 (.int .i64 from0)) := Lib.hid hBf
  have hfz := hBf.frozen
  have HJ := Lib.hid hJ
  have hJs' : ∀ p V, J p V → J p V.drew := fun p V h => abides_drewN HJ.out h 1
  clear hJ hY
  have hA := hG.a _ hGW
  have hH := hG.h _ hGW
  have hn1 : ¬ (Ba = Bf) := fun e => by
    rw [e, hBf.cell] at hA
    cases hA
  have hn2 : ¬ (g = Bf) := fun e => by
    have h5 := blk_cell hBf 3
    rw [e, h5] at hH
    cases hH
  have hn3 : ¬ (Bf = Ba) := fun e => hn1 e.symm
  have hn4 : ¬ (Bf = g) := fun e => hn2 e.symm
  by_cases hneg : from0 < 0
  · have t1 : decide (from0 < 0) = true := decide_eq_true hneg
    obtain ⟨f, hfe⟩ : ∃ f : Nat, 0 = f := ⟨0, rfl⟩
    have hf0 : 0 < n → fromOf n from0 = f := fun _ => by unfold fromOf; rw [if_neg (by omega)]; exact hfe
    have HF0 := Lib.hid hf0
    have HFE := Lib.hid hfe
    clear hf0 hfe
    gi_wp2
    refine region_in_wide (by kernel_rfl) (by kernel_rfl) (by rintro ⟨_, _, hx⟩; have hx2 : (∃ v, Ending.outgrown = Ending.returned v) ∧ _ := hx; obtain ⟨⟨v, hv⟩, _⟩ := hx2; cases hv) (wpAny_of_last (S := fun w' => w'.cell? ⟨Bf, 0, none⟩ = some (.int .i64 from0) ∧ w'.cell? ⟨Ba, 0, none⟩ = some (.pointer (some ⟨g, 0, none⟩)) ∧ w'.cell? ⟨g, 3, none⟩ = some (.slice A n c)) (ds := []) 11 #[false, false, false, false, false, false, false, false, false, false, false] _ _ ?_)
    have hHeld := hS0
    refine tk3_ 0 (some 5) (bm 11 1) hHeld ?_
    refine pu_ 1 (some 6) (bm 11 3) ?_
    refine pu_ 2 (some 7) (bm 11 7) ?_
    refine pure_ (i := 3) (N := some 8) (v := undef) (a' := ?_) (bm 11 15) rfl rfl (by kernel_rfl) (fun _ _ _ h => h) (Or.inr ⟨by rfl, rfl⟩) ?_ ?_
    rotate_left
    · simp only [Act.put, List.setIfInBounds_toArray, List.set_cons_zero, List.set_cons_succ, i64_w, i32_w]
      rfl
    refine pure_ (i := 4) (N := some 9) (v := undef) (a' := ?_) (bm 11 31) rfl rfl (by kernel_rfl) (fun _ _ _ h => h) (Or.inr ⟨by rfl, rfl⟩) ?_ ?_
    rotate_left
    · simp only [Act.put, List.setIfInBounds_toArray, List.set_cons_zero, List.set_cons_succ, i64_w, i32_w]
      rfl
    refine pure_ (i := 5) (N := some 10) (v := undef) (a' := ?_) (bm 11 63) rfl rfl (by kernel_rfl) (fun _ _ _ h => h) (Or.inr ⟨by rfl, rfl⟩) ?_ ?_
    rotate_left
    · simp only [Act.put, List.setIfInBounds_toArray, List.set_cons_zero, List.set_cons_succ, i64_w, i32_w]
      rfl
    refine pure_ (i := 6) (N := some 11) (v := undef) (a' := ?_) (bm 11 127) rfl rfl (by kernel_rfl) (fun _ _ _ h => h) (Or.inr ⟨by rfl, rfl⟩) ?_ ?_
    rotate_left
    · simp only [Act.put, List.setIfInBounds_toArray, List.set_cons_zero, List.set_cons_succ, i64_w, i32_w]
      rfl
    refine pure_ (i := 7) (N := some 12) (v := undef) (a' := ?_) (bm 11 255) rfl rfl (by kernel_rfl) (fun _ _ _ h => h) (Or.inr ⟨by rfl, rfl⟩) ?_ ?_
    rotate_left
    · simp only [Act.put, List.setIfInBounds_toArray, List.set_cons_zero, List.set_cons_succ, i64_w, i32_w]
      rfl
    refine pure_ (i := 8) (N := some 13) (v := undef) (a' := ?_) (bm 11 511) rfl rfl (by kernel_rfl) (fun _ _ _ h => h) (Or.inr ⟨by rfl, rfl⟩) ?_ ?_
    rotate_left
    · simp only [Act.put, List.setIfInBounds_toArray, List.set_cons_zero, List.set_cons_succ, i64_w, i32_w]
      rfl
    refine pure_ (i := 9) (N := some 14) (v := undef) (a' := ?_) (bm 11 1023) rfl rfl (by kernel_rfl) (fun _ _ _ h => h) (Or.inr ⟨by rfl, rfl⟩) ?_ ?_
    rotate_left
    · simp only [Act.put, List.setIfInBounds_toArray, List.set_cons_zero, List.set_cons_succ, i64_w, i32_w]
      rfl
    refine pu_ 10 (some 15) (bm 11 2047) ?_
    refine done_ (by kernel_rfl) ?_
    gi_wp2
    have HB1 : Hid (Boxed (W.drew.setCell ⟨Bf, 0, none⟩ (.int .i64 0)) Bf 3 (.int .i64 ((f : Nat) : Int))) := Lib.hid (by rw [← HFE.out]; exact HBd.out.set _)
    have hG0 := hG.set _ (.int .i64 0) hGd
    have hJ0 := hJw _ _ _ hJd ⟨0, rfl⟩
    gi_loopw [21] (fun i wr => ∃ (k : Nat) (pre : List (Fin n)), k ≤ n ∧ i = .int .i64 (k : Int) ∧ Hid (pre.map Fin.val = roundL n from0 k) ∧ J pre wr ∧ G wr ∧ Hid (Boxed wr Bf 3 (.int .i64 ((f : Nat) : Int)))) (fun i _ => n - (intOf i).toNat)
    case atStart => exact ⟨0, [], Nat.zero_le _, rfl, Lib.hid rfl, hJ0, hG0, HB1⟩
    case round =>
      obtain ⟨k, pre, hk, rfl, HP, hJs, hnx, HBF0⟩ := hrel
      by_cases hlt : k < n
      · have hkl : (k : Int) < (n : Int) := by omega
        have hpl : pre.length < n := by
          have := congrArg List.length HP.out
          rw [List.length_map, roundL_length] at this
          omega
        have hB1 := HBF0.out.cell
        have hB2 := hG.a wr hnx
        have hB3 := hG.h wr hnx
        have hd1 : J pre wr.drew := hJs' _ _ hJs
        have hG1 : G wr.drew := hG.d wr 1 hnx
        have HBF : Hid (wr.drew.heap[Bf]? = some (.cells #[.int .i64 ((f : Nat) : Int)] 3 (0, 0))) := Lib.hid HBF0.out
        obtain ⟨x, hx⟩ : ∃ x : Fin n, x.val = (f + k) % n := ⟨⟨_, Nat.mod_lt _ (by omega)⟩, rfl⟩
        have HX : Hid ((fromOf n from0 + k) % n = x.val) := Lib.hid (by rw [hx, HF0.out (by omega)])
        have hfl : f < n := by rw [← HF0.out (by omega)]; exact fromOf_lt n _ (by omega)
        obtain ⟨fn, tmps, assign, body, hy, hR⟩ := hY' pre x wr.drew hd1 hpl
        have hmod : Int.tmod (((f : Nat) : Int) + (k : Int)) (n : Int) = (x.val : Int) := by rw [Int.tmod_eq_emod_of_nonneg (by omega), hx]; simp
        have hn0 : ¬ (n = 0) := by omega
        have HR := Lib.hid hR
        clear hR hx
        gi_wp2
        have u1 : IntKind.i64.wrap (((f : Nat) : Int) + (k : Int)) = ((f : Nat) : Int) + (k : Int) := by rw [i64_w]; unfold wrap64; omega
        refine wpIn_region_any (by kernel_rfl) ?_
        try (change wpAnyIn _ _ _ _ _ _ _ _ _ (World.drew _))
        refine wpAnyIn_take (i := 0) (v := ?_) rfl rfl (by kernel_rfl) (by kernel_rfl) (by kernel_rfl) (fun _ _ _ h => h) ⟨Or.inl ⟨by rfl, ?_⟩, fun _ => rfl⟩ ?_
        rotate_left
        · intro w'
          go_simp
          try with_reducible rfl
        refine wpAnyIn_take (i := 2) (v := ?_) rfl rfl (by kernel_rfl) (by kernel_rfl) (by kernel_rfl) (fun _ _ _ h => h) ⟨Or.inl ⟨by rfl, ?_⟩, fun _ => rfl⟩ ?_
        rotate_left
        · intro w'
          go_simp
          try with_reducible rfl
        refine wpAnyIn_ready (rs := [1, 4]) (by kernel_rfl) (by simp) ?_
        refine AllReadyIn.cons rfl (fun K hK => ?_) (AllReadyIn.cons rfl (fun K hK => ?_) AllReadyIn.nil)
        · go_simp
          refine hK _ _ ?_
          clear hK K
          refine wpAnyIn_take (i := 3) (v := ?_) rfl rfl (by kernel_rfl) (by kernel_rfl) (by kernel_rfl) (fun _ _ _ h => h) ⟨Or.inl ⟨by rfl, ?_⟩, fun _ => rfl⟩ ?_
          rotate_left
          · intro w'
            go_simp
            try with_reducible rfl
          refine wpAnyIn_ready (rs := [4]) (by kernel_rfl) (by simp) ?_
          refine AllReadyIn.cons rfl (fun K hK => ?_) AllReadyIn.nil
          go_simp
          refine hK _ _ ?_
          clear hK K
          refine wpAnyIn_take (i := 5) (v := ?_) rfl rfl (by kernel_rfl) (by kernel_rfl) (by kernel_rfl) (fun _ _ _ h => h) ⟨Or.inl ⟨by rfl, ?_⟩, fun _ => rfl⟩ ?_
          rotate_left
          · intro w'
            go_simp
            try with_reducible rfl
          refine wpAnyIn_take (i := 6) (v := ?_) rfl rfl (by kernel_rfl) (by kernel_rfl) (by kernel_rfl) (fun _ _ _ h => h) ⟨Or.inl ⟨by rfl, ?_⟩, fun _ => rfl⟩ ?_
          rotate_left
          · intro w'
            go_simp
            try with_reducible rfl
          refine wpAnyIn_ready (rs := [7]) (by kernel_rfl) (by simp) ?_
          refine AllReadyIn.cons rfl (fun K hK => ?_) AllReadyIn.nil
          go_simp
          refine hK _ _ ?_
          clear hK K
          refine wpAnyIn_take (i := 8) (v := ?_) rfl rfl (by kernel_rfl) (by kernel_rfl) (by kernel_rfl) (fun _ _ _ h => h) ⟨Or.inl ⟨by rfl, ?_⟩, fun _ => rfl⟩ ?_
          rotate_left
          · intro w'
            go_simp
            try with_reducible rfl
          refine wpAnyIn_take (i := 9) (v := ?_) rfl rfl (by kernel_rfl) (by kernel_rfl) (by kernel_rfl) (fun _ _ _ h => h) ⟨Or.inl ⟨by rfl, ?_⟩, fun _ => rfl⟩ ?_
          rotate_left
          · intro w'
            go_simp
            try with_reducible rfl
          refine wpAnyIn_ready (rs := [10]) (by kernel_rfl) (by simp) ?_
          refine AllReadyIn.cons rfl (fun K hK => ?_) AllReadyIn.nil
          go_simp
          gi_wp2_with (first | (refine HR.out.mono ?_; rintro e W3 he; obtain ⟨bo, rfl, hp⟩ := two_ways he))
          cases bo with
          | true =>
            have hp1 : J (pre ++ [x]) W3 ∧ Kp wr.drew W3 := by simpa using hp.out
            clear hp hy
            refine wpAnyIn_take (i := 11) (v := ?_) rfl rfl (by kernel_rfl) (by kernel_rfl) (by kernel_rfl) (fun _ _ _ h => h) ⟨Or.inl ⟨by rfl, ?_⟩, fun _ => rfl⟩ ?_
            rotate_left
            · intro w'
              go_simp
              try with_reducible rfl
            refine wpAnyIn_done (by kernel_rfl) ?_ _
            gi_wp2
            go_roundw
            case rel =>
              refine ⟨k + 1, pre ++ [x], by omega, by first | (congr 1; done) | (congr 1; omega), Lib.hid ?_, hp1.1, hG.keep _ _ hG1 hp1.2, Lib.hid ((hG.frm _ _ hp1.2).trans HBF.out)⟩
              rw [List.map_append, HP.out, roundL_snoc]
              simp [HX.out]
            case measure => simp [intOf]; omega
          | false =>
            have hp1 : Jx (pre ++ [x]) W3 := by simpa using hp.out
            clear hp hy
            refine wpAnyIn_take (i := 11) (v := ?_) rfl rfl (by kernel_rfl) (by kernel_rfl) (by kernel_rfl) (fun _ _ _ h => h) ⟨Or.inl ⟨by rfl, ?_⟩, fun _ => rfl⟩ ?_
            rotate_left
            · intro w'
              go_simp
              try with_reducible rfl
            refine wpAnyIn_done (by kernel_rfl) ?_ _
            gi_wp2
            refine bodyPost_ret (results_none rfl _ _ _) rfl ?_
            refine ⟨⟨_, rfl⟩, .inr ⟨pre ++ [x], ?_, hp1⟩⟩
            refine ⟨k, hlt, ?_⟩
            rw [List.map_append, HP.out, roundL_snoc]
            simp [HX.out]
        · go_simp
          refine hK _ _ ?_
          clear hK K
          refine wpAnyIn_take (i := 5) (v := ?_) rfl rfl (by kernel_rfl) (by kernel_rfl) (by kernel_rfl) (fun _ _ _ h => h) ⟨Or.inl ⟨by rfl, ?_⟩, fun _ => rfl⟩ ?_
          rotate_left
          · intro w'
            go_simp
            try with_reducible rfl
          refine wpAnyIn_take (i := 6) (v := ?_) rfl rfl (by kernel_rfl) (by kernel_rfl) (by kernel_rfl) (fun _ _ _ h => h) ⟨Or.inl ⟨by rfl, ?_⟩, fun _ => rfl⟩ ?_
          rotate_left
          · intro w'
            go_simp
            try with_reducible rfl
          refine wpAnyIn_ready (rs := [1, 7]) (by kernel_rfl) (by simp) ?_
          refine AllReadyIn.cons rfl (fun K hK => ?_) (AllReadyIn.cons rfl (fun K hK => ?_) AllReadyIn.nil)
          · go_simp
            refine hK _ _ ?_
            clear hK K
            refine wpAnyIn_take (i := 3) (v := ?_) rfl rfl (by kernel_rfl) (by kernel_rfl) (by kernel_rfl) (fun _ _ _ h => h) ⟨Or.inl ⟨by rfl, ?_⟩, fun _ => rfl⟩ ?_
            rotate_left
            · intro w'
              go_simp
              try with_reducible rfl
            refine wpAnyIn_ready (rs := [7]) (by kernel_rfl) (by simp) ?_
            refine AllReadyIn.cons rfl (fun K hK => ?_) AllReadyIn.nil
            go_simp
            refine hK _ _ ?_
            clear hK K
            refine wpAnyIn_take (i := 8) (v := ?_) rfl rfl (by kernel_rfl) (by kernel_rfl) (by kernel_rfl) (fun _ _ _ h => h) ⟨Or.inl ⟨by rfl, ?_⟩, fun _ => rfl⟩ ?_
            rotate_left
            · intro w'
              go_simp
              try with_reducible rfl
            refine wpAnyIn_take (i := 9) (v := ?_) rfl rfl (by kernel_rfl) (by kernel_rfl) (by kernel_rfl) (fun _ _ _ h => h) ⟨Or.inl ⟨by rfl, ?_⟩, fun _ => rfl⟩ ?_
            rotate_left
            · intro w'
              go_simp
              try with_reducible rfl
            refine wpAnyIn_ready (rs := [10]) (by kernel_rfl) (by simp) ?_
            refine AllReadyIn.cons rfl (fun K hK => ?_) AllReadyIn.nil
            go_simp
            gi_wp2_with (first | (refine HR.out.mono ?_; rintro e W3 he; obtain ⟨bo, rfl, hp⟩ := two_ways he))
            cases bo with
            | true =>
              have hp1 : J (pre ++ [x]) W3 ∧ Kp wr.drew W3 := by simpa using hp.out
              clear hp hy
              refine wpAnyIn_take (i := 11) (v := ?_) rfl rfl (by kernel_rfl) (by kernel_rfl) (by kernel_rfl) (fun _ _ _ h => h) ⟨Or.inl ⟨by rfl, ?_⟩, fun _ => rfl⟩ ?_
              rotate_left
              · intro w'
                go_simp
                try with_reducible rfl
              refine wpAnyIn_done (by kernel_rfl) ?_ _
              gi_wp2
              go_roundw
              case rel =>
                refine ⟨k + 1, pre ++ [x], by omega, by first | (congr 1; done) | (congr 1; omega), Lib.hid ?_, hp1.1, hG.keep _ _ hG1 hp1.2, Lib.hid ((hG.frm _ _ hp1.2).trans HBF.out)⟩
                rw [List.map_append, HP.out, roundL_snoc]
                simp [HX.out]
              case measure => simp [intOf]; omega
            | false =>
              have hp1 : Jx (pre ++ [x]) W3 := by simpa using hp.out
              clear hp hy
              refine wpAnyIn_take (i := 11) (v := ?_) rfl rfl (by kernel_rfl) (by kernel_rfl) (by kernel_rfl) (fun _ _ _ h => h) ⟨Or.inl ⟨by rfl, ?_⟩, fun _ => rfl⟩ ?_
              rotate_left
              · intro w'
                go_simp
                try with_reducible rfl
              refine wpAnyIn_done (by kernel_rfl) ?_ _
              gi_wp2
              refine bodyPost_ret (results_none rfl _ _ _) rfl ?_
              refine ⟨⟨_, rfl⟩, .inr ⟨pre ++ [x], ?_, hp1⟩⟩
              refine ⟨k, hlt, ?_⟩
              rw [List.map_append, HP.out, roundL_snoc]
              simp [HX.out]
          · go_simp
            refine hK _ _ ?_
            clear hK K
            refine wpAnyIn_take (i := 8) (v := ?_) rfl rfl (by kernel_rfl) (by kernel_rfl) (by kernel_rfl) (fun _ _ _ h => h) ⟨Or.inl ⟨by rfl, ?_⟩, fun _ => rfl⟩ ?_
            rotate_left
            · intro w'
              go_simp
              try with_reducible rfl
            refine wpAnyIn_ready (rs := [1]) (by kernel_rfl) (by simp) ?_
            refine AllReadyIn.cons rfl (fun K hK => ?_) AllReadyIn.nil
            go_simp
            refine hK _ _ ?_
            clear hK K
            refine wpAnyIn_take (i := 3) (v := ?_) rfl rfl (by kernel_rfl) (by kernel_rfl) (by kernel_rfl) (fun _ _ _ h => h) ⟨Or.inl ⟨by rfl, ?_⟩, fun _ => rfl⟩ ?_
            rotate_left
            · intro w'
              go_simp
              try with_reducible rfl
            refine wpAnyIn_take (i := 9) (v := ?_) rfl rfl (by kernel_rfl) (by kernel_rfl) (by kernel_rfl) (fun _ _ _ h => h) ⟨Or.inl ⟨by rfl, ?_⟩, fun _ => rfl⟩ ?_
            rotate_left
            · intro w'
              go_simp
              try with_reducible rfl
            refine wpAnyIn_ready (rs := [10]) (by kernel_rfl) (by simp) ?_
            refine AllReadyIn.cons rfl (fun K hK => ?_) AllReadyIn.nil
            go_simp
            gi_wp2_with (first | (refine HR.out.mono ?_; rintro e W3 he; obtain ⟨bo, rfl, hp⟩ := two_ways he))
            cases bo with
            | true =>
              have hp1 : J (pre ++ [x]) W3 ∧ Kp wr.drew W3 := by simpa using hp.out
              clear hp hy
              refine wpAnyIn_take (i := 11) (v := ?_) rfl rfl (by kernel_rfl) (by kernel_rfl) (by kernel_rfl) (fun _ _ _ h => h) ⟨Or.inl ⟨by rfl, ?_⟩, fun _ => rfl⟩ ?_
              rotate_left
              · intro w'
                go_simp
                try with_reducible rfl
              refine wpAnyIn_done (by kernel_rfl) ?_ _
              gi_wp2
              go_roundw
              case rel =>
                refine ⟨k + 1, pre ++ [x], by omega, by first | (congr 1; done) | (congr 1; omega), Lib.hid ?_, hp1.1, hG.keep _ _ hG1 hp1.2, Lib.hid ((hG.frm _ _ hp1.2).trans HBF.out)⟩
                rw [List.map_append, HP.out, roundL_snoc]
                simp [HX.out]
              case measure => simp [intOf]; omega
            | false =>
              have hp1 : Jx (pre ++ [x]) W3 := by simpa using hp.out
              clear hp hy
              refine wpAnyIn_take (i := 11) (v := ?_) rfl rfl (by kernel_rfl) (by kernel_rfl) (by kernel_rfl) (fun _ _ _ h => h) ⟨Or.inl ⟨by rfl, ?_⟩, fun _ => rfl⟩ ?_
              rotate_left
              · intro w'
                go_simp
                try with_reducible rfl
              refine wpAnyIn_done (by kernel_rfl) ?_ _
              gi_wp2
              refine bodyPost_ret (results_none rfl _ _ _) rfl ?_
              refine ⟨⟨_, rfl⟩, .inr ⟨pre ++ [x], ?_, hp1⟩⟩
              refine ⟨k, hlt, ?_⟩
              rw [List.map_append, HP.out, roundL_snoc]
              simp [HX.out]
      · obtain rfl : k = n := by omega
        gi_wp2
        all_goals
          go_end0
          exact ⟨⟨_, rfl⟩, .inl ⟨pre, HP.out, hJs⟩⟩
  · have t1 : decide (from0 < 0) = false := decide_eq_false hneg
    by_cases hge : from0 ≥ (n : Int)
    · have t2 : decide (from0 ≥ (n : Int)) = true := decide_eq_true hge
      have t3 : decide ((n : Int) ≤ from0) = true := decide_eq_true hge
      obtain ⟨f, hfe⟩ : ∃ f : Nat, 0 = f := ⟨0, rfl⟩
      have hf0 : 0 < n → fromOf n from0 = f := fun _ => by unfold fromOf; rw [if_neg (by omega)]; exact hfe
      have HF0 := Lib.hid hf0
      have HFE := Lib.hid hfe
      clear hf0 hfe
      gi_wp2
      refine region_in_wide (by kernel_rfl) (by kernel_rfl) (by rintro ⟨_, _, hx⟩; have hx2 : (∃ v, Ending.outgrown = Ending.returned v) ∧ _ := hx; obtain ⟨⟨v, hv⟩, _⟩ := hx2; cases hv) (wpAny_of_last (S := fun w' => w'.cell? ⟨Bf, 0, none⟩ = some (.int .i64 from0) ∧ w'.cell? ⟨Ba, 0, none⟩ = some (.pointer (some ⟨g, 0, none⟩)) ∧ w'.cell? ⟨g, 3, none⟩ = some (.slice A n c)) (ds := []) 11 #[false, false, false, false, false, false, false, false, false, false, false] _ _ ?_)
      have hHeld := hS0
      refine tk3_ 0 (some 5) (bm 11 1) hHeld ?_
      refine pu_ 1 (some 6) (bm 11 3) ?_
      refine pu_ 2 (some 7) (bm 11 7) ?_
      refine tk3_ 3 (some 8) (bm 11 15) hHeld ?_
      refine tk3_ 4 (some 9) (bm 11 31) hHeld ?_
      refine pu_ 5 (some 10) (bm 11 63) ?_
      refine pu_ 6 (some 11) (bm 11 127) ?_
      refine tk3_ 7 (some 12) (bm 11 255) hHeld ?_
      refine pu_ 8 (some 13) (bm 11 511) ?_
      refine pu_ 9 (some 14) (bm 11 1023) ?_
      refine pu_ 10 (some 15) (bm 11 2047) ?_
      refine done_ (by kernel_rfl) ?_
      gi_wp2
      have HB1 : Hid (Boxed (W.drew.setCell ⟨Bf, 0, none⟩ (.int .i64 0)) Bf 3 (.int .i64 ((f : Nat) : Int))) := Lib.hid (by rw [← HFE.out]; exact HBd.out.set _)
      have hG0 := hG.set _ (.int .i64 0) hGd
      have hJ0 := hJw _ _ _ hJd ⟨0, rfl⟩
      gi_loopw [21] (fun i wr => ∃ (k : Nat) (pre : List (Fin n)), k ≤ n ∧ i = .int .i64 (k : Int) ∧ Hid (pre.map Fin.val = roundL n from0 k) ∧ J pre wr ∧ G wr ∧ Hid (Boxed wr Bf 3 (.int .i64 ((f : Nat) : Int)))) (fun i _ => n - (intOf i).toNat)
      case atStart => exact ⟨0, [], Nat.zero_le _, rfl, Lib.hid rfl, hJ0, hG0, HB1⟩
      case round =>
        obtain ⟨k, pre, hk, rfl, HP, hJs, hnx, HBF0⟩ := hrel
        by_cases hlt : k < n
        · have hkl : (k : Int) < (n : Int) := by omega
          have hpl : pre.length < n := by
            have := congrArg List.length HP.out
            rw [List.length_map, roundL_length] at this
            omega
          have hB1 := HBF0.out.cell
          have hB2 := hG.a wr hnx
          have hB3 := hG.h wr hnx
          have hd1 : J pre wr.drew := hJs' _ _ hJs
          have hG1 : G wr.drew := hG.d wr 1 hnx
          have HBF : Hid (wr.drew.heap[Bf]? = some (.cells #[.int .i64 ((f : Nat) : Int)] 3 (0, 0))) := Lib.hid HBF0.out
          obtain ⟨x, hx⟩ : ∃ x : Fin n, x.val = (f + k) % n := ⟨⟨_, Nat.mod_lt _ (by omega)⟩, rfl⟩
          have HX : Hid ((fromOf n from0 + k) % n = x.val) := Lib.hid (by rw [hx, HF0.out (by omega)])
          have hfl : f < n := by rw [← HF0.out (by omega)]; exact fromOf_lt n _ (by omega)
          obtain ⟨fn, tmps, assign, body, hy, hR⟩ := hY' pre x wr.drew hd1 hpl
          have hmod : Int.tmod (((f : Nat) : Int) + (k : Int)) (n : Int) = (x.val : Int) := by rw [Int.tmod_eq_emod_of_nonneg (by omega), hx]; simp
          have hn0 : ¬ (n = 0) := by omega
          have HR := Lib.hid hR
          clear hR hx
          gi_wp2
          have u1 : IntKind.i64.wrap (((f : Nat) : Int) + (k : Int)) = ((f : Nat) : Int) + (k : Int) := by rw [i64_w]; unfold wrap64; omega
          refine wpIn_region_any (by kernel_rfl) ?_
          try (change wpAnyIn _ _ _ _ _ _ _ _ _ (World.drew _))
          refine wpAnyIn_take (i := 0) (v := ?_) rfl rfl (by kernel_rfl) (by kernel_rfl) (by kernel_rfl) (fun _ _ _ h => h) ⟨Or.inl ⟨by rfl, ?_⟩, fun _ => rfl⟩ ?_
          rotate_left
          · intro w'
            go_simp
            try with_reducible rfl
          refine wpAnyIn_take (i := 2) (v := ?_) rfl rfl (by kernel_rfl) (by kernel_rfl) (by kernel_rfl) (fun _ _ _ h => h) ⟨Or.inl ⟨by rfl, ?_⟩, fun _ => rfl⟩ ?_
          rotate_left
          · intro w'
            go_simp
            try with_reducible rfl
          refine wpAnyIn_ready (rs := [1, 4]) (by kernel_rfl) (by simp) ?_
          refine AllReadyIn.cons rfl (fun K hK => ?_) (AllReadyIn.cons rfl (fun K hK => ?_) AllReadyIn.nil)
          · go_simp
            refine hK _ _ ?_
            clear hK K
            refine wpAnyIn_take (i := 3) (v := ?_) rfl rfl (by kernel_rfl) (by kernel_rfl) (by kernel_rfl) (fun _ _ _ h => h) ⟨Or.inl ⟨by rfl, ?_⟩, fun _ => rfl⟩ ?_
            rotate_left
            · intro w'
              go_simp
              try with_reducible rfl
            refine wpAnyIn_ready (rs := [4]) (by kernel_rfl) (by simp) ?_
            refine AllReadyIn.cons rfl (fun K hK => ?_) AllReadyIn.nil
            go_simp
            refine hK _ _ ?_
            clear hK K
            refine wpAnyIn_take (i := 5) (v := ?_) rfl rfl (by kernel_rfl) (by kernel_rfl) (by kernel_rfl) (fun _ _ _ h => h) ⟨Or.inl ⟨by rfl, ?_⟩, fun _ => rfl⟩ ?_
            rotate_left
            · intro w'
              go_simp
              try with_reducible rfl
            refine wpAnyIn_take (i := 6) (v := ?_) rfl rfl (by kernel_rfl) (by kernel_rfl) (by kernel_rfl) (fun _ _ _ h => h) ⟨Or.inl ⟨by rfl, ?_⟩, fun _ => rfl⟩ ?_
            rotate_left
            · intro w'
              go_simp
              try with_reducible rfl
            refine wpAnyIn_ready (rs := [7]) (by kernel_rfl) (by simp) ?_
            refine AllReadyIn.cons rfl (fun K hK => ?_) AllReadyIn.nil
            go_simp
            refine hK _ _ ?_
            clear hK K
            refine wpAnyIn_take (i := 8) (v := ?_) rfl rfl (by kernel_rfl) (by kernel_rfl) (by kernel_rfl) (fun _ _ _ h => h) ⟨Or.inl ⟨by rfl, ?_⟩, fun _ => rfl⟩ ?_
            rotate_left
            · intro w'
              go_simp
              try with_reducible rfl
            refine wpAnyIn_take (i := 9) (v := ?_) rfl rfl (by kernel_rfl) (by kernel_rfl) (by kernel_rfl) (fun _ _ _ h => h) ⟨Or.inl ⟨by rfl, ?_⟩, fun _ => rfl⟩ ?_
            rotate_left
            · intro w'
              go_simp
              try with_reducible rfl
            refine wpAnyIn_ready (rs := [10]) (by kernel_rfl) (by simp) ?_
            refine AllReadyIn.cons rfl (fun K hK => ?_) AllReadyIn.nil
            go_simp
            gi_wp2_with (first | (refine HR.out.mono ?_; rintro e W3 he; obtain ⟨bo, rfl, hp⟩ := two_ways he))
            cases bo with
            | true =>
              have hp1 : J (pre ++ [x]) W3 ∧ Kp wr.drew W3 := by simpa using hp.out
              clear hp hy
              refine wpAnyIn_take (i := 11) (v := ?_) rfl rfl (by kernel_rfl) (by kernel_rfl) (by kernel_rfl) (fun _ _ _ h => h) ⟨Or.inl ⟨by rfl, ?_⟩, fun _ => rfl⟩ ?_
              rotate_left
              · intro w'
                go_simp
                try with_reducible rfl
              refine wpAnyIn_done (by kernel_rfl) ?_ _
              gi_wp2
              go_roundw
              case rel =>
                refine ⟨k + 1, pre ++ [x], by omega, by first | (congr 1; done) | (congr 1; omega), Lib.hid ?_, hp1.1, hG.keep _ _ hG1 hp1.2, Lib.hid ((hG.frm _ _ hp1.2).trans HBF.out)⟩
                rw [List.map_append, HP.out, roundL_snoc]
                simp [HX.out]
              case measure => simp [intOf]; omega
            | false =>
              have hp1 : Jx (pre ++ [x]) W3 := by simpa using hp.out
              clear hp hy
              refine wpAnyIn_take (i := 11) (v := ?_) rfl rfl (by kernel_rfl) (by kernel_rfl) (by kernel_rfl) (fun _ _ _ h => h) ⟨Or.inl ⟨by rfl, ?_⟩, fun _ => rfl⟩ ?_
              rotate_left
              · intro w'
                go_simp
                try with_reducible rfl
              refine wpAnyIn_done (by kernel_rfl) ?_ _
              gi_wp2
              refine bodyPost_ret (results_none rfl _ _ _) rfl ?_
              refine ⟨⟨_, rfl⟩, .inr ⟨pre ++ [x], ?_, hp1⟩⟩
              refine ⟨k, hlt, ?_⟩
              rw [List.map_append, HP.out, roundL_snoc]
              simp [HX.out]
          · go_simp
            refine hK _ _ ?_
            clear hK K
            refine wpAnyIn_take (i := 5) (v := ?_) rfl rfl (by kernel_rfl) (by kernel_rfl) (by kernel_rfl) (fun _ _ _ h => h) ⟨Or.inl ⟨by rfl, ?_⟩, fun _ => rfl⟩ ?_
            rotate_left
            · intro w'
              go_simp
              try with_reducible rfl
            refine wpAnyIn_take (i := 6) (v := ?_) rfl rfl (by kernel_rfl) (by kernel_rfl) (by kernel_rfl) (fun _ _ _ h => h) ⟨Or.inl ⟨by rfl, ?_⟩, fun _ => rfl⟩ ?_
            rotate_left
            · intro w'
              go_simp
              try with_reducible rfl
            refine wpAnyIn_ready (rs := [1, 7]) (by kernel_rfl) (by simp) ?_
            refine AllReadyIn.cons rfl (fun K hK => ?_) (AllReadyIn.cons rfl (fun K hK => ?_) AllReadyIn.nil)
            · go_simp
              refine hK _ _ ?_
              clear hK K
              refine wpAnyIn_take (i := 3) (v := ?_) rfl rfl (by kernel_rfl) (by kernel_rfl) (by kernel_rfl) (fun _ _ _ h => h) ⟨Or.inl ⟨by rfl, ?_⟩, fun _ => rfl⟩ ?_
              rotate_left
              · intro w'
                go_simp
                try with_reducible rfl
              refine wpAnyIn_ready (rs := [7]) (by kernel_rfl) (by simp) ?_
              refine AllReadyIn.cons rfl (fun K hK => ?_) AllReadyIn.nil
              go_simp
              refine hK _ _ ?_
              clear hK K
              refine wpAnyIn_take (i := 8) (v := ?_) rfl rfl (by kernel_rfl) (by kernel_rfl) (by kernel_rfl) (fun _ _ _ h => h) ⟨Or.inl ⟨by rfl, ?_⟩, fun _ => rfl⟩ ?_
              rotate_left
              · intro w'
                go_simp
                try with_reducible rfl
              refine wpAnyIn_take (i := 9) (v := ?_) rfl rfl (by kernel_rfl) (by kernel_rfl) (by kernel_rfl) (fun _ _ _ h => h) ⟨Or.inl ⟨by rfl, ?_⟩, fun _ => rfl⟩ ?_
              rotate_left
              · intro w'
                go_simp
                try with_reducible rfl
              refine wpAnyIn_ready (rs := [10]) (by kernel_rfl) (by simp) ?_
              refine AllReadyIn.cons rfl (fun K hK => ?_) AllReadyIn.nil
              go_simp
              gi_wp2_with (first | (refine HR.out.mono ?_; rintro e W3 he; obtain ⟨bo, rfl, hp⟩ := two_ways he))
              cases bo with
              | true =>
                have hp1 : J (pre ++ [x]) W3 ∧ Kp wr.drew W3 := by simpa using hp.out
                clear hp hy
                refine wpAnyIn_take (i := 11) (v := ?_) rfl rfl (by kernel_rfl) (by kernel_rfl) (by kernel_rfl) (fun _ _ _ h => h) ⟨Or.inl ⟨by rfl, ?_⟩, fun _ => rfl⟩ ?_
                rotate_left
                · intro w'
                  go_simp
                  try with_reducible rfl
                refine wpAnyIn_done (by kernel_rfl) ?_ _
                gi_wp2
                go_roundw
                case rel =>
                  refine ⟨k + 1, pre ++ [x], by omega, by first | (congr 1; done) | (congr 1; omega), Lib.hid ?_, hp1.1, hG.keep _ _ hG1 hp1.2, Lib.hid ((hG.frm _ _ hp1.2).trans HBF.out)⟩
                  rw [List.map_append, HP.out, roundL_snoc]
                  simp [HX.out]
                case measure => simp [intOf]; omega
              | false =>
                have hp1 : Jx (pre ++ [x]) W3 := by simpa using hp.out
                clear hp hy
                refine wpAnyIn_take (i := 11) (v := ?_) rfl rfl (by kernel_rfl) (by kernel_rfl) (by kernel_rfl) (fun _ _ _ h => h) ⟨Or.inl ⟨by rfl, ?_⟩, fun _ => rfl⟩ ?_
                rotate_left
                · intro w'
                  go_simp
                  try with_reducible rfl
                refine wpAnyIn_done (by kernel_rfl) ?_ _
                gi_wp2
                refine bodyPost_ret (results_none rfl _ _ _) rfl ?_
                refine ⟨⟨_, rfl⟩, .inr ⟨pre ++ [x], ?_, hp1⟩⟩
                refine ⟨k, hlt, ?_⟩
                rw [List.map_append, HP.out, roundL_snoc]
                simp [HX.out]
            · go_simp
              refine hK _ _ ?_
              clear hK K
              refine wpAnyIn_take (i := 8) (v := ?_) rfl rfl (by kernel_rfl) (by kernel_rfl) (by kernel_rfl) (fun _ _ _ h => h) ⟨Or.inl ⟨by rfl, ?_⟩, fun _ => rfl⟩ ?_
              rotate_left
              · intro w'
                go_simp
                try with_reducible rfl
              refine wpAnyIn_ready (rs := [1]) (by kernel_rfl) (by simp) ?_
              refine AllReadyIn.cons rfl (fun K hK => ?_) AllReadyIn.nil
              go_simp
              refine hK _ _ ?_
              clear hK K
              refine wpAnyIn_take (i := 3) (v := ?_) rfl rfl (by kernel_rfl) (by kernel_rfl) (by kernel_rfl) (fun _ _ _ h => h) ⟨Or.inl ⟨by rfl, ?_⟩, fun _ => rfl⟩ ?_
              rotate_left
              · intro w'
                go_simp
                try with_reducible rfl
              refine wpAnyIn_take (i := 9) (v := ?_) rfl rfl (by kernel_rfl) (by kernel_rfl) (by kernel_rfl) (fun _ _ _ h => h) ⟨Or.inl ⟨by rfl, ?_⟩, fun _ => rfl⟩ ?_
              rotate_left
              · intro w'
                go_simp
                try with_reducible rfl
              refine wpAnyIn_ready (rs := [10]) (by kernel_rfl) (by simp) ?_
              refine AllReadyIn.cons rfl (fun K hK => ?_) AllReadyIn.nil
              go_simp
              gi_wp2_with (first | (refine HR.out.mono ?_; rintro e W3 he; obtain ⟨bo, rfl, hp⟩ := two_ways he))
              cases bo with
              | true =>
                have hp1 : J (pre ++ [x]) W3 ∧ Kp wr.drew W3 := by simpa using hp.out
                clear hp hy
                refine wpAnyIn_take (i := 11) (v := ?_) rfl rfl (by kernel_rfl) (by kernel_rfl) (by kernel_rfl) (fun _ _ _ h => h) ⟨Or.inl ⟨by rfl, ?_⟩, fun _ => rfl⟩ ?_
                rotate_left
                · intro w'
                  go_simp
                  try with_reducible rfl
                refine wpAnyIn_done (by kernel_rfl) ?_ _
                gi_wp2
                go_roundw
                case rel =>
                  refine ⟨k + 1, pre ++ [x], by omega, by first | (congr 1; done) | (congr 1; omega), Lib.hid ?_, hp1.1, hG.keep _ _ hG1 hp1.2, Lib.hid ((hG.frm _ _ hp1.2).trans HBF.out)⟩
                  rw [List.map_append, HP.out, roundL_snoc]
                  simp [HX.out]
                case measure => simp [intOf]; omega
              | false =>
                have hp1 : Jx (pre ++ [x]) W3 := by simpa using hp.out
                clear hp hy
                refine wpAnyIn_take (i := 11) (v := ?_) rfl rfl (by kernel_rfl) (by kernel_rfl) (by kernel_rfl) (fun _ _ _ h => h) ⟨Or.inl ⟨by rfl, ?_⟩, fun _ => rfl⟩ ?_
                rotate_left
                · intro w'
                  go_simp
                  try with_reducible rfl
                refine wpAnyIn_done (by kernel_rfl) ?_ _
                gi_wp2
                refine bodyPost_ret (results_none rfl _ _ _) rfl ?_
                refine ⟨⟨_, rfl⟩, .inr ⟨pre ++ [x], ?_, hp1⟩⟩
                refine ⟨k, hlt, ?_⟩
                rw [List.map_append, HP.out, roundL_snoc]
                simp [HX.out]
        · obtain rfl : k = n := by omega
          gi_wp2
          all_goals
            go_end0
            exact ⟨⟨_, rfl⟩, .inl ⟨pre, HP.out, hJs⟩⟩
    · have t2 : decide (from0 ≥ (n : Int)) = false := decide_eq_false hge
      have t3 : decide ((n : Int) ≤ from0) = false := decide_eq_false hge
      obtain ⟨f, hfe⟩ : ∃ f : Nat, from0 = f := ⟨from0.toNat, by omega⟩
      have hf0 : 0 < n → fromOf n from0 = f := fun _ => by unfold fromOf; rw [if_pos (by omega)]; omega
      have HF0 := Lib.hid hf0
      have HFE := Lib.hid hfe
      clear hf0 hfe
      gi_wp2
      refine region_in_wide (by kernel_rfl) (by kernel_rfl) (by rintro ⟨_, _, hx⟩; have hx2 : (∃ v, Ending.outgrown = Ending.returned v) ∧ _ := hx; obtain ⟨⟨v, hv⟩, _⟩ := hx2; cases hv) (wpAny_of_last (S := fun w' => w'.cell? ⟨Bf, 0, none⟩ = some (.int .i64 from0) ∧ w'.cell? ⟨Ba, 0, none⟩ = some (.pointer (some ⟨g, 0, none⟩)) ∧ w'.cell? ⟨g, 3, none⟩ = some (.slice A n c)) (ds := []) 11 #[false, false, false, false, false, false, false, false, false, false, false] _ _ ?_)
      have hHeld := hS0
      refine tk3_ 0 (some 5) (bm 11 1) hHeld ?_
      refine pu_ 1 (some 6) (bm 11 3) ?_
      refine pu_ 2 (some 7) (bm 11 7) ?_
      refine tk3_ 3 (some 8) (bm 11 15) hHeld ?_
      refine tk3_ 4 (some 9) (bm 11 31) hHeld ?_
      refine pu_ 5 (some 10) (bm 11 63) ?_
      refine pu_ 6 (some 11) (bm 11 127) ?_
      refine tk3_ 7 (some 12) (bm 11 255) hHeld ?_
      refine pu_ 8 (some 13) (bm 11 511) ?_
      refine pu_ 9 (some 14) (bm 11 1023) ?_
      refine pu_ 10 (some 15) (bm 11 2047) ?_
      refine done_ (by kernel_rfl) ?_
      gi_wp2
      have HB1 : Hid (Boxed W.drew Bf 3 (.int .i64 ((f : Nat) : Int))) := Lib.hid (by rw [← HFE.out]; exact HBd.out)
      have hG0 := hGd
      have hJ0 := hJd
      gi_loopw [21] (fun i wr => ∃ (k : Nat) (pre : List (Fin n)), k ≤ n ∧ i = .int .i64 (k : Int) ∧ Hid (pre.map Fin.val = roundL n from0 k) ∧ J pre wr ∧ G wr ∧ Hid (Boxed wr Bf 3 (.int .i64 ((f : Nat) : Int)))) (fun i _ => n - (intOf i).toNat)
      case atStart => exact ⟨0, [], Nat.zero_le _, rfl, Lib.hid rfl, hJ0, hG0, HB1⟩
      case round =>
        obtain ⟨k, pre, hk, rfl, HP, hJs, hnx, HBF0⟩ := hrel
        by_cases hlt : k < n
        · have hkl : (k : Int) < (n : Int) := by omega
          have hpl : pre.length < n := by
            have := congrArg List.length HP.out
            rw [List.length_map, roundL_length] at this
            omega
          have hB1 := HBF0.out.cell
          have hB2 := hG.a wr hnx
          have hB3 := hG.h wr hnx
          have hd1 : J pre wr.drew := hJs' _ _ hJs
          have hG1 : G wr.drew := hG.d wr 1 hnx
          have HBF : Hid (wr.drew.heap[Bf]? = some (.cells #[.int .i64 ((f : Nat) : Int)] 3 (0, 0))) := Lib.hid HBF0.out
          obtain ⟨x, hx⟩ : ∃ x : Fin n, x.val = (f + k) % n := ⟨⟨_, Nat.mod_lt _ (by omega)⟩, rfl⟩
          have HX : Hid ((fromOf n from0 + k) % n = x.val) := Lib.hid (by rw [hx, HF0.out (by omega)])
          have hfl : f < n := by rw [← HF0.out (by omega)]; exact fromOf_lt n _ (by omega)
          obtain ⟨fn, tmps, assign, body, hy, hR⟩ := hY' pre x wr.drew hd1 hpl
          have hmod : Int.tmod (((f : Nat) : Int) + (k : Int)) (n : Int) = (x.val : Int) := by rw [Int.tmod_eq_emod_of_nonneg (by omega), hx]; simp
          have hn0 : ¬ (n = 0) := by omega
          have HR := Lib.hid hR
          clear hR hx
          gi_wp2
          have u1 : IntKind.i64.wrap (((f : Nat) : Int) + (k : Int)) = ((f : Nat) : Int) + (k : Int) := by rw [i64_w]; unfold wrap64; omega
          refine wpIn_region_any (by kernel_rfl) ?_
          try (change wpAnyIn _ _ _ _ _ _ _ _ _ (World.drew _))
          refine wpAnyIn_take (i := 0) (v := ?_) rfl rfl (by kernel_rfl) (by kernel_rfl) (by kernel_rfl) (fun _ _ _ h => h) ⟨Or.inl ⟨by rfl, ?_⟩, fun _ => rfl⟩ ?_
          rotate_left
          · intro w'
            go_simp
            try with_reducible rfl
          refine wpAnyIn_take (i := 2) (v := ?_) rfl rfl (by kernel_rfl) (by kernel_rfl) (by kernel_rfl) (fun _ _ _ h => h) ⟨Or.inl ⟨by rfl, ?_⟩, fun _ => rfl⟩ ?_
          rotate_left
          · intro w'
            go_simp
            try with_reducible rfl
          refine wpAnyIn_ready (rs := [1, 4]) (by kernel_rfl) (by simp) ?_
          refine AllReadyIn.cons rfl (fun K hK => ?_) (AllReadyIn.cons rfl (fun K hK => ?_) AllReadyIn.nil)
          · go_simp
            refine hK _ _ ?_
            clear hK K
            refine wpAnyIn_take (i := 3) (v := ?_) rfl rfl (by kernel_rfl) (by kernel_rfl) (by kernel_rfl) (fun _ _ _ h => h) ⟨Or.inl ⟨by rfl, ?_⟩, fun _ => rfl⟩ ?_
            rotate_left
            · intro w'
              go_simp
              try with_reducible rfl
            refine wpAnyIn_ready (rs := [4]) (by kernel_rfl) (by simp) ?_
            refine AllReadyIn.cons rfl (fun K hK => ?_) AllReadyIn.nil
            go_simp
            refine hK _ _ ?_
            clear hK K
            refine wpAnyIn_take (i := 5) (v := ?_) rfl rfl (by kernel_rfl) (by kernel_rfl) (by kernel_rfl) (fun _ _ _ h => h) ⟨Or.inl ⟨by rfl, ?_⟩, fun _ => rfl⟩ ?_
            rotate_left
            · intro w'
              go_simp
              try with_reducible rfl
            refine wpAnyIn_take (i := 6) (v := ?_) rfl rfl (by kernel_rfl) (by kernel_rfl) (by kernel_rfl) (fun _ _ _ h => h) ⟨Or.inl ⟨by rfl, ?_⟩, fun _ => rfl⟩ ?_
            rotate_left
            · intro w'
              go_simp
              try with_reducible rfl
            refine wpAnyIn_ready (rs := [7]) (by kernel_rfl) (by simp) ?_
            refine AllReadyIn.cons rfl (fun K hK => ?_) AllReadyIn.nil
            go_simp
            refine hK _ _ ?_
            clear hK K
            refine wpAnyIn_take (i := 8) (v := ?_) rfl rfl (by kernel_rfl) (by kernel_rfl) (by kernel_rfl) (fun _ _ _ h => h) ⟨Or.inl ⟨by rfl, ?_⟩, fun _ => rfl⟩ ?_
            rotate_left
            · intro w'
              go_simp
              try with_reducible rfl
            refine wpAnyIn_take (i := 9) (v := ?_) rfl rfl (by kernel_rfl) (by kernel_rfl) (by kernel_rfl) (fun _ _ _ h => h) ⟨Or.inl ⟨by rfl, ?_⟩, fun _ => rfl⟩ ?_
            rotate_left
            · intro w'
              go_simp
              try with_reducible rfl
            refine wpAnyIn_ready (rs := [10]) (by kernel_rfl) (by simp) ?_
            refine AllReadyIn.cons rfl (fun K hK => ?_) AllReadyIn.nil
            go_simp
            gi_wp2_with (first | (refine HR.out.mono ?_; rintro e W3 he; obtain ⟨bo, rfl, hp⟩ := two_ways he))
            cases bo with
            | true =>
              have hp1 : J (pre ++ [x]) W3 ∧ Kp wr.drew W3 := by simpa using hp.out
              clear hp hy
              refine wpAnyIn_take (i := 11) (v := ?_) rfl rfl (by kernel_rfl) (by kernel_rfl) (by kernel_rfl) (fun _ _ _ h => h) ⟨Or.inl ⟨by rfl, ?_⟩, fun _ => rfl⟩ ?_
              rotate_left
              · intro w'
                go_simp
                try with_reducible rfl
              refine wpAnyIn_done (by kernel_rfl) ?_ _
              gi_wp2
              go_roundw
              case rel =>
                refine ⟨k + 1, pre ++ [x], by omega, by first | (congr 1; done) | (congr 1; omega), Lib.hid ?_, hp1.1, hG.keep _ _ hG1 hp1.2, Lib.hid ((hG.frm _ _ hp1.2).trans HBF.out)⟩
                rw [List.map_append, HP.out, roundL_snoc]
                simp [HX.out]
              case measure => simp [intOf]; omega
            | false =>
              have hp1 : Jx (pre ++ [x]) W3 := by simpa using hp.out
              clear hp hy
              refine wpAnyIn_take (i := 11) (v := ?_) rfl rfl (by kernel_rfl) (by kernel_rfl) (by kernel_rfl) (fun _ _ _ h => h) ⟨Or.inl ⟨by rfl, ?_⟩, fun _ => rfl⟩ ?_
              rotate_left
              · intro w'
                go_simp
                try with_reducible rfl
              refine wpAnyIn_done (by kernel_rfl) ?_ _
              gi_wp2
              refine bodyPost_ret (results_none rfl _ _ _) rfl ?_
              refine ⟨⟨_, rfl⟩, .inr ⟨pre ++ [x], ?_, hp1⟩⟩
              refine ⟨k, hlt, ?_⟩
              rw [List.map_append, HP.out, roundL_snoc]
              simp [HX.out]
          · go_simp
            refine hK _ _ ?_
            clear hK K
            refine wpAnyIn_take (i := 5) (v := ?_) rfl rfl (by kernel_rfl) (by kernel_rfl) (by kernel_rfl) (fun _ _ _ h => h) ⟨Or.inl ⟨by rfl, ?_⟩, fun _ => rfl⟩ ?_
            rotate_left
            · intro w'
              go_simp
              try with_reducible rfl
            refine wpAnyIn_take (i := 6) (v := ?_) rfl rfl (by kernel_rfl) (by kernel_rfl) (by kernel_rfl) (fun _ _ _ h => h) ⟨Or.inl ⟨by rfl, ?_⟩, fun _ => rfl⟩ ?_
            rotate_left
            · intro w'
              go_simp
              try with_reducible rfl
            refine wpAnyIn_ready (rs := [1, 7]) (by kernel_rfl) (by simp) ?_
            refine AllReadyIn.cons rfl (fun K hK => ?_) (AllReadyIn.cons rfl (fun K hK => ?_) AllReadyIn.nil)
            · go_simp
              refine hK _ _ ?_
              clear hK K
              refine wpAnyIn_take (i := 3) (v := ?_) rfl rfl (by kernel_rfl) (by kernel_rfl) (by kernel_rfl) (fun _ _ _ h => h) ⟨Or.inl ⟨by rfl, ?_⟩, fun _ => rfl⟩ ?_
              rotate_left
              · intro w'
                go_simp
                try with_reducible rfl
              refine wpAnyIn_ready (rs := [7]) (by kernel_rfl) (by simp) ?_
              refine AllReadyIn.cons rfl (fun K hK => ?_) AllReadyIn.nil
              go_simp
              refine hK _ _ ?_
              clear hK K
              refine wpAnyIn_take (i := 8) (v := ?_) rfl rfl (by kernel_rfl) (by kernel_rfl) (by kernel_rfl) (fun _ _ _ h => h) ⟨Or.inl ⟨by rfl, ?_⟩, fun _ => rfl⟩ ?_
              rotate_left
              · intro w'
                go_simp
                try with_reducible rfl
              refine wpAnyIn_take (i := 9) (v := ?_) rfl rfl (by kernel_rfl) (by kernel_rfl) (by kernel_rfl) (fun _ _ _ h => h) ⟨Or.inl ⟨by rfl, ?_⟩, fun _ => rfl⟩ ?_
              rotate_left
              · intro w'
                go_simp
                try with_reducible rfl
              refine wpAnyIn_ready (rs := [10]) (by kernel_rfl) (by simp) ?_
              refine AllReadyIn.cons rfl (fun K hK => ?_) AllReadyIn.nil
              go_simp
              gi_wp2_with (first | (refine HR.out.mono ?_; rintro e W3 he; obtain ⟨bo, rfl, hp⟩ := two_ways he))
              cases bo with
              | true =>
                have hp1 : J (pre ++ [x]) W3 ∧ Kp wr.drew W3 := by simpa using hp.out
                clear hp hy
                refine wpAnyIn_take (i := 11) (v := ?_) rfl rfl (by kernel_rfl) (by kernel_rfl) (by kernel_rfl) (fun _ _ _ h => h) ⟨Or.inl ⟨by rfl, ?_⟩, fun _ => rfl⟩ ?_
                rotate_left
                · intro w'
                  go_simp
                  try with_reducible rfl
                refine wpAnyIn_done (by kernel_rfl) ?_ _
                gi_wp2
                go_roundw
                case rel =>
                  refine ⟨k + 1, pre ++ [x], by omega, by first | (congr 1; done) | (congr 1; omega), Lib.hid ?_, hp1.1, hG.keep _ _ hG1 hp1.2, Lib.hid ((hG.frm _ _ hp1.2).trans HBF.out)⟩
                  rw [List.map_append, HP.out, roundL_snoc]
                  simp [HX.out]
                case measure => simp [intOf]; omega
              | false =>
                have hp1 : Jx (pre ++ [x]) W3 := by simpa using hp.out
                clear hp hy
                refine wpAnyIn_take (i := 11) (v := ?_) rfl rfl (by kernel_rfl) (by kernel_rfl) (by kernel_rfl) (fun _ _ _ h => h) ⟨Or.inl ⟨by rfl, ?_⟩, fun _ => rfl⟩ ?_
                rotate_left
                · intro w'
                  go_simp
                  try with_reducible rfl
                refine wpAnyIn_done (by kernel_rfl) ?_ _
                gi_wp2
                refine bodyPost_ret (results_none rfl _ _ _) rfl ?_
                refine ⟨⟨_, rfl⟩, .inr ⟨pre ++ [x], ?_, hp1⟩⟩
                refine ⟨k, hlt, ?_⟩
                rw [List.map_append, HP.out, roundL_snoc]
                simp [HX.out]
            · go_simp
              refine hK _ _ ?_
              clear hK K
              refine wpAnyIn_take (i := 8) (v := ?_) rfl rfl (by kernel_rfl) (by kernel_rfl) (by kernel_rfl) (fun _ _ _ h => h) ⟨Or.inl ⟨by rfl, ?_⟩, fun _ => rfl⟩ ?_
              rotate_left
              · intro w'
                go_simp
                try with_reducible rfl
              refine wpAnyIn_ready (rs := [1]) (by kernel_rfl) (by simp) ?_
              refine AllReadyIn.cons rfl (fun K hK => ?_) AllReadyIn.nil
              go_simp
              refine hK _ _ ?_
              clear hK K
              refine wpAnyIn_take (i := 3) (v := ?_) rfl rfl (by kernel_rfl) (by kernel_rfl) (by kernel_rfl) (fun _ _ _ h => h) ⟨Or.inl ⟨by rfl, ?_⟩, fun _ => rfl⟩ ?_
              rotate_left
              · intro w'
                go_simp
                try with_reducible rfl
              refine wpAnyIn_take (i := 9) (v := ?_) rfl rfl (by kernel_rfl) (by kernel_rfl) (by kernel_rfl) (fun _ _ _ h => h) ⟨Or.inl ⟨by rfl, ?_⟩, fun _ => rfl⟩ ?_
              rotate_left
              · intro w'
                go_simp
                try with_reducible rfl
              refine wpAnyIn_ready (rs := [10]) (by kernel_rfl) (by simp) ?_
              refine AllReadyIn.cons rfl (fun K hK => ?_) AllReadyIn.nil
              go_simp
              gi_wp2_with (first | (refine HR.out.mono ?_; rintro e W3 he; obtain ⟨bo, rfl, hp⟩ := two_ways he))
              cases bo with
              | true =>
                have hp1 : J (pre ++ [x]) W3 ∧ Kp wr.drew W3 := by simpa using hp.out
                clear hp hy
                refine wpAnyIn_take (i := 11) (v := ?_) rfl rfl (by kernel_rfl) (by kernel_rfl) (by kernel_rfl) (fun _ _ _ h => h) ⟨Or.inl ⟨by rfl, ?_⟩, fun _ => rfl⟩ ?_
                rotate_left
                · intro w'
                  go_simp
                  try with_reducible rfl
                refine wpAnyIn_done (by kernel_rfl) ?_ _
                gi_wp2
                go_roundw
                case rel =>
                  refine ⟨k + 1, pre ++ [x], by omega, by first | (congr 1; done) | (congr 1; omega), Lib.hid ?_, hp1.1, hG.keep _ _ hG1 hp1.2, Lib.hid ((hG.frm _ _ hp1.2).trans HBF.out)⟩
                  rw [List.map_append, HP.out, roundL_snoc]
                  simp [HX.out]
                case measure => simp [intOf]; omega
              | false =>
                have hp1 : Jx (pre ++ [x]) W3 := by simpa using hp.out
                clear hp hy
                refine wpAnyIn_take (i := 11) (v := ?_) rfl rfl (by kernel_rfl) (by kernel_rfl) (by kernel_rfl) (fun _ _ _ h => h) ⟨Or.inl ⟨by rfl, ?_⟩, fun _ => rfl⟩ ?_
                rotate_left
                · intro w'
                  go_simp
                  try with_reducible rfl
                refine wpAnyIn_done (by kernel_rfl) ?_ _
                gi_wp2
                refine bodyPost_ret (results_none rfl _ _ _) rfl ?_
                refine ⟨⟨_, rfl⟩, .inr ⟨pre ++ [x], ?_, hp1⟩⟩
                refine ⟨k, hlt, ?_⟩
                rw [List.map_append, HP.out, roundL_snoc]
                simp [HX.out]
        · obtain rfl : k = n := by omega
          gi_wp2
          all_goals
            go_end0
            exact ⟨⟨_, rfl⟩, .inl ⟨pre, HP.out, hJs⟩⟩
end Go.Proofs.Ytppjeikkodjjhaa.Given
