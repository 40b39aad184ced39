/- copy into a row of numbers of one's own, from its head on, out of a row of numbers that is read: as much as there is room for. -/
import Derived.Test.YtnnnakgdmhmpmaaCopyR
namespace Go.Proofs.YtnnnakgdmhmpmaaBase
open Go.RowKit Go.Proofs.YtnnnakgdmhmpmaaW.PrintWords
set_option linter.unusedVariables false
set_option linter.unusedSimpArgs false

theorem copy_head {P : Program} {k : IntKind} {dT sT ty elem : TypeId} (hu : P.underlying dT = some (.slice elem)) (hs1 : (P.info? elem).map (·.size) = some 1)
    {W : World} {base : Nat} {ok : Nat → Prop} {A : Option Addr} {c : Nat} {zs : List Int} (hR : Kd.R (Kd.int k) elem W base ok (.slice A zs.length c) zs)
    {B : Option Addr} {cm : Nat} {p : List Int} (hC : Kd.C (Kd.int k) W B p.length p) :
    ∃ W', (Builtin.copy_ #[dT, sT] ty #[.slice A zs.length c, .slice B p.length cm]).run P W = .ok (goInt ((Nat.min p.length zs.length : Nat) : Int)) W' ∧
      Kd.R (Kd.int k) elem W' base ok (.slice A zs.length c) (p.take zs.length ++ zs.drop p.length) ∧ W.grownBy W' (Value.slice A zs.length c).ownBlock := by
  by_cases h0 : Nat.min p.length zs.length = 0
  · refine ⟨W, ?_, ?_, World.grownBy.refl _ _⟩
    · rw [run_copy_none (P := P) W dT sT ty elem _ _ _ _ _ _ hu hs1 h0, h0]
      simp
    · have : p.take zs.length ++ zs.drop p.length = zs := by
        rcases Nat.eq_zero_or_pos p.length with h | h
        · rw [List.eq_nil_of_length_eq_zero h]
          simp
        · have : zs.length = 0 := by
            have h2 : min p.length zs.length = 0 := h0
            omega
          rw [List.eq_nil_of_length_eq_zero this]
          simp
      rw [this]
      exact hR
  · have h00 : ¬ (min p.length zs.length = 0) := h0
    have hown := Kd.own_of_R hR
    obtain ⟨hlen, (⟨_, hz⟩ | ⟨g, cap, cur, hv, hbg, hg, hnc, hcx, hcs, hck⟩)⟩ := hown
    · omega
    injection hv with hA _ hc
    subst hA hc
    obtain ⟨ad, rfl, hcell⟩ := C_cells hC (by omega)
    obtain ⟨q, hq⟩ : ∃ q, p.take zs.length = q := ⟨_, rfl⟩
    have hql : q.length = Nat.min p.length zs.length := by rw [← hq, List.length_take]; exact Nat.min_comm _ _
    have hql' : q.length = min p.length zs.length := hql
    have hsz : cur.toList.take zs.length = nums k zs := by simpa [encs, nums] using hck
    have hcl : zs.length ≤ cur.size := by rw [hcs]; omega
    have hrun := run_copy_row (P := P) W dT sT ty elem g 0 zs.length c ad p.length cm cur elem (nums k q) hu hs1 hg
      (by rw [nums_length, hql])
      (fun j v hj => by
        refine hcell j v ?_
        rw [← hq, nums_take, List.getElem?_take] at hj
        split at hj
        · exact hj
        · cases hj)
      (by rw [nums_length, hql']; omega) nums_one
    rw [nums_length, hql] at hrun
    refine ⟨_, hrun, ?_, grownBy_setRow _ _ _⟩
    rw [hq]
    have hsl : (q ++ zs.drop p.length).length = zs.length := by rw [List.length_append, hql', List.length_drop]; omega
    have hdr : zs.drop p.length = zs.drop q.length := by
      rcases Nat.lt_or_ge zs.length p.length with h | h
      · rw [List.drop_eq_nil_of_le (by omega), List.drop_eq_nil_of_le (by rw [hql']; omega)]
      · rw [hql', Nat.min_eq_left h]
    have hcur : (cur.toList.take 0 ++ nums k q ++ cur.toList.drop (0 + Nat.min p.length zs.length)).take zs.length = nums k (q ++ zs.drop p.length) := by
      rw [hdr, nums_append, nums_drop, ← hsz, ← hql, Nat.zero_add, List.take_zero, List.nil_append]
      rw [List.take_append]
      simp only [nums_length]
      rw [List.take_of_length_le (l := nums k q) (by rw [nums_length]; omega)]
      congr 1
      rw [List.drop_take]
    refine Kd.R_of_own ⟨by rw [encs_length]; simp, .inr ⟨g, c, _, by rw [hsl], hbg, setRow_heap _ _ _ _ _ _ hg, by rw [hsl]; exact hnc, hcx, ?_, ?_⟩⟩ hR.1
    · simp only [List.size_toArray, List.length_append, List.length_take, List.length_drop, nums_length, Array.length_toList]
      have : Nat.min p.length zs.length = min p.length zs.length := rfl
      rw [hcs] at *
      omega
    · rw [hsl, Nat.mul_one]
      simpa [encs, nums] using hcur
end Go.Proofs.YtnnnakgdmhmpmaaBase
