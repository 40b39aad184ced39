/- copy into a row of numbers of one's own, from a place on, out of a row of numbers that is read. -/
import Derived.Test.YtnnnakgdmhmpmaaBaseIn
namespace Go.Proofs.YtnnnakgdmhmpmaaBase
open Go.RowKit Go.Proofs.YtnnnakgdmhmpmaaW.PrintWords
set_option linter.unusedVariables false
set_option linter.unusedSimpArgs false

/-- numbers with others put in from a place on -/
def splice (b : List Int) (f : Nat) (q : List Int) : List Int := b.take f ++ q ++ b.drop (f + q.length)
theorem splice_go (b : List Int) (f : Nat) (q : List Int) : Go.Proofs.YtnnnakgdmhmpmaaBase.splice b f q = Go.splice b f q := by simp [Go.Proofs.YtnnnakgdmhmpmaaBase.splice, Go.splice]
theorem splice_nil (b : List Int) (f : Nat) : splice b f [] = b := by simp [splice]
theorem grownBy_setRow (W : World) (g : Nat) (cs : Array Value) : W.grownBy (W.setRow g cs) (some g) :=
  ⟨rfl, rfl, rfl, by simp [World.setRow], fun k _ hne => setRow_other W g k cs (fun e => hne (by rw [e]))⟩
theorem nums_drop (k : IntKind) (l : List Int) (n : Nat) : nums k (l.drop n) = (nums k l).drop n := by simp [nums]
theorem nums_take (k : IntKind) (l : List Int) (n : Nat) : nums k (l.take n) = (nums k l).take n := by simp [nums]

theorem copy_row {P : Program} {k : IntKind} {dT sT ty elem : TypeId} (hu : P.underlying dT = some (.slice elem)) (hs1 : (P.info? elem).map (·.size) = some 1)
    {W : World} {base : Nat} {ok : Nat → Prop} {A : Option Addr} {c : Nat} {zs : List Int} (hR : Kd.R (Kd.int k) elem W base ok (.slice A zs.length c) zs)
    {f t : Nat} (hft : f ≤ t) (ht : t ≤ zs.length) {B : Option Addr} {cm s : Nat} {p : List Int} (hC : Kd.C (Kd.int k) W B p.length p) (hs : s ≤ p.length) (hcm : p.length ≤ cm) (hn : t - f ≤ p.length - s) :
    ∃ W', (Builtin.copy_ #[dT, sT] ty #[.slice (if t = f then A else A.map (fun x => x.add f)) (t - f) (t - f), .slice (if cm = s then B else B.map (fun x => x.add s)) (p.length - s) (cm - s)]).run P W = .ok (goInt ((t - f : Nat) : Int)) W' ∧
      Kd.R (Kd.int k) elem W' base ok (.slice A zs.length c) (splice zs f ((p.drop s).take (t - f))) ∧ W.grownBy W' (Value.slice A zs.length c).ownBlock := by
  by_cases h0 : t = f
  · subst h0
    have hm : Nat.min (p.length - s) (t - t) = 0 := by rw [Nat.sub_self]; exact Nat.min_zero _
    refine ⟨W, ?_, ?_, World.grownBy.refl _ _⟩
    · rw [run_copy_none (P := P) W dT sT ty elem _ _ (t - t) (t - t) (p.length - s) (cm - s) hu hs1 hm]
      simp
    · rw [Nat.sub_self, List.take_zero, splice_nil]
      exact hR
  · have hown := Kd.own_of_R hR
    obtain ⟨hlen, (⟨_, hz⟩ | ⟨g, cap, cur, hv, hbg, hg, hnc, hcx, hcs, hck⟩)⟩ := hown
    · omega
    injection hv with hA _ hc
    subst hA hc
    obtain ⟨ad, rfl, hcell⟩ := C_cells hC (by omega)
    rw [if_neg h0, if_neg (by omega)]
    simp only [Option.map_some, add_plain]
    obtain ⟨q, hq⟩ : ∃ q, (p.drop s).take (t - f) = q := ⟨_, rfl⟩
    have hql : q.length = t - f := by rw [← hq]; simp; omega
    have hsz : cur.toList.take zs.length = nums k zs := by simpa [encs, nums] using hck
    have hcl : zs.length ≤ cur.size := by rw [hcs]; omega
    have hrun := run_copy_row (P := P) W dT sT ty elem g f (t - f) (t - f) (ad.add s) (p.length - s) (cm - s) cur elem (nums k q) hu hs1 hg
      (by rw [nums_length, hql]; exact (Nat.min_eq_right hn).symm)
      (fun j v hj => by
        rw [Addr.add_add]
        refine hcell (s + j) v ?_
        rw [← hq, nums_take, nums_drop, List.getElem?_take] at hj
        split at hj
        · rwa [List.getElem?_drop] at hj
        · cases hj)
      (by rw [nums_length, hql]; omega) nums_one
    rw [nums_length, hql] at hrun
    refine ⟨_, hrun, ?_, grownBy_setRow _ _ _⟩
    rw [hq]
    have hsl : (splice zs f q).length = zs.length := by unfold splice; simp; omega
    have hcur : (cur.toList.take f ++ nums k q ++ cur.toList.drop (f + (t - f))).take zs.length = nums k (splice zs f q) := by
      unfold splice
      rw [nums_append, nums_append, nums_take, nums_drop, ← hsz, hql, List.take_take, Nat.min_eq_left (by omega)]
      rw [List.take_append, List.take_append]
      simp only [List.length_take, List.length_append, nums_length, Array.length_toList]
      rw [List.take_of_length_le (l := cur.toList.take f) (by simp; omega), List.take_of_length_le (l := nums k q) (by rw [nums_length]; omega)]
      congr 1
      rw [List.drop_take]
      congr 1
      omega
    refine Kd.R_of_own ⟨by rw [encs_length]; simp, .inr ⟨g, c, _, by rw [hsl], hbg, setRow_heap _ _ _ _ _ _ hg, by rw [hsl]; exact hnc, hcx, ?_, ?_⟩⟩ hR.1
    · simp only [List.size_toArray, List.length_append, List.length_take, List.length_drop, nums_length, Array.length_toList]
      rw [hcs] at *
      omega
    · rw [hsl, Nat.mul_one]
      simpa [encs, nums] using hcur
end Go.Proofs.YtnnnakgdmhmpmaaBase
