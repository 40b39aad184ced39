/- GeomSums: the sums of every geometry. -/
import Derived.Test.YtohngcnjahoghaaPGeomSumsx
import Derived.OpenShut
namespace Go.Proofs.Ytohngcnjahoghaa.Pure
open Go.RowKit Go.Proofs.Ytohngcnjahoghaa.PGeomSums Go.Proofs.Ytohngcnjahoghaa.Given Go.Proofs.YtohngcnjahoghaaW.PrintWords Go.Proofs.YtohngcnjahoghaaW.PrintLast
set_option linter.unusedVariables false
set_option linter.unusedSimpArgs false

theorem wid (x : Int) (h : -1000000 ≤ x ∧ x ≤ 1000000) : wrap64 x = x := by unfold wrap64; omega
theorem tdivN (a b : Nat) : Int.tdiv (a : Int) (b : Int) = ((a / b : Nat) : Int) := rfl
theorem tmodN (a b : Nat) : Int.tmod (a : Int) (b : Int) = ((a % b : Nat) : Int) := rfl
theorem mulN (a b : Nat) : (a : Int) * (b : Int) = ((b * a : Nat) : Int) := by rw [Nat.mul_comm]; rfl
theorem num_is (x : Int) : lockgatelaw3_num.f x = some x := rfl
theorem alive_30 : lockgatelaw3_alive.f 30 = some true := by decide +kernel

structure Fi (G I D S : Nat) : Prop where
  g1 : 1 ≤ G
  g2 : G ≤ 8
  i1 : 1 ≤ I
  i2 : I ≤ 4
  d1 : 8 ≤ D
  d2 : D ≤ 1000
  s : S = 1 + I + D

variable {G I D S : Nat}
theorem Fi.sl (f : Fi G I D S) (q : Nat) (h : q ≤ 8) : S * q ≤ 8040 := by
  obtain ⟨g1, g2, i1, i2, d1, d2, s⟩ := f
  have := Nat.mul_le_mul (show S ≤ 1005 by omega) h
  omega
theorem Fi.il (f : Fi G I D S) (q : Nat) (h : q ≤ 8) : I * q ≤ 32 := by
  have := Nat.mul_le_mul f.i2 h
  omega
theorem Fi.dl (f : Fi G I D S) (q : Nat) (h : q ≤ 8) : D * q ≤ 8000 := by
  have := Nat.mul_le_mul f.d2 h
  omega

theorem check (f : Fi G I D S) : geom_Check.f G I D = some 0 := by
  obtain ⟨g1, g2, i1, i2, d1, d2, s⟩ := f
  unfold geom_Check.f
  rw [if_neg (by omega), if_neg (by omega), if_neg (by omega), if_neg (by omega), if_neg (by omega), if_neg (by omega)]
theorem span (f : Fi G I D S) : geom_span.f G I D = some (S : Int) := by
  obtain ⟨g1, g2, i1, i2, d1, d2, s⟩ := f
  unfold geom_span.f
  rw [wid (1 + (I : Int)) (by omega), wid _ (by omega)]
  congr 1; omega
theorem total (f : Fi G I D S) : geom_Total.f G I D = some ((1 + S * G : Nat) : Int) := by
  unfold geom_Total.f
  rw [check f, Option.bind_some, if_pos rfl, span f, Option.bind_some, mulN]
  have := f.sl G f.g2
  rw [wid ((S * G : Nat) : Int) (by omega), wid _ (by omega)]
  congr 1
theorem inodes (f : Fi G I D S) : geom_Inodes.f G I D = some ((16 * (I * G) : Nat) : Int) := by
  unfold geom_Inodes.f
  rw [check f, Option.bind_some, if_pos rfl, mulN]
  have := f.il G f.g2
  rw [wid ((I * G : Nat) : Int) (by omega), wid _ (by omega)]
  congr 1; omega
theorem blocks (f : Fi G I D S) : geom_Blocks.f G I D = some ((D * G : Nat) : Int) := by
  unfold geom_Blocks.f
  rw [check f, Option.bind_some, if_pos rfl, mulN]
  have := f.dl G f.g2
  rw [wid ((D * G : Nat) : Int) (by omega)]
theorem head_loop (f : Fi G I D S) (a : Nat) (ha : a < G) (m : Nat) : ∀ (k x : Nat), x + m = a → m < k → geom_Head.l0 k a G x G I D = some (((1 + S * a : Nat) : Int), true) := by
  have hb := f.sl a (by have := f.g2; omega)
  have hg := f.g2
  induction m with
  | zero =>
    intro k x hx hk
    obtain ⟨k, rfl⟩ : ∃ q, k = q + 1 := ⟨k - 1, by omega⟩
    have hx : x = a := by omega
    subst hx
    simp only [geom_Head.l0]
    rw [if_pos (by omega), if_pos True.intro, span f, Option.bind_some, mulN, wid ((S * x : Nat) : Int) (by omega), wid _ (by omega)]
    congr 1
  | succ m ih =>
    intro k x hx hk
    obtain ⟨k, rfl⟩ : ∃ q, k = q + 1 := ⟨k - 1, by omega⟩
    simp only [geom_Head.l0]
    rw [if_pos (by omega), if_neg (by omega), wid ((x : Int) + 1) (by omega)]
    exact ih k (x + 1) (by omega) (by omega)
theorem head (f : Fi G I D S) (k a : Nat) (hk : 10 < k) (ha : a < G) : geom_Head.f k G I D a = some (((1 + S * a : Nat) : Int), true) := by
  have hg := f.g2
  unfold geom_Head.f
  rw [check f, Option.bind_some, if_pos rfl]
  exact head_loop f a ha a k 0 (by omega) (by omega)
theorem div_top {S G : Nat} (hS : 0 < S) (hG : 1 ≤ G) : (S * G - 1) / S = G - 1 ∧ (S * G - 1) % S = S - 1 := by
  obtain ⟨q, rfl⟩ : ∃ q, G = q + 1 := ⟨G - 1, by omega⟩
  have e : S * (q + 1) - 1 = S * q + (S - 1) := by rw [Nat.mul_succ]; omega
  rw [e, Nat.mul_add_div hS, Nat.mul_add_mod, Nat.div_eq_of_lt (by omega), Nat.mod_eq_of_lt (by omega)]
  exact ⟨by omega, rfl⟩
theorem data_last (f : Fi G I D S) (k : Nat) (hk : 10 < k) : geom_Data.f k G I D ((D * G - 1 : Nat) : Int) = some (((S * G : Nat) : Int), true) := by
  have hD := f.d1
  have hD2 := f.d2
  have hI2 := f.i2
  have hl := f.dl G f.g2
  have hg1 := f.g1
  have hg := f.g2
  have hpos : D * 1 ≤ D * G := Nat.mul_le_mul_left D hg1
  obtain ⟨e1, e2⟩ := div_top (S := D) (G := G) (by omega) hg1
  have hsG : S * (G - 1) + S = S * G := by
    obtain ⟨q, rfl⟩ : ∃ q, G = q + 1 := ⟨G - 1, by omega⟩
    rw [Nat.mul_succ, Nat.add_sub_cancel]
  have hs2 := f.sl G hg
  have hS := f.s
  unfold geom_Data.f
  rw [if_neg (by omega), blocks f, Option.bind_some, if_neg (by omega), if_neg (by omega), tdivN, tmodN, e1, e2]
  rw [wid ((G - 1 : Nat) : Int) (by omega), head f k _ hk (by omega), Option.bind_some]
  dsimp only
  generalize S * (G - 1) = sa at *
  generalize S * G = sb at *
  rw [wid (((1 + sa : Nat) : Int) + 1) (by omega), wid (((1 + sa : Nat) : Int) + 1 + (I : Int)) (by omega), wid _ (by omega)]
  congr 1
  refine Prod.ext ?_ rfl
  show ((1 + sa : Nat) : Int) + 1 + (I : Int) + ((D - 1 : Nat) : Int) = ((sb : Nat) : Int)
  omega
theorem data_over (f : Fi G I D S) (k : Nat) : geom_Data.f k G I D ((D * G : Nat) : Int) = some (0, false) := by
  unfold geom_Data.f
  rw [if_neg (by omega), blocks f, Option.bind_some, if_pos (by omega)]
theorem inode_last (f : Fi G I D S) (k : Nat) (hk : 10 < k) : ∃ a b, geom_InodeAt.f k G I D ((16 * (I * G) : Nat) : Int) = some (a, b, true) := by
  have hI := f.i1
  have hI2 := f.i2
  have hg1 := f.g1
  have hg := f.g2
  have hl := f.il G f.g2
  have hpos : I * 1 ≤ I * G := Nat.mul_le_mul_left I hg1
  obtain ⟨e1, e2⟩ := div_top (S := 16 * I) (G := G) (by omega) hg1
  have hg' : geom_Group.f G I D ((16 * (I * G) : Nat) : Int) = some (((G - 1 : Nat) : Int), ((16 * I - 1 : Nat) : Int), true) := by
    unfold geom_Group.f
    rw [if_neg (by omega), inodes f, Option.bind_some, if_neg (by omega), wid ((I : Int) * 16) (by omega), wid (((16 * (I * G) : Nat) : Int) - 1) (by omega), if_neg (by omega)]
    rw [show ((16 * (I * G) : Nat) : Int) - 1 = ((16 * (I * G) - 1 : Nat) : Int) by omega, show (I : Int) * 16 = ((16 * I : Nat) : Int) by omega, tdivN, tmodN]
    rw [← Nat.mul_assoc, e1, e2, wid ((G - 1 : Nat) : Int) (by omega)]
  unfold geom_InodeAt.f
  rw [hg', Option.bind_some, if_pos rfl, head f k _ hk (by omega), Option.bind_some]
  exact ⟨_, _, rfl⟩
theorem inode_over (f : Fi G I D S) (k : Nat) : geom_InodeAt.f k G I D ((16 * (I * G) + 1 : Nat) : Int) = some (0, 0, false) := by
  unfold geom_InodeAt.f geom_Group.f
  rw [if_neg (by omega), inodes f, Option.bind_some, if_pos (by omega), Option.bind_some, if_neg (by decide)]

theorem check_not {a b c : Int} (hg : ¬ (a ≥ 1 ∧ a ≤ 8 ∧ b ≥ 1 ∧ b ≤ 4 ∧ c ≥ 8 ∧ c ≤ 1000)) : geom_Check.f a b c = some 1 := by
  unfold geom_Check.f
  (repeat' split) <;> first | rfl | (exfalso; omega)

theorem GeomSums : ∀ (a0_0 : Int) (a0_1 : Int) (a0_2 : Int), (Lit.int .i64 a0_0).wf = true → (Lit.int .i64 a0_1).wf = true → (Lit.int .i64 a0_2).wf = true → ∃ k, lockgatelaw3_GeomSums.f k a0_0 a0_1 a0_2 = some true := by
  intro a b c _ _ _
  refine ⟨30, ?_⟩
  by_cases hg : a ≥ 1 ∧ a ≤ 8 ∧ b ≥ 1 ∧ b ≤ 4 ∧ c ≥ 8 ∧ c ≤ 1000
  · obtain ⟨h1, h2, h3, h4, h5, h6⟩ := hg
    unfold lockgatelaw3_GeomSums.f
    rw [alive_30, Option.bind_some, if_pos h1, if_pos h2, if_pos h3, if_pos h4, if_pos h5, decide_eq_true h6]
    obtain ⟨G, rfl⟩ : ∃ G : Nat, a = G := ⟨a.toNat, by omega⟩
    obtain ⟨I, rfl⟩ : ∃ I : Nat, b = I := ⟨b.toNat, by omega⟩
    obtain ⟨D, rfl⟩ : ∃ D : Nat, c = D := ⟨c.toNat, by omega⟩
    obtain ⟨S, hS⟩ : ∃ S, S = 1 + I + D := ⟨_, rfl⟩
    have f : Fi G I D S := ⟨by omega, by omega, by omega, by omega, by omega, by omega, hS⟩
    have hdG := f.dl G f.g2
    have hsG := f.sl G f.g2
    have hiG := f.il G f.g2
    have hg1 := f.g1
    have hd1 := f.d1
    have hD := f.d2
    have hI := f.i2
    have hpos : D * 1 ≤ D * G := Nat.mul_le_mul_left D hg1
    rw [lockgatelaw3_GeomSums.j0.eq_def]
    dsimp only
    rw [if_pos rfl, check f, Option.bind_some, num_is, Option.bind_some, show ((0 : Int) == 0) = true from rfl, show (true != true) = false from rfl]
    rw [lockgatelaw3_GeomSums.j1.eq_def]
    dsimp only
    obtain ⟨m1, m2, m3, m4, m5, m6⟩ : (wrap64 ((G : Int) * (D : Int)) = ((D * G : Nat) : Int)) ∧
      (wrap64 (wrap64 (16 * (G : Int)) * (I : Int)) = ((16 * (I * G) : Nat) : Int)) ∧
      (wrap64 (((D * G : Nat) : Int) - 1) = ((D * G - 1 : Nat) : Int)) ∧
      (wrap64 (((16 * (I * G) : Nat) : Int) + 1) = ((16 * (I * G) + 1 : Nat) : Int)) ∧
      (wrap64 (1 + wrap64 ((G : Int) * wrap64 (wrap64 (1 + (I : Int)) + (D : Int)))) = ((1 + S * G : Nat) : Int)) ∧
      (wrap64 (((1 + S * G : Nat) : Int) - 1) = ((S * G : Nat) : Int)) := by
      refine ⟨?_, ?_, ?_, ?_, ?_, ?_⟩
      · rw [mulN, wid _ (by omega)]
      · rw [wid (16 * (G : Int)) (by omega), show (16 * (G : Int)) = ((16 * G : Nat) : Int) by omega, mulN, Nat.mul_left_comm, wid _ (by omega)]
      · rw [wid _ (by omega)]
        omega
      · rw [wid _ (by omega)]
        omega
      · rw [wid (1 + (I : Int)) (by omega), wid (1 + (I : Int) + (D : Int)) (by omega), show 1 + (I : Int) + (D : Int) = ((S : Nat) : Int) by omega, mulN, wid ((S * G : Nat) : Int) (by omega), wid _ (by omega)]
        omega
      · rw [wid _ (by omega)]
        omega
    obtain ⟨p, q, hin⟩ := inode_last f 28 (by decide)
    rw [if_neg (by decide), if_pos rfl, m1, m3, m2, m4, m5, data_last f 28 (by decide), Option.bind_some, data_over f 28, Option.bind_some, hin, Option.bind_some, inode_over f 28, Option.bind_some, total f, Option.bind_some, if_pos rfl, if_pos rfl, Option.bind_some, m6, if_pos rfl,
      if_neg (by decide), if_pos rfl, if_neg (by decide), inodes f, Option.bind_some, if_pos rfl, blocks f, Option.bind_some]
    simp
  · have hc := check_not hg
    have hh : ∀ k, geom_Head.f k a b c 0 = some (0, false) := fun k => by
      unfold geom_Head.f
      rw [hc, Option.bind_some, if_neg (by decide)]
    have ht : geom_Total.f a b c = some 0 := by
      unfold geom_Total.f
      rw [hc, Option.bind_some, if_neg (by decide)]
    have hi : ∀ k, geom_InodeAt.f k a b c 1 = some (0, 0, false) := fun k => by
      unfold geom_InodeAt.f geom_Group.f geom_Inodes.f
      rw [hc, Option.bind_some, if_neg (by decide), if_neg (by decide), Option.bind_some, if_pos (by decide), Option.bind_some, if_neg (by decide)]
    have hd : ∀ k, geom_Data.f k a b c 0 = some (0, false) := fun k => by
      unfold geom_Data.f geom_Blocks.f
      rw [hc, Option.bind_some, if_neg (by decide), if_neg (by decide), Option.bind_some, if_pos (by decide)]
    have all : lockgatelaw3_GeomSums.j0 30 true false a b c = some true := by
      rw [lockgatelaw3_GeomSums.j0.eq_def]
      dsimp only
      rw [if_pos rfl, hc, Option.bind_some, num_is, Option.bind_some, show ((1 : Int) == 0) = false from rfl, show (false != false) = false from rfl]
      rw [lockgatelaw3_GeomSums.j1.eq_def]
      dsimp only
      rw [if_neg (by decide), if_neg (by decide), hh, Option.bind_some, hi, Option.bind_some, hd, Option.bind_some, ht, Option.bind_some, if_pos rfl]
      rfl
    unfold lockgatelaw3_GeomSums.f
    rw [alive_30, Option.bind_some]
    by_cases h1 : a ≥ 1
    · rw [if_pos h1]
      by_cases h2 : a ≤ 8
      · rw [if_pos h2]
        by_cases h3 : b ≥ 1
        · rw [if_pos h3]
          by_cases h4 : b ≤ 4
          · rw [if_pos h4]
            by_cases h5 : c ≥ 8
            · rw [if_pos h5, decide_eq_false (by omega)]
              exact all
            · rw [if_neg h5]; exact all
          · rw [if_neg h4]; exact all
        · rw [if_neg h3]; exact all
      · rw [if_neg h2]; exact all
    · rw [if_neg h1]; exact all

end Go.Proofs.Ytohngcnjahoghaa.Pure
