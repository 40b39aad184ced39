/- GeomParts: every geometry that may be, phase by phase: what each block is said to be is a function of its number. -/
import Derived.Test.YtohngcnjahoghaaPGeomPartsx
import Derived.OpenShut
namespace Go.Proofs.Ytohngcnjahoghaa.Pure
open Go.RowKit Go.Proofs.Ytohngcnjahoghaa.PGeomParts Go.Proofs.Ytohngcnjahoghaa.Given Go.Proofs.YtohngcnjahoghaaW.PrintWords Go.Proofs.YtohngcnjahoghaaW.PrintLast
set_option linter.unusedVariables false
set_option linter.unusedSimpArgs false

theorem wid (x : Int) (h : -1000000 ≤ x ∧ x ≤ 1000000) : wrap64 x = x := by unfold wrap64; omega
theorem tdivN (a b : Nat) : Int.tdiv (a : Int) (b : Int) = ((a / b : Nat) : Int) := rfl
theorem tmodN (a b : Nat) : Int.tmod (a : Int) (b : Int) = ((a % b : Nat) : Int) := rfl
theorem mulN (a b : Nat) : (a : Int) * (b : Int) = ((b * a : Nat) : Int) := by rw [Nat.mul_comm]; rfl
theorem div_at {S q r : Nat} (h : r < S) : (S * q + r) / S = q := by rw [Nat.mul_add_div (by omega), Nat.div_eq_of_lt h, Nat.add_zero]
theorem mod_at {S q r : Nat} (h : r < S) : (S * q + r) % S = r := by rw [Nat.mul_add_mod, Nat.mod_eq_of_lt h]
theorem uniq {S a c q t : Nat} (h : S * a + c = S * q + t) (hc : c < S) (ht : t < S) : a = q ∧ c = t := by
  have h1 := div_at (q := a) hc
  rw [h, div_at ht] at h1
  subst h1
  exact ⟨rfl, by omega⟩
theorem quot {S q r G : Nat} (h : S * q + r < S * G) : q < G := by
  rcases Nat.lt_or_ge q G with h' | h'
  · exact h'
  · have := Nat.mul_le_mul_left S h'
    omega

structure Fi (G I D S : Nat) : Prop where
  g1 : 1 ≤ G
  g2 : G ≤ 8
  i1 : 1 ≤ I
  i2 : I ≤ 4
  d1 : 8 ≤ D
  d2 : D ≤ 60
  s : S = 1 + I + D

variable {G I D S : Nat}
theorem Fi.sl (f : Fi G I D S) (q : Nat) (h : q ≤ 8) : S * q ≤ 520 := by
  obtain ⟨g1, g2, i1, i2, d1, d2, s⟩ := f
  have := Nat.mul_le_mul (show S ≤ 65 by omega) h
  omega
theorem Fi.il (f : Fi G I D S) (q : Nat) (h : q ≤ 8) : I * q ≤ 32 := by
  have := Nat.mul_le_mul f.i2 h
  omega
theorem Fi.dl (f : Fi G I D S) (q : Nat) (h : q ≤ 8) : D * q ≤ 480 := by
  have := Nat.mul_le_mul f.d2 h
  omega

theorem check (f : Fi G I D S) : geom_Check.f G I D = some 0 := by
  obtain ⟨g1, g2, i1, i2, d1, d2, s⟩ := f
  unfold geom_Check.f
  rw [if_neg (by omega), if_neg (by omega), if_neg (by omega), if_neg (by omega), if_neg (by omega), if_neg (by omega)]
theorem span (f : Fi G I D S) : geom_span.f G I D = some (S : Int) := by
  obtain ⟨g1, g2, i1, i2, d1, d2, s⟩ := f
  unfold geom_span.f
  rw [wid (1 + (I : Int)) (by omega), wid _ (by omega)]
  congr 1; omega
theorem total (f : Fi G I D S) : geom_Total.f G I D = some ((1 + S * G : Nat) : Int) := by
  unfold geom_Total.f
  rw [check f, Option.bind_some, if_pos rfl, span f, Option.bind_some, mulN]
  have := f.sl G f.g2
  rw [wid ((S * G : Nat) : Int) (by omega), wid _ (by omega)]
  congr 1
theorem inodes (f : Fi G I D S) : geom_Inodes.f G I D = some ((16 * (I * G) : Nat) : Int) := by
  unfold geom_Inodes.f
  rw [check f, Option.bind_some, if_pos rfl, mulN]
  have := f.il G f.g2
  rw [wid ((I * G : Nat) : Int) (by omega), wid _ (by omega)]
  congr 1; omega
theorem blocks (f : Fi G I D S) : geom_Blocks.f G I D = some ((D * G : Nat) : Int) := by
  unfold geom_Blocks.f
  rw [check f, Option.bind_some, if_pos rfl, mulN]
  have := f.dl G f.g2
  rw [wid ((D * G : Nat) : Int) (by omega)]
theorem head_loop (f : Fi G I D S) (a : Nat) (ha : a < G) (m : Nat) : ∀ (k x : Nat), x + m = a → m < k → geom_Head.l0 k a G x G I D = some (((1 + S * a : Nat) : Int), true) := by
  have hb := f.sl a (by have := f.g2; omega)
  have hg := f.g2
  induction m with
  | zero =>
    intro k x hx hk
    obtain ⟨k, rfl⟩ : ∃ q, k = q + 1 := ⟨k - 1, by omega⟩
    have hx : x = a := by omega
    subst hx
    simp only [geom_Head.l0]
    rw [if_pos (by omega), if_pos True.intro, span f, Option.bind_some, mulN, wid ((S * x : Nat) : Int) (by omega), wid _ (by omega)]
    congr 1
  | succ m ih =>
    intro k x hx hk
    obtain ⟨k, rfl⟩ : ∃ q, k = q + 1 := ⟨k - 1, by omega⟩
    simp only [geom_Head.l0]
    rw [if_pos (by omega), if_neg (by omega), wid ((x : Int) + 1) (by omega)]
    exact ih k (x + 1) (by omega) (by omega)
theorem head (f : Fi G I D S) (k a : Nat) (hk : 10 < k) (ha : a < G) : geom_Head.f k G I D a = some (((1 + S * a : Nat) : Int), true) := by
  have hg := f.g2
  unfold geom_Head.f
  rw [check f, Option.bind_some, if_pos rfl]
  exact head_loop f a ha a k 0 (by omega) (by omega)
theorem group (f : Fi G I D S) (n : Nat) (hn : n < 16 * (I * G)) : geom_Group.f G I D (n + 1 : Nat) = some (((n / (16 * I) : Nat) : Int), ((n % (16 * I) : Nat) : Int), true) := by
  have hl := f.il G f.g2
  have h1 := f.i1
  have h2 := f.i2
  unfold geom_Group.f
  rw [if_neg (by omega), inodes f, Option.bind_some, if_neg (by omega), wid ((I : Int) * 16) (by omega), wid (((n + 1 : Nat) : Int) - 1) (by omega), if_neg (by omega)]
  rw [show ((n + 1 : Nat) : Int) - 1 = ((n : Nat) : Int) by omega, show (I : Int) * 16 = ((16 * I : Nat) : Int) by omega, tdivN, tmodN]
  have hd := Nat.div_le_self n (16 * I)
  generalize n / (16 * I) = qq at *
  rw [wid ((qq : Nat) : Int) (by omega)]
theorem split16 (n I : Nat) (hI : 0 < I) : n / (16 * I) = n / 16 / I ∧ n % (16 * I) / 16 = n / 16 % I ∧ n % (16 * I) % 16 = n % 16 := by
  refine ⟨(Nat.div_div_eq_div_mul n 16 I).symm, ?_, ?_⟩
  · exact Nat.mod_mul_right_div_self n 16 I
  · exact Nat.mod_mul_right_mod n 16 I
theorem inodeAt (f : Fi G I D S) (k n : Nat) (hk : 10 < k) (hn : n < 16 * (I * G)) :
    geom_InodeAt.f k G I D (n + 1 : Nat) = some (((1 + S * (n / 16 / I) + (1 + n / 16 % I) : Nat) : Int), ((n % 16 * 64 : Nat) : Int), true) := by
  have hI := f.i1
  have hI2 := f.i2
  obtain ⟨e1, e2, e3⟩ := split16 n I hI
  have ha : n / 16 / I < G := by
    refine quot (S := I) (r := n / 16 % I) ?_
    rw [Nat.div_add_mod]
    omega
  have hc : n / 16 % I < I := Nat.mod_lt _ hI
  have hs := f.sl (n / 16 / I) (by have := f.g2; omega)
  unfold geom_InodeAt.f
  rw [group f n hn, Option.bind_some]
  simp only [e1]
  rw [if_pos True.intro, head f k _ hk ha, Option.bind_some]
  dsimp only
  rw [show (16 : Int) = ((16 : Nat) : Int) from rfl, tdivN, tmodN, e2, e3]
  generalize n / 16 / I = a at *
  generalize n / 16 % I = c at *
  have h16 : n % 16 < 16 := Nat.mod_lt _ (by omega)
  generalize S * a = sa at *
  rw [wid ((c : Nat) : Int) (by omega), wid (((1 + sa : Nat) : Int) + 1) (by omega), wid _ (by omega), wid _ (by omega)]
  congr 1
  refine Prod.ext ?_ (Prod.ext ?_ rfl)
  · show ((1 + sa : Nat) : Int) + 1 + (c : Int) = _
    omega
  · rfl
theorem data (f : Fi G I D S) (k n : Nat) (hk : 10 < k) (hn : n < D * G) :
    geom_Data.f k G I D n = some (((1 + S * (n / D) + (1 + I + n % D) : Nat) : Int), true) := by
  have hD := f.d1
  have hD2 := f.d2
  have hI2 := f.i2
  have hl := f.dl G f.g2
  have ha : n / D < G := by
    refine quot (S := D) (r := n % D) ?_
    rw [Nat.div_add_mod]
    exact hn
  have hc : n % D < D := Nat.mod_lt _ (by omega)
  have hs := f.sl (n / D) (by have := f.g2; omega)
  have hg := f.g2
  unfold geom_Data.f
  rw [if_neg (by omega), blocks f, Option.bind_some, if_neg (by omega), if_neg (by omega), tdivN, tmodN]
  generalize n / D = a at *
  rw [wid ((a : Nat) : Int) (by omega), head f k _ hk ha, Option.bind_some]
  dsimp only
  generalize n % D = c at *
  generalize S * a = sa at *
  rw [wid (((1 + sa : Nat) : Int) + 1) (by omega), wid (((1 + sa : Nat) : Int) + 1 + (I : Int)) (by omega), wid _ (by omega)]
  congr 1
  refine Prod.ext ?_ rfl
  show ((1 + sa : Nat) : Int) + 1 + (I : Int) + (c : Int) = _
  omega
theorem dataOf (f : Fi G I D S) (k q r : Nat) (hr : r < S) (hq : q < G) :
    geom_DataOf.f (k + 1) G I D ((1 + S * q + r : Nat) : Int) = some (if r ≤ I then (0, false) else (((D * q + (r - 1 - I) : Nat) : Int), true)) := by
  have hs := f.sl q (by have := f.g2; omega)
  have hd := f.dl q (by have := f.g2; omega)
  have hT : S * q + r < S * G := by
    have := Nat.mul_le_mul_left S (show q + 1 ≤ G from hq)
    rw [Nat.mul_succ] at this
    omega
  have hg := f.g2
  have hI := f.i2
  have hD := f.d2
  have hS := f.s
  have hD1 := f.d1
  unfold geom_DataOf.f
  rw [if_neg (by omega), total f, Option.bind_some, decide_eq_false (by omega)]
  simp only [geom_DataOf.j0]
  rw [if_neg (by simp), span f, Option.bind_some, if_neg (by omega), Option.bind_some, if_neg (by omega)]
  rw [wid (((1 + S * q + r : Nat) : Int) - 1) (by omega), show ((1 + S * q + r : Nat) : Int) - 1 = ((S * q + r : Nat) : Int) by omega, tdivN, tmodN, div_at hr, mod_at hr]
  rw [wid ((q : Nat) : Int) (by omega), mulN, wid ((D * q : Nat) : Int) (by omega), wid ((r : Int) - 1) (by omega), wid ((r : Int) - 1 - (I : Int)) (by omega)]
  by_cases h : r ≤ I
  · rw [if_pos (by omega), if_pos h]
  · rw [if_neg (by omega), if_neg h]
    generalize D * q = dq at *
    rw [wid _ (by omega)]
    congr 1
    refine Prod.ext ?_ rfl
    show ((dq : Nat) : Int) + ((r : Int) - 1 - (I : Int)) = _
    omega

def W (I D S h n m b : Nat) : Int :=
  if b = 0 then 0
  else if (b - 1) % S = 0 then (if (b - 1) / S < h then 1 else 0)
  else if (b - 1) % S ≤ I then (if 16 * (I * ((b - 1) / S) + ((b - 1) % S - 1)) < n then 2 else 0)
  else (if D * ((b - 1) / S) + ((b - 1) % S - 1 - I) < m then 3 else 0)
theorem W_0 (h n m : Nat) : W I D S h n m 0 = 0 := rfl
theorem W_at (h n m q r : Nat) (hr : r < S) : W I D S h n m (1 + S * q + r) =
    if r = 0 then (if q < h then 1 else 0) else if r ≤ I then (if 16 * (I * q + (r - 1)) < n then 2 else 0) else (if D * q + (r - 1 - I) < m then 3 else 0) := by
  have e : 1 + S * q + r - 1 = S * q + r := by omega
  unfold W
  rw [if_neg (by omega), e, div_at hr, mod_at hr]
theorem cut (b : Nat) (hb : b ≠ 0) (hS : 0 < S) : ∃ q r, r < S ∧ b = 1 + S * q + r := by
  refine ⟨(b - 1) / S, (b - 1) % S, Nat.mod_lt _ hS, ?_⟩
  have := Nat.div_add_mod (b - 1) S
  omega

def St (l : List Int) (T : Nat) (w : Nat → Int) : Prop := l.length = T ∧ ∀ b, b < T → rd l (b : Int) = w b
theorem St.set {l : List Int} {T : Nat} {w w' : Nat → Int} {v : Int} (h : St l T w) (j : Nat) (hw : ∀ b, b < T → w' b = if b = j then v else w b) : St (l.set j v) T w' := by
  refine ⟨by rw [List.length_set]; exact h.1, fun b hb => ?_⟩
  have h2 := h.2 b hb
  rw [hw b hb]
  unfold rd at h2 ⊢
  rw [show ((b : Nat) : Int).toNat = b by omega, List.getD_eq_getElem?_getD] at h2 ⊢
  rw [List.getElem?_set]
  by_cases e : b = j
  · subst e
    rw [if_pos rfl, if_pos rfl, if_pos (by rw [h.1]; exact hb)]
    rfl
  · rw [if_neg (fun x => e x.symm), if_neg e]
    exact h2

theorem W_head (f : Fi G I D S) (x b : Nat) : W I D S (x + 1) 0 0 b = if b = 1 + S * x then 1 else W I D S x 0 0 b := by
  have hS := f.s
  by_cases hb : b = 0
  · subst hb
    rw [if_neg (by omega), W_0, W_0]
  · obtain ⟨q, r, hr, rfl⟩ := cut (S := S) b hb (by omega)
    rw [W_at _ _ _ _ _ hr, W_at _ _ _ _ _ hr]
    by_cases e : q = x ∧ r = 0
    · obtain ⟨rfl, rfl⟩ := e
      rw [if_pos rfl, if_pos (by omega), if_pos (by omega)]
    · have e' : ¬ 1 + S * q + r = 1 + S * x := fun h => e (uniq (c := r) (t := 0) (by omega) hr (by omega))
      rw [if_neg e']
      (repeat' split) <;> first | rfl | (exfalso; omega)
theorem W_inode (f : Fi G I D S) (n b : Nat) : W I D S G (n + 1) 0 b = if b = 1 + S * (n / 16 / I) + (1 + n / 16 % I) then 2 else W I D S G n 0 b := by
  have hS := f.s
  have hI := f.i1
  have hc : n / 16 % I < I := Nat.mod_lt _ hI
  have hn := Nat.div_add_mod (n / 16) I
  generalize n / 16 / I = a at *
  generalize n / 16 % I = c at *
  by_cases hb : b = 0
  · subst hb
    rw [if_neg (by omega), W_0, W_0]
  · obtain ⟨q, r, hr, rfl⟩ := cut (S := S) b hb (by omega)
    rw [W_at _ _ _ _ _ hr, W_at _ _ _ _ _ hr]
    by_cases e : q = a ∧ r = 1 + c
    · obtain ⟨rfl, rfl⟩ := e
      rw [if_neg (by omega), if_pos (by omega), if_pos rfl, if_pos (by omega)]
    · have e' : ¬ 1 + S * q + r = 1 + S * a + (1 + c) := fun h => e (uniq (c := r) (t := 1 + c) (by omega) hr (by omega))
      have e2 : r ≠ 0 → r ≤ I → I * q + (r - 1) ≠ n / 16 := fun h1 h2 h3 => by
        have := uniq (S := I) (a := q) (c := r - 1) (q := a) (t := c) (by omega) (by omega) hc
        exact e ⟨this.1, by omega⟩
      rw [if_neg e']
      (repeat' split) <;> first | rfl | (exfalso; omega)
theorem W_data (f : Fi G I D S) (N n b : Nat) : W I D S G N (n + 1) b = if b = 1 + S * (n / D) + (1 + I + n % D) then 3 else W I D S G N n b := by
  have hS := f.s
  have hD := f.d1
  have hc : n % D < D := Nat.mod_lt _ (by omega)
  have hn := Nat.div_add_mod n D
  generalize n / D = a at *
  generalize n % D = c at *
  by_cases hb : b = 0
  · subst hb
    rw [if_neg (by omega), W_0, W_0]
  · obtain ⟨q, r, hr, rfl⟩ := cut (S := S) b hb (by omega)
    rw [W_at _ _ _ _ _ hr, W_at _ _ _ _ _ hr]
    by_cases e : q = a ∧ r = 1 + I + c
    · obtain ⟨rfl, rfl⟩ := e
      rw [if_neg (by omega), if_neg (by omega), if_pos rfl, if_pos (by omega)]
    · have e' : ¬ 1 + S * q + r = 1 + S * a + (1 + I + c) := fun h => e (uniq (c := r) (t := 1 + I + c) (by omega) hr (by omega))
      have e2 : r ≠ 0 → ¬ r ≤ I → D * q + (r - 1 - I) ≠ n := fun h1 h2 h3 => by
        have := uniq (S := D) (a := q) (c := r - 1 - I) (q := a) (t := c) (by omega) (by omega) hc
        exact e ⟨this.1, by omega⟩
      rw [if_neg e']
      (repeat' split) <;> first | rfl | (exfalso; omega)

theorem l3 (f : Fi G I D S) (l : List Int) (hl : St l (1 + S * G) (W I D S G (16 * (I * G)) (D * G))) (m : Nat) : ∀ (k x : Nat), x + m = 1 + S * G → 1 ≤ x → m + 1 < k →
    lockgatelaw3_GeomParts.l3 k l x G I D = some true := by
  have hsG := f.sl G f.g2
  have hS := f.s
  induction m with
  | zero =>
    intro k x hx h1 hk
    obtain ⟨k, rfl⟩ : ∃ q, k = q + 1 := ⟨k - 1, by omega⟩
    have hlen := hl.1
    have h0 : rd l 0 = 0 := by
      have := hl.2 0 (by omega)
      rw [W_0] at this
      exact this
    simp only [lockgatelaw3_GeomParts.l3]
    rw [if_neg (by omega), if_pos (by omega), h0]
    rfl
  | succ m ih =>
    intro k x hx h1 hk
    obtain ⟨k, rfl⟩ : ∃ q, k = q + 2 := ⟨k - 2, by omega⟩
    have hlen := hl.1
    obtain ⟨q, r, hr, hxe⟩ := cut (S := S) x (by omega) (by omega)
    have hq : q < G := quot (S := S) (r := r) (by omega)
    have hw := hl.2 x (by omega)
    rw [hxe, W_at _ _ _ _ _ hr, ← hxe] at hw
    have hof := dataOf f k q r hr hq
    rw [← hxe] at hof
    have hqI : I * q + I ≤ I * G := by
      have := Nat.mul_le_mul_left I (show q + 1 ≤ G from hq)
      rw [Nat.mul_succ] at this
      omega
    have hqD : D * q + D ≤ D * G := by
      have := Nat.mul_le_mul_left D (show q + 1 ≤ G from hq)
      rw [Nat.mul_succ] at this
      omega
    have hrec : lockgatelaw3_GeomParts.l3 (k + 1) l (wrap64 ((x : Int) + 1)) G I D = some true := by
      rw [wid _ (by omega)]
      exact ih (k + 1) (x + 1) (by omega) (by omega) (by omega)
    have step : ∀ (p : Int × Bool) (v : Int), v ≠ 0 → p.2 = (v == 3) → rd l x = v → geom_DataOf.f (k + 1) G I D x = some p → lockgatelaw3_GeomParts.l3 (k + 1 + 1) l x G I D = some true := by
      intro p v hv hp hrv ho
      rw [lockgatelaw3_GeomParts.l3.eq_def]
      dsimp only
      rw [if_pos (by omega), ho, Option.bind_some, if_pos (by omega), hrv, if_neg hv, hp, if_neg (by simp)]
      exact hrec
    by_cases c1 : r = 0
    · rw [if_pos c1, if_pos hq] at hw
      rw [if_pos (by omega)] at hof
      exact step _ 1 (by decide) rfl hw hof
    · rw [if_neg c1] at hw
      by_cases c2 : r ≤ I
      · rw [if_pos c2, if_pos (by omega)] at hw
        rw [if_pos c2] at hof
        exact step _ 2 (by decide) rfl hw hof
      · rw [if_neg c2, if_pos (by omega)] at hw
        rw [if_neg c2] at hof
        exact step _ 3 (by decide) rfl hw hof

theorem l2 (f : Fi G I D S) (m : Nat) : ∀ (k n : Nat) (l : List Int), n + m = D * G → m + 600 < k → St l (1 + S * G) (W I D S G (16 * (I * G)) n) →
    lockgatelaw3_GeomParts.l2 k l n G I D = some true := by
  have hsG := f.sl G f.g2
  have hS := f.s
  have hdG := f.dl G f.g2
  induction m with
  | zero =>
    intro k n l hn hk hl
    obtain ⟨k, rfl⟩ : ∃ q, k = q + 1 := ⟨k - 1, by omega⟩
    have hn : n = D * G := by omega
    subst hn
    rw [lockgatelaw3_GeomParts.l2.eq_def]
    dsimp only
    rw [blocks f, Option.bind_some, if_neg (by omega)]
    exact l3 f l hl (S * G) k 1 (by omega) (by omega) (by omega)
  | succ m ih =>
    intro k n l hn hk hl
    obtain ⟨k, rfl⟩ : ∃ q, k = q + 2 := ⟨k - 2, by omega⟩
    have hlen := hl.1
    have hD1 := f.d1
    have ha : n / D < G := by
      refine quot (S := D) (r := n % D) ?_
      rw [Nat.div_add_mod]
      omega
    have hc : n % D < D := Nat.mod_lt _ (by omega)
    have hd := data f (k + 1) n (by omega) (by omega)
    have ho := dataOf f k (n / D) (1 + I + n % D) (by omega) ha
    rw [if_neg (by omega), show 1 + I + n % D - 1 - I = n % D by omega, Nat.div_add_mod] at ho
    have hjT : S * (n / D) + S ≤ S * G := by
      have := Nat.mul_le_mul_left S (show n / D + 1 ≤ G from ha)
      rw [Nat.mul_succ] at this
      omega
    have hw := hl.2 (1 + S * (n / D) + (1 + I + n % D)) (by omega)
    rw [W_at _ _ _ _ _ (by omega), if_neg (by omega), if_neg (by omega), show 1 + I + n % D - 1 - I = n % D by omega, Nat.div_add_mod, if_neg (by omega)] at hw
    have hrec := ih (k + 1) (n + 1) (l.set (1 + S * (n / D) + (1 + I + n % D)) 3) (by omega) (by omega) (hl.set _ fun b _ => W_data f _ n b)
    rw [lockgatelaw3_GeomParts.l2.eq_def]
    dsimp only
    rw [blocks f, Option.bind_some, if_pos (by omega), hd, Option.bind_some]
    dsimp only
    rw [ho, Option.bind_some, if_pos rfl, if_pos rfl, if_pos rfl]
    generalize S * (n / D) = sa at *
    rw [if_neg (by omega), if_neg (by omega), if_pos (by omega), if_pos (by omega), hw, if_pos rfl, wid ((n : Int) + 1) (by omega), Int.toNat_natCast]
    exact hrec

theorem l1 (f : Fi G I D S) (m : Nat) : ∀ (k n : Nat) (l : List Int), n + m = 16 * (I * G) → m + 1200 < k → St l (1 + S * G) (W I D S G n 0) →
    lockgatelaw3_GeomParts.l1 k l ((n + 1 : Nat) : Int) G I D = some true := by
  have hsG := f.sl G f.g2
  have hS := f.s
  have hdG := f.dl G f.g2
  have hiG := f.il G f.g2
  induction m with
  | zero =>
    intro k n l hn hk hl
    obtain ⟨k, rfl⟩ : ∃ q, k = q + 1 := ⟨k - 1, by omega⟩
    have hn : n = 16 * (I * G) := by omega
    subst hn
    rw [lockgatelaw3_GeomParts.l1.eq_def]
    dsimp only
    rw [inodes f, Option.bind_some, if_neg (by omega)]
    exact l2 f (D * G) k 0 l (by omega) (by omega) hl
  | succ m ih =>
    intro k n l hn hk hl
    obtain ⟨k, rfl⟩ : ∃ q, k = q + 2 := ⟨k - 2, by omega⟩
    have hlen := hl.1
    have hI1 := f.i1
    have hI2 := f.i2
    have hD1 := f.d1
    have hG2 := f.g2
    obtain ⟨e1, e2, e3⟩ := split16 n I hI1
    have ha : n / 16 / I < G := by
      refine quot (S := I) (r := n / 16 % I) ?_
      rw [Nat.div_add_mod]
      omega
    have hc : n / 16 % I < I := Nat.mod_lt _ (by omega)
    have hi := inodeAt f (k + 1) n (by omega) (by omega)
    have hg := group f n (by omega)
    rw [e1] at hg
    have hjT : S * (n / 16 / I) + S ≤ S * G := by
      have := Nat.mul_le_mul_left S (show n / 16 / I + 1 ≤ G from ha)
      rw [Nat.mul_succ] at this
      omega
    have hw := hl.2 (1 + S * (n / 16 / I) + (1 + n / 16 % I)) (by omega)
    rw [W_at _ _ _ _ _ (by omega), if_neg (by omega), if_pos (by omega)] at hw
    have hne : rd l ((1 + S * (n / 16 / I) + (1 + n / 16 % I) : Nat) : Int) ≠ 1 := by
      rw [hw]; split <;> decide
    have hrec := ih (k + 1) (n + 1) (l.set (1 + S * (n / 16 / I) + (1 + n / 16 % I)) 2) (by omega) (by omega) (hl.set _ fun b _ => W_inode f n b)
    have hm := Nat.div_add_mod (n / 16) I
    have hm2 := Nat.div_add_mod n (16 * I)
    have hk1 : n % (16 * I) / 16 = n / 16 % I := e2
    have hil := f.il (n / 16 / I) (by omega)
    rw [lockgatelaw3_GeomParts.l1.eq_def]
    dsimp only
    rw [inodes f, Option.bind_some, if_pos (by omega), hi, Option.bind_some, hg, Option.bind_some, if_pos rfl, if_pos rfl]
    dsimp only
    rw [e1, Nat.mul_assoc] at hm2
    have hb : ((n / 16 / I : Nat) : Int) * 16 = ((16 * (n / 16 / I) : Nat) : Int) := by omega
    have hb2 : ((16 * (n / 16 / I) : Nat) : Int) * (I : Int) = ((16 * (I * (n / 16 / I)) : Nat) : Int) := by
      rw [mulN]
      congr 1
      rw [Nat.mul_left_comm]
    have hr16 := Nat.mod_lt n (show 0 < 16 * I by omega)
    rw [wid (((n + 1 : Nat) : Int) - 1) (by omega), show ((n + 1 : Nat) : Int) - 1 = ((n : Nat) : Int) by omega, show (16 : Int) = ((16 : Nat) : Int) from rfl, tmodN]
    rw [show ((16 : Nat) : Int) = (16 : Int) from rfl, wid (((n / 16 / I : Nat) : Int) * 16) (by omega), hb, hb2, wid (((n % 16 : Nat) : Int) * 64) (by omega)]
    generalize n / 16 / I = a at *
    generalize n / 16 % I = c at *
    generalize n % (16 * I) = t at *
    generalize S * a = sa at *
    generalize I * a = ia at *
    rw [wid ((16 * ia : Nat) : Int) (by omega), wid (((16 * ia : Nat) : Int) + (t : Int)) (by omega)]
    rw [if_neg (by omega), if_neg (by omega), if_pos (by omega), if_pos (by omega), if_neg hne, if_pos (by omega), if_pos (by omega), wid (((n + 1 : Nat) : Int) + 1) (by omega), Int.toNat_natCast]
    exact hrec

theorem l0 (f : Fi G I D S) (m : Nat) : ∀ (k x : Nat) (l : List Int), x + m = G → m + 2000 < k → St l (1 + S * G) (W I D S x 0 0) →
    lockgatelaw3_GeomParts.l0 k l x G I D = some true := by
  have hsG := f.sl G f.g2
  have hS := f.s
  have hdG := f.dl G f.g2
  have hiG := f.il G f.g2
  have hG2 := f.g2
  induction m with
  | zero =>
    intro k x l hx hk hl
    obtain ⟨k, rfl⟩ : ∃ q, k = q + 1 := ⟨k - 1, by omega⟩
    have hx : x = G := by omega
    subst hx
    rw [lockgatelaw3_GeomParts.l0.eq_def]
    dsimp only
    rw [if_neg (by omega)]
    exact l1 f (16 * (I * x)) k 0 l (by omega) (by omega) hl
  | succ m ih =>
    intro k x l hx hk hl
    obtain ⟨k, rfl⟩ : ∃ q, k = q + 1 := ⟨k - 1, by omega⟩
    have hlen := hl.1
    have hh := head f k x (by omega) (by omega)
    have hjT : S * x + S ≤ S * G := by
      have := Nat.mul_le_mul_left S (show x + 1 ≤ G by omega)
      rw [Nat.mul_succ] at this
      omega
    have hw := hl.2 (1 + S * x) (by omega)
    rw [show W I D S x 0 0 (1 + S * x) = W I D S x 0 0 (1 + S * x + 0) from rfl, W_at _ _ _ _ _ (by omega), if_pos rfl, if_neg (by omega)] at hw
    have hrec := ih k (x + 1) (l.set (1 + S * x) 1) (by omega) (by omega) (hl.set _ fun b _ => W_head f x b)
    rw [lockgatelaw3_GeomParts.l0.eq_def]
    dsimp only
    rw [if_pos (by omega), hh, Option.bind_some, if_pos rfl]
    generalize S * x = sa at *
    rw [if_neg (by omega), if_neg (by omega), if_pos (by omega), if_pos (by omega), hw, if_pos rfl, wid ((x : Int) + 1) (by omega), Int.toNat_natCast]
    exact hrec

theorem alive_true (k : Nat) (hk : 10 < k) : lockgatelaw3_alive.f k = some true := by
  have f : Fi 1 1 8 10 := ⟨by decide, by decide, by decide, by decide, by decide, by decide, rfl⟩
  have h1 := head f k 0 hk (by decide)
  have h2 := data f k 0 hk (by decide)
  have h3 := check f
  have h4 := total f
  unfold lockgatelaw3_alive.f
  rw [show geom_Head.f k 1 1 8 0 = some (1, true) from h1, Option.bind_some, show geom_Data.f k 1 1 8 0 = some (3, true) from h2, Option.bind_some, show geom_Check.f 1 1 8 = some 0 from h3, Option.bind_some,
    show geom_Total.f 1 1 8 = some 11 from h4]
  rfl

theorem GeomParts : ∀ (a0_0 : Int) (a0_1 : Int) (a0_2 : Int), (Lit.int .i64 a0_0).wf = true → (Lit.int .i64 a0_1).wf = true → (Lit.int .i64 a0_2).wf = true → ∃ k, lockgatelaw3_GeomParts.f k a0_0 a0_1 a0_2 = some true := by
  intro a b c _ _ _
  refine ⟨3000, ?_⟩
  have hK : ∃ K, K = 3000 := ⟨_, rfl⟩
  obtain ⟨K, hK⟩ := hK
  rw [← hK]
  have skip : ∀ x3, lockgatelaw3_GeomParts.j0 K true true a b c = some x3 → x3 = true := by
    intro x3 h
    obtain ⟨k, rfl⟩ : ∃ q, K = q + 1 := ⟨K - 1, by omega⟩
    simp only [lockgatelaw3_GeomParts.j0, if_true] at h
    injection h with h
    exact h.symm
  have skip' : lockgatelaw3_GeomParts.j0 K true true a b c = some true := by
    obtain ⟨k, rfl⟩ : ∃ q, K = q + 1 := ⟨K - 1, by omega⟩
    simp only [lockgatelaw3_GeomParts.j0, if_true]
  unfold lockgatelaw3_GeomParts.f
  rw [alive_true K (by omega), Option.bind_some]
  by_cases hg : a ≥ 1 ∧ a ≤ 8 ∧ b ≥ 1 ∧ b ≤ 4 ∧ c ≥ 8 ∧ c ≤ 1000
  · obtain ⟨h1, h2, h3, h4, h5, h6⟩ := hg
    have hgood : lockgateref1_Good.f a b c = some true := by
      unfold lockgateref1_Good.f
      rw [if_pos h1, if_pos h2, if_pos h3, if_pos h4, if_pos h5, decide_eq_true h6]
    rw [hgood, Option.bind_some, if_pos rfl, if_pos rfl]
    by_cases h60 : c > 60
    · rw [decide_eq_true h60]
      exact skip'
    · rw [decide_eq_false h60]
      obtain ⟨G, rfl⟩ : ∃ G : Nat, a = G := ⟨a.toNat, by omega⟩
      obtain ⟨I, rfl⟩ : ∃ I : Nat, b = I := ⟨b.toNat, by omega⟩
      obtain ⟨D, rfl⟩ : ∃ D : Nat, c = D := ⟨c.toNat, by omega⟩
      obtain ⟨S, hS⟩ : ∃ S, S = 1 + I + D := ⟨_, rfl⟩
      have f : Fi G I D S := ⟨by omega, by omega, by omega, by omega, by omega, by omega, hS⟩
      have hsG := f.sl G f.g2
      obtain ⟨k, rfl⟩ : ∃ q, K = q + 1 := ⟨K - 1, by omega⟩
      rw [lockgatelaw3_GeomParts.j0.eq_def]
      dsimp only
      rw [if_neg (by simp), total f, Option.bind_some, if_pos (by omega), if_pos (by omega), Int.toNat_natCast]
      refine l0 f G k 0 _ (by omega) (by omega) ⟨List.length_replicate .., fun b hb => ?_⟩
      have e1 : rd (List.replicate (1 + S * G) 0) (b : Int) = 0 := by
        unfold rd
        rw [List.getD_eq_getElem?_getD, List.getElem?_replicate]
        split <;> rfl
      rw [e1]
      by_cases hb0 : b = 0
      · subst hb0
        rw [W_0]
      obtain ⟨q, r, hr, rfl⟩ := cut (S := S) b hb0 (by omega)
      rw [W_at _ _ _ _ _ hr]
      (repeat' split) <;> first | rfl | (exfalso; omega)
  · have hgood : lockgateref1_Good.f a b c = some false := by
      unfold lockgateref1_Good.f
      (repeat' split) <;> first | rfl | (rw [decide_eq_false (by omega)])
    rw [hgood, Option.bind_some, if_pos rfl, if_neg (by simp)]
    exact skip'

end Go.Proofs.Ytohngcnjahoghaa.Pure
