/- The pure statement of FixedTells: all that numbers tell is as the document says. -/
import Derived.Test.YtgppemaekgnnfaaQx3
import Derived.Test.YtgppemaekgnnfaaFxL
namespace Go.Proofs.Ytgppemaekgnnfaa.Pure
open Go.RowKit Go.Proofs.Ytgppemaekgnnfaa.Q Go.Proofs.YtgppemaekgnnfaaW.PrintWords Go.Proofs.YtgppemaekgnnfaaW.PrintLast

theorem rclamp (a : Int) : scrimref01_Clamp.f a = some (cl a, clB a) := by
  unfold scrimref01_Clamp.f
  by_cases h1 : a > 1099511627776
  · rw [if_pos h1, (cl_high h1).1, (cl_high h1).2]
  rw [if_neg h1]
  by_cases h2 : a < -1099511627776
  · rw [if_pos h2, (cl_low h2).1, (cl_low h2).2]
  rw [if_neg h2, (cl_in h2 h1).1, (cl_in h2 h1).2]

theorem pick3 (x : Int) (a b c : Bool) : (if a = true then (if b = true then some (x, c) else some (x, false)) else some (x, false)) = some (x, a && b && c) := by
  cases a <;> cases b <;> simp
theorem pick2 (x : Int) (a c : Bool) : (if a = true then some (x, c) else some (x, false)) = some (x, a && c) := by
  cases a <;> simp

theorem radd (a b : Int) : scrimref01_Add.f a b = some (cl (cl a + cl b), clB a && clB b && clB (cl a + cl b)) := by
  have h1 := cl_lo a
  have h2 := cl_hi a
  have h3 := cl_lo b
  have h4 := cl_hi b
  unfold scrimref01_Add.f
  simp only [rclamp, Option.bind_some, pick3]
  rw [wrap64_id (by omega) (by omega)]
theorem rsub (a b : Int) : scrimref01_Sub.f a b = some (cl (cl a - cl b), clB a && clB b && clB (cl a - cl b)) := by
  have h1 := cl_lo a
  have h2 := cl_hi a
  have h3 := cl_lo b
  have h4 := cl_hi b
  unfold scrimref01_Sub.f
  simp only [rclamp, Option.bind_some, pick3]
  rw [wrap64_id (by omega) (by omega)]
theorem rpx (a : Int) : scrimref01_Px.f a = some (cl (64 * cl a), clB a && clB (64 * cl a)) := by
  have h1 := cl_lo a
  have h2 := cl_hi a
  unfold scrimref01_Px.f
  simp only [rclamp, Option.bind_some, pick2]
  rw [wrap64_id (by omega) (by omega)]

/-! ### The product, bit by bit -/
/-- A number halved so often. -/
def hv : Int → Nat → Int
  | a, 0 => a
  | a, n + 1 => hv (a / 2) n
theorem hv_nn : ∀ (n : Nat) (a : Int), 0 ≤ a → 0 ≤ hv a n ∧ hv a n ≤ a
  | 0, a, h => ⟨h, Int.le_refl a⟩
  | n + 1, a, h => by
    obtain ⟨h1, h2⟩ := hv_nn n (a / 2) (by omega)
    exact ⟨h1, by simp only [hv]; omega⟩
theorem hv_half : ∀ (n : Nat) (a : Int), hv a n / 2 = hv a (n + 1)
  | 0, _ => rfl
  | n + 1, a => hv_half n (a / 2)
theorem hv_zero : ∀ (n : Nat) (a : Int), 0 ≤ a → a < 2 ^ n → hv a n = 0
  | 0, a, h, h' => by simp only [hv]; simp at h'; omega
  | n + 1, a, h, h' => by
    simp only [hv]
    exact hv_zero n (a / 2) (by omega) (by rw [Int.pow_succ] at h'; omega)

theorem half_loop (a b n r i : Int) (hi : 0 ≤ i) (hi' : i ≤ 40) : ∀ (d k : Nat) (x : Int) (j : Int), 0 ≤ j → j + d = i → 0 ≤ x → x ≤ 1099511627776 →
    scrimref01_product.l1 (k + 1 + d) a b n r i x j = scrimref01_product.l1 (k + 1) a b n r i (hv x d) i := by
  intro d
  induction d with
  | zero => intro k x j _ h _ _; rw [show j = i by omega]; rfl
  | succ d ih =>
    intro k x j h0 h h1 h2
    have e : k + 1 + (d + 1) = (k + 1 + d) + 1 := by omega
    rw [e]
    conv => lhs; rw [scrimref01_product.l1.eq_def]
    simp only []
    rw [if_pos (by omega), Int.tdiv_eq_ediv_of_nonneg h1, wrap64_id (a := x / 2) (by omega) (by omega), wrap64_id (a := j + 1) (by omega) (by omega)]
    exact ih k (x / 2) (j + 1) (by omega) (by omega) (by omega) (by omega)

/-- What the product's rounds have, of the upper part `A` of one number. -/
structure Got (A b n r : Int) : Prop where
  n : n = if A * b / 64 ≤ 2199023255552 then A * b / 64 else 2199023255552
  r : r = A * b % 64

theorem Got.step {A b n r t : Int} (g : Got A b n r) (hA : 0 ≤ A) (hb : 0 ≤ b) (ht : t = 0 ∨ t = 1) :
    Got (2 * A + t) b (mn (2 * n + t * (b / 64) + (2 * r + t * (b % 64)) / 64) 2199023255552) ((2 * r + t * (b % 64)) % 64) := by
  have hX := Int.mul_nonneg hA hb
  have e : (2 * A + t) * b = 2 * (A * b) + t * b := by rw [Int.add_mul, Int.mul_assoc]
  have hn := g.n
  have hr := g.r
  have hm : ∀ x y : Int, mn x y = if x ≤ y then x else y := by intro x y; unfold mn; split <;> split <;> omega
  constructor
  · rw [e, hm]
    rcases ht with rfl | rfl
    · simp only [Int.zero_mul, Int.add_zero] at *
      split at hn <;> split <;> split <;> omega
    · simp only [Int.one_mul] at *
      split at hn <;> split <;> split <;> omega
  · rw [e]
    rcases ht with rfl | rfl
    · simp only [Int.zero_mul, Int.add_zero] at *; omega
    · simp only [Int.one_mul] at *; omega

theorem product_loop (a b : Int) (ha : 0 ≤ a) (ha' : a ≤ 1099511627776) (hb : 0 ≤ b) (hb' : b ≤ 1099511627776) :
    ∀ (d k : Nat) (n r : Int), d ≤ 41 → Got (hv a d) b n r → d * 42 + 1 < k →
    ∃ m s, scrimref01_product.l0 k a b n r ((d : Int) - 1) = some m ∧ Got a b m s := by
  intro d
  induction d with
  | zero =>
    intro k n r _ g hk
    obtain ⟨k, rfl⟩ : ∃ m, k = m + 1 := ⟨k - 1, by omega⟩
    refine ⟨n, r, ?_, g⟩
    simp only [scrimref01_product.l0]
    rw [if_neg (by omega)]
  | succ d ih =>
    intro k n r hd g hk
    obtain ⟨k, rfl⟩ : ∃ m, k = (m + 1 + d) + 1 := ⟨k - d - 2, by omega⟩
    have hn : 0 ≤ n ∧ n ≤ 2199023255552 := by
      have := Int.mul_nonneg (hv_nn (d + 1) a ha).1 hb
      have h := g.n
      split at h <;> omega
    have hr : 0 ≤ r ∧ r ≤ 63 := by have := g.r; omega
    have ei : ((d + 1 : Nat) : Int) - 1 = (d : Int) := by omega
    have hA := hv_nn d a ha
    have hA1 := hv_nn (d + 1) a ha
    have hh := hv_half d a
    rw [ei]
    simp only [scrimref01_product.l0]
    rw [if_pos (by omega), wrap64_id (a := 2 * n) (by omega) (by omega), wrap64_id (a := 2 * r) (by omega) (by omega),
      half_loop a b (2 * n) (2 * r) d (by omega) (by omega) d k a 0 (by omega) (by omega) ha ha']
    simp only [scrimref01_product.l1]
    have b1 : wrap64 (b / 64) = b / 64 := wrap64_id (by omega) (by omega)
    rw [if_neg (by omega), Int.tmod_eq_emod_of_nonneg hA.1, Int.tdiv_eq_ediv_of_nonneg hb, Int.tmod_eq_emod_of_nonneg hb, b1]
    by_cases ht : hv a d % 2 = 1
    · rw [if_pos ht]
      have s := g.step (t := 1) hA1.1 hb (.inr rfl)
      rw [show 2 * hv a (d + 1) + 1 = hv a d by omega, Int.one_mul, Int.one_mul] at s
      have w1 : wrap64 (2 * r + b % 64) = 2 * r + b % 64 := wrap64_id (by omega) (by omega)
      have w2 : wrap64 (2 * n + b / 64) = 2 * n + b / 64 := wrap64_id (by omega) (by omega)
      rw [w1, w2, Int.tdiv_eq_ediv_of_nonneg (by omega), Int.tmod_eq_emod_of_nonneg (by omega), wrap64_id (a := (2 * r + b % 64) / 64) (by omega) (by omega), wrap64_id (a := 2 * n + b / 64 + (2 * r + b % 64) / 64) (by omega) (by omega), wrap64_id (a := (d : Int) - 1) (by omega) (by omega)]
      exact ih k _ _ (by omega) s (by omega)
    · rw [if_neg ht]
      have s := g.step (t := 0) hA1.1 hb (.inl rfl)
      rw [show 2 * hv a (d + 1) + 0 = hv a d by omega, Int.zero_mul, Int.zero_mul, Int.add_zero, Int.add_zero] at s
      rw [Int.tdiv_eq_ediv_of_nonneg (by omega), Int.tmod_eq_emod_of_nonneg (by omega), wrap64_id (a := (2 * r) / 64) (by omega) (by omega), wrap64_id (a := 2 * n + (2 * r) / 64) (by omega) (by omega), wrap64_id (a := (d : Int) - 1) (by omega) (by omega)]
      exact ih k _ _ (by omega) s (by omega)

theorem product_f (k : Nat) (hk : 1800 < k) (a b : Int) (ha : 0 ≤ a) (ha' : a ≤ 1099511627776) (hb : 0 ≤ b) (hb' : b ≤ 1099511627776) :
    scrimref01_product.f k a b = some (if a * b / 64 ≤ 2199023255552 then a * b / 64 else 2199023255552) := by
  have z : hv a 41 = 0 := hv_zero 41 a ha (by omega)
  obtain ⟨m, s, h, g⟩ := product_loop a b ha ha' hb hb' 41 k 0 0 (by omega) (by rw [z, ]; exact ⟨by simp, by simp⟩) (by omega)
  unfold scrimref01_product.f
  rw [← g.n]
  exact h

theorem rmul (k : Nat) (hk : 1800 < k) (a b : Int) : scrimref01_Mul.f k a b = some (cl (ml (cl a) (cl b)), clB a && clB b && clB (ml (cl a) (cl b))) := by
  have h1 := cl_lo a
  have h2 := cl_hi a
  have h3 := cl_lo b
  have h4 := cl_hi b
  unfold scrimref01_Mul.f
  simp only [rclamp, Option.bind_some, pick3]
  generalize cl a = x at *
  generalize cl b = y at *
  generalize clB a = p at *
  generalize clB b = q at *
  have hm : ∀ z : Int, -1099511627776 ≤ z → z ≤ 1099511627776 → mx z (wrap64 (-z)) = if 0 ≤ z then z else -z := by
    intro z hz hz'
    rw [wrap64_id (by omega) (by omega)]
    unfold mx; split <;> split <;> omega
  rw [hm x h1 h2, hm y h3 h4]
  have key : ∀ u v : Int, 0 ≤ u → u ≤ 1099511627776 → 0 ≤ v → v ≤ 1099511627776 → ∃ n, scrimref01_product.f k u v = some n ∧ 0 ≤ n ∧ n ≤ 2199023255552 ∧ cl n = cl (ml u v) ∧ clB n = clB (ml u v) ∧ cl (-n) = cl (-ml u v) ∧ clB (-n) = clB (-ml u v) := by
    intro u v hu hu' hv hv'
    refine ⟨_, product_f k hk u v hu hu' hv hv', ?_⟩
    have hX := Int.mul_nonneg hu hv
    have e : ml u v = u * v / 64 := by unfold ml; rw [Int.tdiv_eq_ediv_of_nonneg hX]
    rw [e]
    generalize u * v / 64 = t at *
    have ht : 0 ≤ t := by
      have := Int.ediv_nonneg hX (show (0 : Int) ≤ 64 by decide)
      rw [← e]; unfold ml; rw [Int.tdiv_eq_ediv_of_nonneg hX]; exact this
    split
    · exact ⟨ht, by assumption, rfl, rfl, rfl, rfl⟩
    · rename_i hbig
      refine ⟨by decide, by decide, ?_, ?_, ?_, ?_⟩
      · rw [(cl_high (n := t) (by omega)).1]; decide
      · rw [(cl_high (n := t) (by omega)).2]; decide
      · rw [(cl_low (n := -t) (by omega)).1]; decide
      · rw [(cl_low (n := -t) (by omega)).2]; decide
  have fin : ∀ (u v : Int) (z : Bool), 0 ≤ u → u ≤ 1099511627776 → 0 ≤ v → v ≤ 1099511627776 → (ml x y = if z = true then -ml u v else ml u v) →
      ((scrimref01_product.f k u v).bind fun t => if z = true then some (cl (wrap64 (-t)), p && q && clB (wrap64 (-t))) else some (cl t, p && q && clB t)) = some (cl (ml x y), p && q && clB (ml x y)) := by
    intro u v z hu hu' hv hv' hz
    obtain ⟨n, hn, n0, n1, c1, c2, c3, c4⟩ := key u v hu hu' hv hv'
    rw [hn, Option.bind_some, wrap64_id (a := -n) (by omega) (by omega), c1, c2, c3, c4, hz]
    cases z <;> simp
  have neg : ∀ z : Int, 0 ≤ z → decide (z < 0) = false := fun z hz => by simp; omega
  have pos : ∀ z : Int, ¬ 0 ≤ z → decide (z < 0) = true := fun z hz => by simp; omega
  by_cases hx : 0 ≤ x <;> by_cases hy : 0 ≤ y
  · rw [if_pos hx, if_pos hy, neg x hx, neg y hy]
    exact fin x y false hx h2 hy h4 rfl
  · rw [if_pos hx, if_neg hy, neg x hx, pos y hy]
    exact fin x (-y) true hx h2 (by omega) (by omega) (by rw [if_pos rfl]; unfold ml; rw [Int.mul_neg, Int.neg_tdiv, Int.neg_neg])
  · rw [if_neg hx, if_pos hy, pos x hx, neg y hy]
    exact fin (-x) y true (by omega) (by omega) hy h4 (by rw [if_pos rfl]; unfold ml; rw [Int.neg_mul, Int.neg_tdiv, Int.neg_neg])
  · rw [if_neg hx, if_neg hy, pos x hx, pos y hy]
    exact fin (-x) (-y) false (by omega) (by omega) (by omega) (by omega) (by rw [if_neg (by decide)]; unfold ml; rw [Int.neg_mul, Int.mul_neg, Int.neg_neg])

/-! ### Parts, sums -/
theorem part_split {s n d : Int} (hd : 0 < d) : s / d * n + s % d * n / d = s * n / d := by
  have e : s * n = s % d * n + s / d * n * d := by
    have h := Int.emod_add_mul_ediv s d
    calc s * n = (s % d + d * (s / d)) * n := by rw [h]
      _ = s % d * n + s / d * n * d := by rw [Int.add_mul, Int.mul_assoc, Int.mul_comm d (s / d * n)]
  rw [e, Int.add_mul_ediv_right _ _ (by omega)]
  omega

theorem rpart (k : Nat) (a n d : Int) : scrimref01_Part.f (k + 1) a n d = some (prt a n d, prtB a n d) := by
  unfold scrimref01_Part.f prt prtB
  by_cases h1 : n < 0
  · rw [if_pos h1, if_pos (.inl h1), if_pos (.inl h1)]; rfl
  rw [if_neg h1]
  by_cases h2 : n > 1048576
  · rw [if_pos h2, if_pos (.inr (.inl h2)), if_pos (.inr (.inl h2))]; rfl
  rw [if_neg h2]
  by_cases h3 : d < 1
  · rw [if_pos h3, if_pos (.inr (.inr (.inl h3))), if_pos (.inr (.inr (.inl h3)))]; rfl
  rw [if_neg h3]
  by_cases h4 : d > 1048576
  · rw [decide_eq_true h4, if_pos (.inr (.inr (.inr h4))), if_pos (.inr (.inr (.inr h4)))]; rfl
  have hn : ¬ (n < 0 ∨ n > 1048576 ∨ d < 1 ∨ d > 1048576) := by omega
  rw [decide_eq_false h4, if_neg hn, if_neg hn]
  have l1 := cl_lo a
  have l2 := cl_hi a
  simp only [scrimref01_Part.j0, rclamp, Option.bind_some, Bool.false_eq_true, if_false, pick2]
  rw [if_neg (by omega)]
  generalize cl a = x at *
  generalize clB a = p at *
  have size : ∀ s : Int, 0 ≤ s → s ≤ 1099511627776 → wrap64 ((wrap64 ((wrap64 (Int.tdiv s d)) * n)) + (wrap64 (Int.tdiv (wrap64 ((Int.tmod s d) * n)) d))) = s * n / d ∧ 0 ≤ s * n / d ∧ s * n / d ≤ 1152921504606846976 := by
    intro s hs hs'
    rw [Int.tdiv_eq_ediv_of_nonneg hs, Int.tmod_eq_emod_of_nonneg hs]
    have q0 := Int.ediv_nonneg hs (show 0 ≤ d by omega)
    have q1 := Int.ediv_le_self d hs
    have r0 := Int.emod_nonneg s (show d ≠ 0 by omega)
    have r1 := Int.emod_lt_of_pos s (show 0 < d by omega)
    have m1 := mul_bd (x := s / d) (n := n) (by omega) (by omega) (by omega) (by omega)
    have m2 := mul_bd (x := s % d) (n := n) (by omega) (by omega) (by omega) (by omega)
    have m3 := mul_bd (x := s) (n := n) (by omega) (by omega) (by omega) (by omega)
    have p1 := Int.mul_nonneg r0 (show 0 ≤ n by omega)
    have p2 := Int.ediv_nonneg p1 (show 0 ≤ d by omega)
    have p3 := Int.ediv_le_self d p1
    have p4 := Int.mul_nonneg hs (show 0 ≤ n by omega)
    have p5 := Int.ediv_nonneg p4 (show 0 ≤ d by omega)
    have p6 := Int.ediv_le_self d p4
    have p7 := Int.mul_nonneg q0 (show 0 ≤ n by omega)
    rw [wrap64_id (a := s / d) (by omega) (by omega), wrap64_id (a := s / d * n) (by omega) (by omega), wrap64_id (a := s % d * n) (by omega) (by omega), Int.tdiv_eq_ediv_of_nonneg p1, wrap64_id (a := s % d * n / d) (by omega) (by omega), part_split (by omega), wrap64_id (a := s * n / d) (by omega) (by omega)]
    exact ⟨rfl, p5, by omega⟩
  have hm : ∀ z : Int, -1099511627776 ≤ z → z ≤ 1099511627776 → mx z (wrap64 (-z)) = if 0 ≤ z then z else -z := by
    intro z hz hz'
    rw [wrap64_id (by omega) (by omega)]
    unfold mx; split <;> split <;> omega
  rw [hm x l1 l2]
  by_cases hx : x < 0
  · have hx' : ¬ 0 ≤ x := by omega
    obtain ⟨s1, s2, s3⟩ := size (-x) (by omega) (by omega)
    rw [if_pos hx, if_neg hx', s1, wrap64_id (a := -(-x * n / d)) (by omega) (by omega)]
    have e : (x * n).tdiv d = -(-x * n / d) := by
      have ex : x * n = -(-x * n) := by rw [Int.neg_mul, Int.neg_neg]
      have := Int.mul_nonneg (show 0 ≤ -x by omega) (show 0 ≤ n by omega)
      rw [ex, Int.neg_tdiv, Int.tdiv_eq_ediv_of_nonneg this]
    rw [e]
  · have hx' : 0 ≤ x := by omega
    obtain ⟨s1, s2, s3⟩ := size x (by omega) (by omega)
    rw [if_neg hx, if_pos hx', s1]
    have e : (x * n).tdiv d = x * n / d := Int.tdiv_eq_ediv_of_nonneg (Int.mul_nonneg hx' (by omega))
    rw [e]

theorem rsum_l0 (l : List Int) (hl : l.length * 8 ≤ 140737488351232) : ∀ (d i k : Nat) (n : Int) (e : Bool), i + d = l.length → d < k →
    scrimref01_Sum.l0 k l n e (i : Int) = some (sm n e (l.drop i)) := by
  intro d
  induction d with
  | zero =>
    intro i k n e h hk
    obtain ⟨k, rfl⟩ : ∃ m, k = m + 1 := ⟨k - 1, by omega⟩
    simp only [scrimref01_Sum.l0]
    rw [if_neg (by omega), List.drop_eq_nil_of_le (by omega)]
    rfl
  | succ d ih =>
    intro i k n e h hk
    obtain ⟨k, rfl⟩ : ∃ m, k = m + 1 := ⟨k - 1, by omega⟩
    have hi : i < l.length := by omega
    have w : wrap64 ((i : Int) + 1) = ((i + 1 : Nat) : Int) := by rw [wrap64_id (by omega) (by omega)]; omega
    simp only [scrimref01_Sum.l0]
    rw [if_pos (by omega), if_pos (by omega), rd_nat l i hi, w, radd]
    simp only [Option.bind_some]
    rw [List.drop_eq_getElem_cons hi]
    have a := ih (i + 1) k (cl (cl n + cl l[i])) (clB n && clB l[i] && clB (cl n + cl l[i])) (by omega) (by omega)
    have b := ih (i + 1) k (cl (cl n + cl l[i])) false (by omega) (by omega)
    cases e
    · rw [if_neg (by decide), b]; simp [sm]
    · rw [if_pos rfl, a]; simp [sm]
theorem rsum (l : List Int) (hl : l.length * 8 ≤ 140737488351232) (k : Nat) (hk : l.length < k) : scrimref01_Sum.f k l = some (sm 0 true l) := by
  have := rsum_l0 l hl l.length 0 k 0 true (by omega) hk
  unfold scrimref01_Sum.f
  simpa using this

theorem FixedTells : scrimlaw01_FixedTells.Pure := by
  intro a b c l _ _ _ _ hl _
  refine ⟨l.length + 2000, ?_⟩
  unfold scrimlaw01_FixedTells.f
  rw [awake_f (l.length + 1995)]
  simp only [Option.bind_some, if_true]
  by_cases hb : (l.length : Int) > 500
  · rw [if_pos hb]
  rw [if_neg hb, rmul _ (by omega)]
  simp only [fixed_Clamp.f, fixed_Add.f, fixed_Sub.f, fixed_Mul.f, rclamp, radd, rsub, Option.bind_some, if_true, bne_self_eq_false, Bool.false_eq_true, if_false]
  rw [show l.length + 2000 = (l.length + 1999) + 1 from rfl]
  simp only [scrimlaw01_FixedTells.j0, Bool.false_eq_true, if_false]
  rw [show l.length + 1999 = (l.length + 1998) + 1 from rfl, part_f, rpart, sum_f l hl _ (by omega), rsum l hl _ (by omega), px_f, rpx, ml_px]
  simp
end Go.Proofs.Ytgppemaekgnnfaa.Pure
