/- The function Mul of package fixed: what it computes, and that the Go code computes it. -/
import Derived.Test.YtgppemaekgnnfaaFx
namespace Go.Proofs.Ytgppemaekgnnfaa.Q
open Go.RowKit Go.Proofs.YtgppemaekgnnfaaW.PrintWords Go.Proofs.YtgppemaekgnnfaaW.PrintLast Go.Proofs.YtgppemaekgnnfaaW.PrintMore
set_option linter.unusedVariables false
attribute [local go_sem] max2_int min2_int max_two min_two

/-- A product by 64, towards 0. -/
def ml (a b : Int) : Int := (a * b).tdiv 64

theorem ml_split_nn (a b : Int) (ha : 0 ≤ a) (hb : 0 ≤ b) : a.tdiv 64 * b + (a.tmod 64 * b).tdiv 64 = (a * b).tdiv 64 := by
  have h1 : 0 ≤ a % 64 := Int.emod_nonneg _ (by decide)
  rw [Int.tdiv_eq_ediv_of_nonneg ha, Int.tmod_eq_emod_of_nonneg ha, Int.tdiv_eq_ediv_of_nonneg (Int.mul_nonneg h1 hb), Int.tdiv_eq_ediv_of_nonneg (Int.mul_nonneg ha hb)]
  have e : a * b = a % 64 * b + (a / 64 * b) * 64 := by
    have h2 := Int.emod_add_mul_ediv a 64
    calc a * b = (a % 64 + 64 * (a / 64)) * b := by rw [h2]
      _ = a % 64 * b + (a / 64 * b) * 64 := by rw [Int.add_mul, Int.mul_assoc, Int.mul_comm 64 (a / 64 * b)]
  rw [e, Int.add_mul_ediv_right _ _ (by decide)]
  omega

theorem ml_split (a b : Int) : a.tdiv 64 * b + (a.tmod 64 * b).tdiv 64 = ml a b := by
  unfold ml
  rcases Int.le_total 0 a with ha | ha <;> rcases Int.le_total 0 b with hb | hb
  · exact ml_split_nn a b ha hb
  · have h := ml_split_nn a (-b) ha (by omega)
    simp only [Int.mul_neg, Int.neg_tdiv] at h
    omega
  · have h := ml_split_nn (-a) b (by omega) hb
    simp only [Int.neg_mul, Int.neg_tdiv, Int.neg_tmod] at h
    omega
  · have h := ml_split_nn (-a) (-b) (by omega) (by omega)
    simp only [Int.neg_mul, Int.mul_neg, Int.neg_tdiv, Int.neg_tmod, Int.neg_neg] at h
    omega

theorem tdiv_lo {a M : Int} (h : -M ≤ a) (_hM : 0 ≤ M) : -M ≤ a.tdiv 64 := by
  rcases Int.le_total 0 a with ha | ha
  · rw [Int.tdiv_eq_ediv_of_nonneg ha]; omega
  · have e : a = -(-a) := by omega
    rw [e, Int.neg_tdiv, Int.tdiv_eq_ediv_of_nonneg (by omega)]; omega
theorem tdiv_hi {a M : Int} (h : a ≤ M) (_hM : 0 ≤ M) : a.tdiv 64 ≤ M := by
  rcases Int.le_total 0 a with ha | ha
  · rw [Int.tdiv_eq_ediv_of_nonneg ha]; omega
  · have e : a = -(-a) := by omega
    rw [e, Int.neg_tdiv, Int.tdiv_eq_ediv_of_nonneg (by omega)]; omega
theorem tdiv_sign {a : Int} : (0 ≤ a → 0 ≤ a.tdiv 64) ∧ (a ≤ 0 → a.tdiv 64 ≤ 0) := by
  constructor
  · intro h; rw [Int.tdiv_eq_ediv_of_nonneg h]; omega
  · intro h
    have e : a = -(-a) := by omega
    rw [e, Int.neg_tdiv, Int.tdiv_eq_ediv_of_nonneg (by omega)]; omega
theorem tmod_lo (a : Int) : -63 ≤ a.tmod 64 ∧ a.tmod 64 ≤ 63 := by
  have := Int.tmod_lt_of_pos a (show (0 : Int) < 64 by decide)
  have h2 := Int.tmod_lt_of_pos (-a) (show (0 : Int) < 64 by decide)
  rw [Int.neg_tmod] at h2
  omega

/-- `q` whole parts, of `b`, are more than may be, or not. -/
theorem over_pos {q b : Int} (hb : 0 < b) (h : 1099511627776 / b < q) : 1099511627776 < q * b := by
  have h1 := Int.lt_mul_ediv_self_add (x := 1099511627776) hb
  have h2 : (1099511627776 / b + 1) * b ≤ q * b := Int.mul_le_mul_of_nonneg_right (by omega) (by omega)
  rw [Int.add_mul, Int.mul_comm (1099511627776 / b) b] at h2
  omega
theorem under_pos {q b : Int} (hb : 0 < b) (h : q ≤ 1099511627776 / b) : q * b ≤ 1099511627776 := by
  have h1 := Int.mul_ediv_self_le (x := 1099511627776) (k := b) (by omega)
  have h2 : q * b ≤ (1099511627776 / b) * b := Int.mul_le_mul_of_nonneg_right h (by omega)
  rw [Int.mul_comm (1099511627776 / b) b] at h2
  omega

/-- The rest's product. -/
theorem rest_bd {a b : Int} (h3 : -1099511627776 ≤ b) (h4 : b ≤ 1099511627776) : -69269232549888 ≤ a.tmod 64 * b ∧ a.tmod 64 * b ≤ 69269232549888 := by
  obtain ⟨r1, r2⟩ := tmod_lo a
  have k : ∀ r b : Int, 0 ≤ r → r ≤ 63 → 0 ≤ b → b ≤ 1099511627776 → 0 ≤ r * b ∧ r * b ≤ 69269232549888 := fun r b p1 p2 p3 p4 =>
    ⟨Int.mul_nonneg p1 p3, Int.le_trans (Int.mul_le_mul p2 p4 p3 (by decide)) (by decide)⟩
  rcases Int.le_total 0 (a.tmod 64) with ha | ha <;> rcases Int.le_total 0 b with hb | hb
  · have := k _ _ ha r2 hb h4; omega
  · have := k (a.tmod 64) (-b) ha r2 (by omega) (by omega); rw [Int.mul_neg] at this; omega
  · have := k (-(a.tmod 64)) b (by omega) (by omega) hb h4; rw [Int.neg_mul] at this; omega
  · have := k (-(a.tmod 64)) (-b) (by omega) (by omega) (by omega) (by omega); rw [Int.neg_mul, Int.mul_neg, Int.neg_neg] at this; omega
theorem rest_sign (a b : Int) : (0 ≤ a → 0 ≤ a.tmod 64) ∧ (a ≤ 0 → a.tmod 64 ≤ 0) := by
  have _ := b
  constructor
  · intro h; rw [Int.tmod_eq_emod_of_nonneg h]; exact Int.emod_nonneg _ (by decide)
  · intro h
    have e : a = -(-a) := by omega
    rw [e, Int.neg_tmod, Int.tmod_eq_emod_of_nonneg (by omega)]
    have := Int.emod_nonneg (-a) (show (64 : Int) ≠ 0 by decide)
    omega


/-- What the closure of Mul tells of two numbers that count as they are. -/
theorem ml_bd (a b : Int) (h3 : -1099511627776 ≤ b) (h4 : b ≤ 1099511627776)
    (hq1 : -1099511627776 ≤ a.tdiv 64 * b) (hq2 : a.tdiv 64 * b ≤ 1099511627776) :
    wrap64 (wrap64 (a.tdiv 64 * b) + wrap64 ((wrap64 (a.tmod 64 * b)).tdiv 64)) = ml a b := by
  obtain ⟨r1, r2⟩ := rest_bd (a := a) h3 h4
  have t1 := tdiv_lo (a := a.tmod 64 * b) (M := 69269232549888) r1 (by decide)
  have t2 := tdiv_hi (a := a.tmod 64 * b) (M := 69269232549888) r2 (by decide)
  have e1 : wrap64 (a.tdiv 64 * b) = a.tdiv 64 * b := by unfold wrap64; omega
  have e2 : wrap64 (a.tmod 64 * b) = a.tmod 64 * b := by unfold wrap64; omega
  have e3 : wrap64 ((a.tmod 64 * b).tdiv 64) = (a.tmod 64 * b).tdiv 64 := by unfold wrap64; omega
  rw [e1, e2, e3]
  have e4 := ml_split a b
  rw [e4]
  unfold wrap64; omega

theorem ml_over {a b : Int} (h : 1099511627776 < a.tdiv 64 * b) (hr : 0 ≤ a.tmod 64 * b) : 1099511627776 < ml a b := by
  rw [← ml_split]
  have := (tdiv_sign (a := a.tmod 64 * b)).1 hr
  omega
theorem ml_under {a b : Int} (h : a.tdiv 64 * b < -1099511627776) (hr : a.tmod 64 * b ≤ 0) : ml a b < -1099511627776 := by
  rw [← ml_split]
  have := (tdiv_sign (a := a.tmod 64 * b)).2 hr
  omega

set_option maxHeartbeats 400000 in
theorem mulc_pp (a b : Int) (w : World) (q1 : -1099511627776 ≤ a.tdiv 64) (q2 : a.tdiv 64 ≤ 1099511627776) (h3 : -1099511627776 ≤ b) (h4 : b ≤ 1099511627776) (hq : 0 ≤ a.tdiv 64) (hb : 0 < b) (g : 1099511627776 / b < a.tdiv 64) (hs2 : decide (b < 0) = false) (hs : decide (a < 0) = false) :
    Calls Try.prog 42 #[.int .i64 a, .int .i64 b] w fun e w' => e = .returned (.tuple #[.int .i64 (1099511627776), .bool false]) ∧ w = w' := by
  have hb0 : (b != 0) = true := by rw [bne_iff_ne]; omega
  go_enter Try.func42, Try.ntmps42
  go_wp2
  all_goals (go_ret2; exact ⟨ret_ib rfl rfl, rfl⟩)
set_option maxHeartbeats 400000 in
theorem mulc_pn (a b : Int) (w : World) (q1 : -1099511627776 ≤ a.tdiv 64) (q2 : a.tdiv 64 ≤ 1099511627776) (h3 : -1099511627776 ≤ b) (h4 : b ≤ 1099511627776) (hq : 0 ≤ a.tdiv 64) (hb : b < 0) (g : wrap64 (-Int.tdiv 1099511627776 b) < a.tdiv 64) (hs2 : decide (b < 0) = true) (hs : decide (a < 0) = false) :
    Calls Try.prog 42 #[.int .i64 a, .int .i64 b] w fun e w' => e = .returned (.tuple #[.int .i64 (-1099511627776), .bool false]) ∧ w = w' := by
  have hb0 : (b != 0) = true := by rw [bne_iff_ne]; omega
  go_enter Try.func42, Try.ntmps42
  go_wp2
  all_goals (go_ret2; exact ⟨ret_ib rfl rfl, rfl⟩)
set_option maxHeartbeats 400000 in
theorem mulc_np (a b : Int) (w : World) (q1 : -1099511627776 ≤ a.tdiv 64) (q2 : a.tdiv 64 ≤ 1099511627776) (h3 : -1099511627776 ≤ b) (h4 : b ≤ 1099511627776) (hq : a.tdiv 64 < 0) (hb : 0 < b) (g : 1099511627776 / b < -a.tdiv 64) (hs2 : decide (b < 0) = false) (hs : decide (a < 0) = true) :
    Calls Try.prog 42 #[.int .i64 a, .int .i64 b] w fun e w' => e = .returned (.tuple #[.int .i64 (-1099511627776), .bool false]) ∧ w = w' := by
  have hb0 : (b != 0) = true := by rw [bne_iff_ne]; omega
  go_enter Try.func42, Try.ntmps42
  go_wp2
  all_goals (go_ret2; exact ⟨ret_ib rfl rfl, rfl⟩)
set_option maxHeartbeats 400000 in
theorem mulc_nn (a b : Int) (w : World) (q1 : -1099511627776 ≤ a.tdiv 64) (q2 : a.tdiv 64 ≤ 1099511627776) (h3 : -1099511627776 ≤ b) (h4 : b ≤ 1099511627776) (hq : a.tdiv 64 < 0) (hb : b < 0) (g : wrap64 (-Int.tdiv 1099511627776 b) < -a.tdiv 64) (hs2 : decide (b < 0) = true) (hs : decide (a < 0) = true) :
    Calls Try.prog 42 #[.int .i64 a, .int .i64 b] w fun e w' => e = .returned (.tuple #[.int .i64 (1099511627776), .bool false]) ∧ w = w' := by
  have hb0 : (b != 0) = true := by rw [bne_iff_ne]; omega
  go_enter Try.func42, Try.ntmps42
  go_wp2
  all_goals (go_ret2; exact ⟨ret_ib rfl rfl, rfl⟩)
set_option maxHeartbeats 400000 in
theorem mulc_fpp (a b : Int) (w : World) (q1 : -1099511627776 ≤ a.tdiv 64) (q2 : a.tdiv 64 ≤ 1099511627776) (h3 : -1099511627776 ≤ b) (h4 : b ≤ 1099511627776) (hq : 0 ≤ a.tdiv 64) (hb : 0 < b) (g : a.tdiv 64 ≤ 1099511627776 / b)
    (HW : Hid (wrap64 (wrap64 (a.tdiv 64 * b) + wrap64 ((wrap64 (a.tmod 64 * b)).tdiv 64)) = ml a b)) :
    Calls Try.prog 42 #[.int .i64 a, .int .i64 b] w fun e w' => e = .returned (.tuple #[.int .i64 (cl (ml a b)), .bool (clB (ml a b))]) ∧ w = w' := by
  have hb0 : (b != 0) = true := by rw [bne_iff_ne]; omega
  go_enter Try.func42, Try.ntmps42
  go_wp2_with fail
  rw [HW.out]
  refine (clamp_calls _ _).mono ?_
  rintro e w' ⟨rfl, rfl⟩
  go_wp2
  all_goals (go_ret2; exact ⟨ret_ib rfl rfl, rfl⟩)
set_option maxHeartbeats 400000 in
theorem mulc_fpn (a b : Int) (w : World) (q1 : -1099511627776 ≤ a.tdiv 64) (q2 : a.tdiv 64 ≤ 1099511627776) (h3 : -1099511627776 ≤ b) (h4 : b ≤ 1099511627776) (hq : 0 ≤ a.tdiv 64) (hb : b < 0) (g : a.tdiv 64 ≤ wrap64 (-Int.tdiv 1099511627776 b))
    (HW : Hid (wrap64 (wrap64 (a.tdiv 64 * b) + wrap64 ((wrap64 (a.tmod 64 * b)).tdiv 64)) = ml a b)) :
    Calls Try.prog 42 #[.int .i64 a, .int .i64 b] w fun e w' => e = .returned (.tuple #[.int .i64 (cl (ml a b)), .bool (clB (ml a b))]) ∧ w = w' := by
  have hb0 : (b != 0) = true := by rw [bne_iff_ne]; omega
  go_enter Try.func42, Try.ntmps42
  go_wp2_with fail
  rw [HW.out]
  refine (clamp_calls _ _).mono ?_
  rintro e w' ⟨rfl, rfl⟩
  go_wp2
  all_goals (go_ret2; exact ⟨ret_ib rfl rfl, rfl⟩)
set_option maxHeartbeats 400000 in
theorem mulc_fnp (a b : Int) (w : World) (q1 : -1099511627776 ≤ a.tdiv 64) (q2 : a.tdiv 64 ≤ 1099511627776) (h3 : -1099511627776 ≤ b) (h4 : b ≤ 1099511627776) (hq : a.tdiv 64 < 0) (hb : 0 < b) (g : -a.tdiv 64 ≤ 1099511627776 / b)
    (HW : Hid (wrap64 (wrap64 (a.tdiv 64 * b) + wrap64 ((wrap64 (a.tmod 64 * b)).tdiv 64)) = ml a b)) :
    Calls Try.prog 42 #[.int .i64 a, .int .i64 b] w fun e w' => e = .returned (.tuple #[.int .i64 (cl (ml a b)), .bool (clB (ml a b))]) ∧ w = w' := by
  have hb0 : (b != 0) = true := by rw [bne_iff_ne]; omega
  go_enter Try.func42, Try.ntmps42
  go_wp2_with fail
  rw [HW.out]
  refine (clamp_calls _ _).mono ?_
  rintro e w' ⟨rfl, rfl⟩
  go_wp2
  all_goals (go_ret2; exact ⟨ret_ib rfl rfl, rfl⟩)
set_option maxHeartbeats 400000 in
theorem mulc_fnn (a b : Int) (w : World) (q1 : -1099511627776 ≤ a.tdiv 64) (q2 : a.tdiv 64 ≤ 1099511627776) (h3 : -1099511627776 ≤ b) (h4 : b ≤ 1099511627776) (hq : a.tdiv 64 < 0) (hb : b < 0) (g : -a.tdiv 64 ≤ wrap64 (-Int.tdiv 1099511627776 b))
    (HW : Hid (wrap64 (wrap64 (a.tdiv 64 * b) + wrap64 ((wrap64 (a.tmod 64 * b)).tdiv 64)) = ml a b)) :
    Calls Try.prog 42 #[.int .i64 a, .int .i64 b] w fun e w' => e = .returned (.tuple #[.int .i64 (cl (ml a b)), .bool (clB (ml a b))]) ∧ w = w' := by
  have hb0 : (b != 0) = true := by rw [bne_iff_ne]; omega
  go_enter Try.func42, Try.ntmps42
  go_wp2_with fail
  rw [HW.out]
  refine (clamp_calls _ _).mono ?_
  rintro e w' ⟨rfl, rfl⟩
  go_wp2
  all_goals (go_ret2; exact ⟨ret_ib rfl rfl, rfl⟩)

theorem negdiv {b : Int} (h : b < 0) (h3 : -1099511627776 ≤ b) : wrap64 (-Int.tdiv 1099511627776 b) = 1099511627776 / (-b) := by
  have e : -Int.tdiv 1099511627776 b = 1099511627776 / (-b) := by
    rw [← Int.tdiv_neg, Int.tdiv_eq_ediv_of_nonneg (by decide)]
  rw [e]
  have h1 : 0 ≤ 1099511627776 / (-b) := Int.ediv_nonneg (by decide) (by omega)
  have h2 : 1099511627776 / (-b) ≤ 1099511627776 := Int.ediv_le_self _ (by decide)
  unfold wrap64; omega

theorem mulc_calls (a b : Int) (w : World) (h1 : -1099511627776 ≤ a) (h2 : a ≤ 1099511627776) (h3 : -1099511627776 ≤ b) (h4 : b ≤ 1099511627776) :
    Calls Try.prog 42 #[.int .i64 a, .int .i64 b] w fun e w' => e = .returned (.tuple #[.int .i64 (cl (ml a b)), .bool (clB (ml a b))]) ∧ w = w' := by
  have q1 := tdiv_lo (a := a) (M := 1099511627776) h1 (by decide)
  have q2 := tdiv_hi (a := a) (M := 1099511627776) h2 (by decide)
  obtain ⟨s1, s2⟩ := tdiv_sign (a := a)
  obtain ⟨r1, r2⟩ := rest_sign a b
  by_cases hb : b = 0
  · subst hb
    have hm : ml a 0 = 0 := by unfold ml; rw [Int.mul_zero]; rfl
    rw [hm, (cl_in (n := 0) (by decide) (by decide)).1, (cl_in (n := 0) (by decide) (by decide)).2]
    clear hm s1 s2 r1 r2
    go_enter Try.func42, Try.ntmps42
    go_wp2_with (first | (go_at_call 22; refine (clamp_calls _ _).mono ?_; rintro e w' ⟨rfl, rfl⟩))
    go_ret2
    exact ⟨ret_ib (by rfl) (by rfl), rfl⟩
  · rcases Int.lt_or_gt_of_ne hb with hb | hb
    · have hn := negdiv hb h3
      by_cases hq : 0 ≤ a.tdiv 64
      · by_cases g : 1099511627776 / (-b) < a.tdiv 64
        · have o := over_pos (b := -b) (by omega) g
          rw [Int.mul_neg] at o
          have h0 : 0 ≤ 1099511627776 / (-b) := Int.ediv_nonneg (by decide) (by omega)
          have ha : 0 ≤ a := by omega
          have hr := Int.mul_nonneg (r1 ha) (show 0 ≤ -b by omega)
          rw [Int.mul_neg] at hr
          have u := cl_low (ml_under (a := a) (b := b) (by omega) (by omega))
          rw [u.1, u.2]
          exact mulc_pn a b w q1 q2 h3 h4 hq hb (by rw [hn]; exact g) (by simpa using hb) (by simpa using ha)
        · have o := under_pos (q := a.tdiv 64) (b := -b) (by omega) (by omega)
          rw [Int.mul_neg] at o
          have o2 := Int.mul_nonneg hq (show 0 ≤ -b by omega)
          rw [Int.mul_neg] at o2
          exact mulc_fpn a b w q1 q2 h3 h4 hq hb (by rw [hn]; omega) (ml_bd a b h3 h4 (by omega) (by omega))
      · by_cases g : 1099511627776 / (-b) < -a.tdiv 64
        · have o := over_pos (b := -b) (by omega) g
          rw [Int.mul_neg, Int.neg_mul, Int.neg_neg] at o
          have ha : a < 0 := by omega
          have hr := Int.mul_nonneg (show 0 ≤ -a.tmod 64 by have := r2 (by omega); omega) (show 0 ≤ -b by omega)
          rw [Int.mul_neg, Int.neg_mul, Int.neg_neg] at hr
          have u := cl_high (ml_over (a := a) (b := b) (by omega) (by omega))
          rw [u.1, u.2]
          exact mulc_nn a b w q1 q2 h3 h4 (by omega) hb (by rw [hn]; exact g) (by simpa using hb) (by simpa using ha)
        · have o := under_pos (q := -a.tdiv 64) (b := -b) (by omega) (by omega)
          rw [Int.mul_neg, Int.neg_mul, Int.neg_neg] at o
          have o2 := Int.mul_nonneg (show 0 ≤ -a.tdiv 64 by omega) (show 0 ≤ -b by omega)
          rw [Int.mul_neg, Int.neg_mul, Int.neg_neg] at o2
          exact mulc_fnn a b w q1 q2 h3 h4 (by omega) hb (by rw [hn]; omega) (ml_bd a b h3 h4 (by omega) (by omega))
    · by_cases hq : 0 ≤ a.tdiv 64
      · by_cases g : 1099511627776 / b < a.tdiv 64
        · have o := over_pos hb g
          have h0 : 0 ≤ 1099511627776 / b := Int.ediv_nonneg (by decide) (by omega)
          have ha : 0 ≤ a := by omega
          have hr := Int.mul_nonneg (r1 ha) (show 0 ≤ b by omega)
          have u := cl_high (ml_over (a := a) (b := b) (by omega) (by omega))
          rw [u.1, u.2]
          exact mulc_pp a b w q1 q2 h3 h4 hq hb g (by simp; omega) (by simpa using ha)
        · have o := under_pos (q := a.tdiv 64) hb (by omega)
          have o2 := Int.mul_nonneg hq (show 0 ≤ b by omega)
          exact mulc_fpp a b w q1 q2 h3 h4 hq hb (by omega) (ml_bd a b h3 h4 (by omega) (by omega))
      · by_cases g : 1099511627776 / b < -a.tdiv 64
        · have o := over_pos hb g
          rw [Int.neg_mul] at o
          have ha : a < 0 := by omega
          have hr := Int.mul_nonneg (show 0 ≤ -a.tmod 64 by have := r2 (by omega); omega) (show 0 ≤ b by omega)
          rw [Int.neg_mul] at hr
          have u := cl_low (ml_under (a := a) (b := b) (by omega) (by omega))
          rw [u.1, u.2]
          exact mulc_np a b w q1 q2 h3 h4 (by omega) hb g (by simp; omega) (by simpa using ha)
        · have o := under_pos (q := -a.tdiv 64) hb (by omega)
          rw [Int.neg_mul] at o
          have o2 := Int.mul_nonneg (show 0 ≤ -a.tdiv 64 by omega) (show 0 ≤ b by omega)
          rw [Int.neg_mul] at o2
          exact mulc_fnp a b w q1 q2 h3 h4 (by omega) hb (by omega) (ml_bd a b h3 h4 (by omega) (by omega))

set_option maxHeartbeats 400000 in
theorem mul_calls (a b : Int) (w : World) :
    Calls Try.prog 28 #[.int .i64 a, .int .i64 b] w fun e w' => e = .returned (.tuple #[.int .i64 (cl (ml (cl a) (cl b))), .bool (clB a && clB b && clB (ml (cl a) (cl b)))]) ∧ w = w' := by
  have h1 := cl_lo a
  have h2 := cl_lo b
  have h3 := cl_hi a
  have h4 := cl_hi b
  go_enter Try.func28, Try.ntmps28
  go_wp2_with (first | (go_at_call 22; refine (clamp_calls _ _).mono ?_; rintro e w' ⟨rfl, rfl⟩) | (go_at_call 42; refine (mulc_calls _ _ _ (by assumption) (by assumption) (by assumption) (by assumption)).mono ?_; rintro e w' ⟨rfl, rfl⟩) | go_in)
  all_goals (go_ret2; exact ⟨ret_ib rfl (by simp [*]), rfl⟩)
def fixed_Mul.f (a0 a1 : Int) : Option (Int × Bool) := some (cl (ml (cl a0) (cl a1)), clB a0 && clB a1 && clB (ml (cl a0) (cl a1)))
theorem fixed_Mul.calls (a0 : Int) (a1 : Int) (r1 : Int) (r2 : Bool) (w : World) (h : fixed_Mul.f a0 a1 = some (r1, r2)) :
    Calls Try.prog 28 #[.int .i64 a0, .int .i64 a1] w fun e w' => e = .returned (.tuple #[.int .i64 r1, .bool r2]) ∧ Drawn0 w w' := by
  unfold fixed_Mul.f at h
  simp only [Option.some.injEq, Prod.mk.injEq] at h
  obtain ⟨rfl, rfl⟩ := h
  exact (mul_calls a0 a1 w).mono fun e w' ⟨he, hw⟩ => ⟨he, hw ▸ Drawn0.refl _⟩
end Go.Proofs.Ytgppemaekgnnfaa.Q
