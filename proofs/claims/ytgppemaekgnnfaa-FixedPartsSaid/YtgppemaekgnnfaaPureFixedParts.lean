/- The pure statement of FixedParts: a part and the rest of it are the whole, or one unit less. -/
import Derived.Test.YtgppemaekgnnfaaQx4
import Derived.Test.YtgppemaekgnnfaaFxL
namespace Go.Proofs.Ytgppemaekgnnfaa.Pure
open Go.RowKit Go.Proofs.Ytgppemaekgnnfaa.Q Go.Proofs.YtgppemaekgnnfaaW.PrintWords Go.Proofs.YtgppemaekgnnfaaW.PrintLast

theorem parts_sum {a n d : Int} (h0 : 0 ≤ a) (hn : 0 ≤ n) (hd : n ≤ d) (hp : 1 ≤ d) :
    0 ≤ a * n / d ∧ 0 ≤ a * (d - n) / d ∧ a * n / d + a * (d - n) / d ≤ a ∧ a - 1 ≤ a * n / d + a * (d - n) / d := by
  have hx := Int.mul_nonneg h0 hn
  have hy := Int.mul_nonneg h0 (show 0 ≤ d - n by omega)
  have e : a * n + a * (d - n) = a * d := by rw [← Int.mul_add]; congr 1; omega
  generalize a * n = x at *
  generalize a * (d - n) = y at *
  have x1 := Int.mul_ediv_self_le (x := x) (k := d) (by omega)
  have x2 := Int.lt_mul_ediv_self_add (x := x) (k := d) (by omega)
  have y1 := Int.mul_ediv_self_le (x := y) (k := d) (by omega)
  have y2 := Int.lt_mul_ediv_self_add (x := y) (k := d) (by omega)
  have hx0 := Int.ediv_nonneg hx (show 0 ≤ d by omega)
  have hy0 := Int.ediv_nonneg hy (show 0 ≤ d by omega)
  generalize x / d = p at *
  generalize y / d = q at *
  refine ⟨hx0, hy0, ?_, ?_⟩
  · apply Int.le_of_mul_le_mul_left (a := d) _ (by omega)
    rw [Int.mul_add, Int.mul_comm d a]; omega
  · have k : d * (a - 2) < d * (p + q) := by
      rw [Int.mul_add, Int.mul_sub, Int.mul_comm d a]; omega
    have := Int.lt_of_mul_lt_mul_left k (by omega)
    omega

theorem prt_in {a n d : Int} (h0 : 0 ≤ a) (h1 : a ≤ 1099511627776) (hn : 0 ≤ n) (hd : n ≤ d) (hp : 1 ≤ d) (hq : d ≤ 1048576) :
    prt a n d = a * n / d ∧ prtB a n d = true := by
  have ha : clB a = true := clB_iff.2 ⟨by omega, h1⟩
  have e := cl_eq ha
  have hx := Int.mul_nonneg h0 hn
  have hle : a * n / d ≤ a := by
    have := (parts_sum h0 hn hd hp)
    omega
  have hge := Int.ediv_nonneg hx (show 0 ≤ d by omega)
  have hb : clB ((a * n).tdiv d) = true := by
    rw [Int.tdiv_eq_ediv_of_nonneg hx]
    exact clB_iff.2 ⟨by omega, by omega⟩
  have hno : ¬ (n < 0 ∨ n > 1048576 ∨ d < 1 ∨ d > 1048576) := by omega
  unfold prt prtB
  rw [if_neg hno, if_neg hno, e, cl_eq hb, ha, hb, Int.tdiv_eq_ediv_of_nonneg hx]
  exact ⟨rfl, rfl⟩

theorem parts (a n d : Int) (k : Nat) (h0 : 0 ≤ a) (h1 : a ≤ 1099511627776) (hn : 0 ≤ n) (hd : n ≤ d) (hp : 1 ≤ d) (hq : d ≤ 1048576) :
    scrimlaw01_FixedParts.j0 (k + 2) a n d false = some true := by
  obtain ⟨p1, p2, p3, p4⟩ := parts_sum h0 hn hd hp
  obtain ⟨a1, a2⟩ := prt_in h0 h1 hn hd hp hq
  obtain ⟨b1, b2⟩ := prt_in (n := d - n) h0 h1 (by omega) (by omega) hp hq
  obtain ⟨c1, c2⟩ := prt_in (n := d) h0 h1 (by omega) (by omega) hp hq
  have e : a * d / d = a := Int.mul_ediv_cancel _ (by omega)
  have w : wrap64 (d - n) = d - n := wrap64_id (by omega) (by omega)
  simp only [scrimlaw01_FixedParts.j0, part_f k, Option.bind_some, w, a1, a2, b1, b2, c1, c2, e]
  have w1 : wrap64 (a * n / d + a * (d - n) / d) = a * n / d + a * (d - n) / d := wrap64_id (by omega) (by omega)
  have w2 : wrap64 (a - 1) = a - 1 := wrap64_id (by omega) (by omega)
  rw [w1, w2]
  rw [if_pos trivial, if_pos trivial, if_pos trivial, if_pos trivial, if_pos p1, if_pos p2, if_pos p3, decide_eq_true p4]
  rfl

theorem FixedParts : scrimlaw01_FixedParts.Pure := by
  intro a n d _ _ _
  refine ⟨5, ?_⟩
  unfold scrimlaw01_FixedParts.f
  rw [awake_f 0]
  simp only [Option.bind_some, if_true]
  have t : ∀ k, scrimlaw01_FixedParts.j0 (k + 1) a n d true = some true := fun k => by simp [scrimlaw01_FixedParts.j0]
  by_cases h1 : a < 0
  · rw [if_pos h1]; exact t 4
  rw [if_neg h1]
  by_cases h2 : a > 1099511627776
  · rw [if_pos h2]; exact t 4
  rw [if_neg h2]
  by_cases h3 : n < 0
  · rw [if_pos h3]; exact t 4
  rw [if_neg h3]
  by_cases h4 : n > d
  · rw [if_pos h4]; exact t 4
  rw [if_neg h4]
  by_cases h5 : d < 1
  · rw [if_pos h5]; exact t 4
  rw [if_neg h5]
  by_cases h6 : d > 1048576
  · rw [decide_eq_true h6]; exact t 4
  rw [decide_eq_false h6]
  exact parts a n d 3 (by omega) (by omega) (by omega) (by omega) (by omega) (by omega)
end Go.Proofs.Ytgppemaekgnnfaa.Pure
