/- The pure statement of FixedRises: a greater number never tells a lesser sum, product with what isn't below 0, or part. -/
import Derived.Test.YtgppemaekgnnfaaQx4
import Derived.Test.YtgppemaekgnnfaaFxL
namespace Go.Proofs.Ytgppemaekgnnfaa.Pure
open Go.RowKit Go.Proofs.Ytgppemaekgnnfaa.Q Go.Proofs.YtgppemaekgnnfaaW.PrintWords Go.Proofs.YtgppemaekgnnfaaW.PrintLast

theorem tdiv_mono {x y d : Int} (h : x ≤ y) (hd : 0 < d) : x.tdiv d ≤ y.tdiv d := by
  rcases Int.le_total 0 x with hx | hx
  · rw [Int.tdiv_eq_ediv_of_nonneg hx, Int.tdiv_eq_ediv_of_nonneg (by omega)]
    exact Int.ediv_le_ediv hd h
  · have ex : x = -(-x) := by omega
    rw [ex, Int.neg_tdiv, Int.tdiv_eq_ediv_of_nonneg (by omega)]
    have h1 := Int.ediv_nonneg (show 0 ≤ -x by omega) (show 0 ≤ d by omega)
    rcases Int.le_total 0 y with hy | hy
    · rw [Int.tdiv_eq_ediv_of_nonneg hy]
      have h2 := Int.ediv_nonneg hy (show 0 ≤ d by omega)
      omega
    · have ey : y = -(-y) := by omega
      rw [ey, Int.neg_tdiv, Int.tdiv_eq_ediv_of_nonneg (by omega)]
      have h2 := Int.ediv_le_ediv hd (show -y ≤ -x by omega)
      omega

theorem ml_mono {a b c : Int} (h : a ≤ b) (hc : 0 ≤ c) : ml a c ≤ ml b c := by
  unfold ml
  exact tdiv_mono (Int.mul_le_mul_of_nonneg_right h hc) (by decide)

theorem prt_mono {a b : Int} (h : a ≤ b) (n d : Int) : prt a n d ≤ prt b n d := by
  unfold prt
  split
  · exact Int.le_refl _
  · exact cl_mono (tdiv_mono (Int.mul_le_mul_of_nonneg_right (cl_mono h) (by omega)) (by omega))

theorem rises {a b : Int} (h : a ≤ b) (c n d : Int) (k : Nat) : scrimlaw01_FixedRises.j0 (k + 2) a b c n d = some true := by
  have e1 := cl_mono (a := cl a + cl c) (b := cl b + cl c) (by have := cl_mono h; omega)
  have hm : 0 ≤ cl (mx c 0) := by unfold mx cl; split <;> split <;> (try split) <;> omega
  have e2 := cl_mono (ml_mono (cl_mono h) hm)
  have e3 := prt_mono h n d
  simp only [scrimlaw01_FixedRises.j0, fixed_Add.f, fixed_Mul.f, Option.bind_some, part_f k]
  rw [if_pos e1, if_pos e2, decide_eq_true e3]

theorem FixedRises : scrimlaw01_FixedRises.Pure := by
  intro a b c n d _ _ _ _ _
  refine ⟨5, ?_⟩
  unfold scrimlaw01_FixedRises.f
  rw [awake_f 0]
  simp only [Option.bind_some, if_true]
  by_cases h : a > b
  · rw [if_pos h]; exact rises (by omega) _ _ _ 3
  · rw [if_neg h]; exact rises (by omega) _ _ _ 3
end Go.Proofs.Ytgppemaekgnnfaa.Pure
