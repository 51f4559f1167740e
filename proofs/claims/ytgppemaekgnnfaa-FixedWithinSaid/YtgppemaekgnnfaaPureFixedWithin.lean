/- The pure statement of FixedWithin: what is told may be; sums and products go either way; what was added exactly is taken off exactly. -/
import Derived.Test.YtgppemaekgnnfaaQx3
import Derived.Test.YtgppemaekgnnfaaFxL
namespace Go.Proofs.Ytgppemaekgnnfaa.Pure
open Go.RowKit Go.Proofs.Ytgppemaekgnnfaa.Q Go.Proofs.YtgppemaekgnnfaaW.PrintWords Go.Proofs.YtgppemaekgnnfaaW.PrintLast

theorem within_f {n : Int} (h1 : -1099511627776 ≤ n) (h2 : n ≤ 1099511627776) : scrimlaw01_within.f n = some true := by
  unfold scrimlaw01_within.f
  rw [if_pos h1, decide_eq_true h2]
theorem within_cl (n : Int) : scrimlaw01_within.f (cl n) = some true := within_f (cl_lo n) (cl_hi n)
theorem within_prt (a n d : Int) : scrimlaw01_within.f (prt a n d) = some true := by
  unfold prt
  split
  · exact within_f (by decide) (by decide)
  · exact within_cl _

theorem FixedWithin : scrimlaw01_FixedWithin.Pure := by
  intro a b c _ _ _
  refine ⟨5, ?_⟩
  unfold scrimlaw01_FixedWithin.f
  rw [awake_f 0]
  have ec : ml (cl b) (cl a) = ml (cl a) (cl b) := by unfold ml; rw [Int.mul_comm]
  have es : cl b + cl a = cl a + cl b := Int.add_comm _ _
  simp only [Option.bind_some, if_true, fixed_Add.f, fixed_Mul.f, fixed_Sub.f, part_f 4, px_f, within_cl, within_prt, ec, es]
  have e1 : (clB b && clB a) = (clB a && clB b) := Bool.and_comm _ _
  rw [e1]
  simp only [bne_self_eq_false, Bool.false_eq_true, if_false, scrimlaw01_FixedWithin.j0, fixed_Sub.f, Option.bind_some]
  by_cases h : (clB a && clB b && clB (cl a + cl b)) = true
  · rw [if_pos h]
    simp only [Bool.and_eq_true] at h
    obtain ⟨⟨ha, hb⟩, hs⟩ := h
    have ea := cl_eq ha
    have eb := cl_eq hb
    rw [ea, eb] at hs ⊢
    have ess := cl_eq hs
    have e2 : a + b - b = a := by omega
    rw [ess, ess, e2, ea, ha, hb, hs]
    have w : wrap64 (a + b) = a + b := by
      have h1 := clB_iff.1 ha
      have h2 := clB_iff.1 hb
      exact wrap64_id (by omega) (by omega)
    rw [w]
    simp
  · rw [if_neg h]
end Go.Proofs.Ytgppemaekgnnfaa.Pure
