/- Exact sums told plainly. -/
import Derived.Test.YtnjheeoogglnaaaRcT
namespace Go.Proofs.Ytnjheeoogglnaaa.Q
open Go.RowKit Go.IntWalk Go.Proofs.Ytnjheeoogglnaaa.Mem Go.Proofs.YtnjheeoogglnaaaW.PrintWords Go.Proofs.YtnjheeoogglnaaaW.PrintLast Go.Proofs.YtnjheeoogglnaaaW.PrintMore
set_option linter.unusedVariables false
set_option linter.unusedSimpArgs false

theorem cl_id {n : Int} (h : -1099511627776 ≤ n ∧ n ≤ 1099511627776) : cl n = n := by unfold cl; rw [if_neg (by omega), if_neg (by omega)]
theorem sAe_iff (a b : Int) : sAe a b = true ↔ (-1099511627776 ≤ a ∧ a ≤ 1099511627776) ∧ (-1099511627776 ≤ b ∧ b ≤ 1099511627776) ∧ (-1099511627776 ≤ a + b ∧ a + b ≤ 1099511627776) := by
  unfold sAe
  simp only [Bool.and_eq_true, clB_iff]
  constructor
  · rintro ⟨⟨h1, h2⟩, h3⟩
    rw [cl_id h1, cl_id h2] at h3
    exact ⟨h1, h2, h3⟩
  · rintro ⟨h1, h2, h3⟩
    rw [cl_id h1, cl_id h2]
    exact ⟨⟨h1, h2⟩, h3⟩
theorem sA_of {a b : Int} (h : sAe a b = true) : sA a b = a + b := by
  obtain ⟨h1, h2, h3⟩ := (sAe_iff a b).1 h
  unfold sA
  rw [cl_id h1, cl_id h2, cl_id h3]
theorem sSe_iff (a b : Int) : sSe a b = true ↔ (-1099511627776 ≤ a ∧ a ≤ 1099511627776) ∧ (-1099511627776 ≤ b ∧ b ≤ 1099511627776) ∧ (-1099511627776 ≤ a - b ∧ a - b ≤ 1099511627776) := by
  unfold sSe
  simp only [Bool.and_eq_true, clB_iff]
  constructor
  · rintro ⟨⟨h1, h2⟩, h3⟩
    rw [cl_id h1, cl_id h2] at h3
    exact ⟨h1, h2, h3⟩
  · rintro ⟨h1, h2, h3⟩
    rw [cl_id h1, cl_id h2]
    exact ⟨⟨h1, h2⟩, h3⟩
theorem sS_of {a b : Int} (h : sSe a b = true) : sS a b = a - b := by
  obtain ⟨h1, h2, h3⟩ := (sSe_iff a b).1 h
  unfold sS
  rw [cl_id h1, cl_id h2, cl_id h3]
end Go.Proofs.Ytnjheeoogglnaaa.Q
