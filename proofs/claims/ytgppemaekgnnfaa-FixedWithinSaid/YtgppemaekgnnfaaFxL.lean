/- Plain laws of the fixed numbers' functions: what each printed function tells, without rounds. -/
import Derived.Test.YtgppemaekgnnfaaQx1
import Derived.Test.YtgppemaekgnnfaaFxM
import Derived.Test.YtgppemaekgnnfaaFxS
namespace Go.Proofs.Ytgppemaekgnnfaa.Q
open Go.RowKit Go.Proofs.YtgppemaekgnnfaaW.PrintWords Go.Proofs.YtgppemaekgnnfaaW.PrintLast

theorem wf_i64 {a : Int} (h : (Lit.int .i64 a).wf = true) : -9223372036854775808 ≤ a ∧ a ≤ 9223372036854775807 := by
  simp [Lit.wf, IntKind.min, IntKind.max, IntKind.signed, IntKind.bits] at h
  omega

theorem wrap64_id {a : Int} (h1 : -9223372036854775808 ≤ a) (h2 : a ≤ 9223372036854775807) : wrap64 a = a := by unfold wrap64; omega

theorem clB_iff {n : Int} : clB n = true ↔ -1099511627776 ≤ n ∧ n ≤ 1099511627776 := by unfold clB; simp
theorem cl_eq {n : Int} (h : clB n = true) : cl n = n := by
  rw [clB_iff] at h
  unfold cl; split <;> (try split) <;> omega
theorem cl_mono {a b : Int} (h : a ≤ b) : cl a ≤ cl b := by unfold cl; split <;> split <;> (try split) <;> (try split) <;> omega
theorem clB_cl (n : Int) : clB (cl n) = true := by
  rw [clB_iff]
  exact ⟨cl_lo n, cl_hi n⟩

/-- A part, as the program tells it. -/
def prt (a num den : Int) : Int := if num < 0 ∨ num > 1048576 ∨ den < 1 ∨ den > 1048576 then 0 else cl ((cl a * num).tdiv den)
def prtB (a num den : Int) : Bool := if num < 0 ∨ num > 1048576 ∨ den < 1 ∨ den > 1048576 then false else clB a && clB ((cl a * num).tdiv den)

theorem mul_bd {x n : Int} (h1 : -1099511627776 ≤ x) (h2 : x ≤ 1099511627776) (h3 : 0 ≤ n) (h4 : n ≤ 1048576) : -1152921504606846976 ≤ x * n ∧ x * n ≤ 1152921504606846976 := by
  have a := Int.mul_le_mul_of_nonneg_right h2 h3
  have b := Int.mul_le_mul_of_nonneg_right h1 h3
  have c : (1099511627776 : Int) * n ≤ 1099511627776 * 1048576 := Int.mul_le_mul_of_nonneg_left h4 (by decide)
  omega
theorem tdiv_bd {x d M : Int} (h1 : -M ≤ x) (h2 : x ≤ M) (h3 : 1 ≤ d) : -M ≤ x.tdiv d ∧ x.tdiv d ≤ M := by
  rcases Int.le_total 0 x with h | h
  · rw [Int.tdiv_eq_ediv_of_nonneg h]
    have := Int.ediv_le_self d h
    have := Int.ediv_nonneg h (show 0 ≤ d by omega)
    omega
  · have e : x = -(-x) := by omega
    rw [e, Int.neg_tdiv, Int.tdiv_eq_ediv_of_nonneg (by omega)]
    have := Int.ediv_le_self d (show 0 ≤ -x by omega)
    have := Int.ediv_nonneg (show 0 ≤ -x by omega) (show 0 ≤ d by omega)
    omega

theorem part_f (k : Nat) (a num den : Int) : fixed_Part.f (k + 1) a num den = some (prt a num den, prtB a num den) := by
  unfold fixed_Part.f prt prtB
  by_cases h1 : num < 0
  · rw [if_pos h1, if_pos (.inl h1), if_pos (.inl h1)]; rfl
  rw [if_neg h1]
  by_cases h2 : num > 1048576
  · rw [if_pos h2, if_pos (.inr (.inl h2)), if_pos (.inr (.inl h2))]; rfl
  rw [if_neg h2]
  by_cases h3 : den < 1
  · rw [if_pos h3, if_pos (.inr (.inr (.inl h3))), if_pos (.inr (.inr (.inl h3)))]; rfl
  rw [if_neg h3]
  by_cases h4 : den > 1048576
  · rw [decide_eq_true h4, if_pos (.inr (.inr (.inr h4))), if_pos (.inr (.inr (.inr h4)))]; rfl
  have hn : ¬ (num < 0 ∨ num > 1048576 ∨ den < 1 ∨ den > 1048576) := by omega
  rw [decide_eq_false h4, if_neg hn, if_neg hn]
  have b := mul_bd (cl_lo a) (cl_hi a) (show 0 ≤ num by omega) (show num ≤ 1048576 by omega)
  have c := tdiv_bd (d := den) b.1 b.2 (by omega)
  simp only [fixed_Part.j0, fixed_Clamp.f, Option.bind_some, Bool.false_eq_true, if_false]
  rw [if_neg (by omega), wrap64_id (a := cl a * num) (by omega) (by omega), wrap64_id (by omega) (by omega)]
  cases clB a <;> simp

theorem px_f (a : Int) : fixed_Px.f a = some (cl (ml (cl a) 4096), clB a && clB (ml (cl a) 4096)) := by
  unfold fixed_Px.f fixed_Mul.f
  have e : cl 4096 = 4096 := by decide
  have e2 : clB 4096 = true := by decide
  rw [e, e2]
  simp
theorem ml_px (a : Int) : ml a 4096 = 64 * a := by
  unfold ml
  have e : a * 4096 = (64 * a) * 64 := by omega
  rw [e, Int.mul_tdiv_cancel _ (by decide)]

/-- A sum, from a number on. -/
def sm : Int → Bool → List Int → Int × Bool
  | n, e, [] => (n, e)
  | n, e, x :: l => sm (cl (cl n + cl x)) (e && (clB n && clB x && clB (cl n + cl x))) l

theorem rd_nat (l : List Int) (i : Nat) (h : i < l.length) : rd l (i : Int) = l[i] := by
  unfold rd; simp [h]

theorem sum_l0 (l : List Int) (hl : l.length * 8 ≤ 140737488351232) : ∀ (d i k : Nat) (n : Int) (e : Bool), i + d = l.length → d < k →
    fixed_Sum.l0 k n e l (l.length : Int) (i : Int) = some (sm n e (l.drop i)) := by
  intro d
  induction d with
  | zero =>
    intro i k n e h hk
    obtain ⟨k, rfl⟩ : ∃ m, k = m + 1 := ⟨k - 1, by omega⟩
    simp only [fixed_Sum.l0]
    rw [if_neg (by omega), List.drop_eq_nil_of_le (by omega)]
    rfl
  | succ d ih =>
    intro i k n e h hk
    obtain ⟨k, rfl⟩ : ∃ m, k = m + 1 := ⟨k - 1, by omega⟩
    have hi : i < l.length := by omega
    have w : wrap64 ((i : Int) + 1) = ((i + 1 : Nat) : Int) := by rw [wrap64_id (by omega) (by omega)]; omega
    simp only [fixed_Sum.l0]
    rw [if_pos (by omega), if_pos (by omega), if_pos (by omega), rd_nat l i hi, w]
    simp only [fixed_Add.f, Option.bind_some]
    rw [List.drop_eq_getElem_cons hi]
    have a := ih (i + 1) k (cl (cl n + cl l[i])) (clB n && clB l[i] && clB (cl n + cl l[i])) (by omega) (by omega)
    have b := ih (i + 1) k (cl (cl n + cl l[i])) false (by omega) (by omega)
    cases e
    · rw [if_neg (by decide), b]; simp [sm]
    · rw [if_pos rfl, a]; simp [sm]

theorem sum_f (l : List Int) (hl : l.length * 8 ≤ 140737488351232) (k : Nat) (hk : l.length < k) : fixed_Sum.f k l = some (sm 0 true l) := by
  have := sum_l0 l hl l.length 0 k 0 true (by omega) hk
  unfold fixed_Sum.f
  simpa using this

theorem awake_f (k : Nat) : scrimlaw01_awake.f (k + 5) = some true := by
  unfold scrimlaw01_awake.f
  rw [part_f (k + 4), part_f (k + 4), sum_f _ (by decide) _ (by simp), px_f]
  rfl
end Go.Proofs.Ytgppemaekgnnfaa.Q
