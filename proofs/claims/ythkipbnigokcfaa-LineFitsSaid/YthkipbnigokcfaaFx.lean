/- The functions of package fixed that hand function values about (Clamp, Add): what each computes, and that the Go code computes it. -/
import Derived.Test.YthkipbnigokcfaaProg
import Derived.WalkKit
import Derived.Below
import Derived.OwnWalk
import Derived.KernelRfl
import Derived.RowKit3
import Derived.WideLaws
import Derived.Lib.Hide
import Derived.Test.YthkipbnigokcfaaWMore
namespace Go.Proofs.Ythkipbnigokcfaa.Q
open Go.RowKit Go.Proofs.YthkipbnigokcfaaW.PrintWords Go.Proofs.YthkipbnigokcfaaW.PrintLast Go.Proofs.YthkipbnigokcfaaW.PrintMore
attribute [local go_sem] max2_int min2_int max_two min_two

/-! ### The numbers -/
def cl (n : Int) : Int := if n < -1099511627776 then -1099511627776 else if 1099511627776 < n then 1099511627776 else n
def clB (n : Int) : Bool := !(decide (n < -1099511627776) || decide (1099511627776 < n))
theorem cl_lo (n : Int) : -1099511627776 ≤ cl n := by unfold cl; split <;> (try split) <;> omega
theorem cl_hi (n : Int) : cl n ≤ 1099511627776 := by unfold cl; split <;> (try split) <;> omega
theorem cl_low {n : Int} (h : n < -1099511627776) : cl n = -1099511627776 ∧ clB n = false := by simp [cl, clB, h]
theorem cl_high {n : Int} (h : 1099511627776 < n) : cl n = 1099511627776 ∧ clB n = false := by
  have h' : ¬ n < -1099511627776 := by omega
  simp [cl, clB, h, h']
theorem cl_in {n : Int} (h : ¬ n < -1099511627776) (h' : ¬ 1099511627776 < n) : cl n = n ∧ clB n = true := by simp [cl, clB, h, h']

theorem ret_ib {a c : Int} {b d : Bool} (h : a = c) (k : b = d) : Ending.returned (.tuple #[.int .i64 a, .bool b]) = .returned (.tuple #[.int .i64 c, .bool d]) := by rw [h, k]

/-! ### The walks -/
set_option maxHeartbeats 400000 in
theorem clamp_calls (a : Int) (w : World) :
    Calls Try.prog 29 #[.int .i64 a] w fun e w' => e = .returned (.tuple #[.int .i64 (cl a), .bool (clB a)]) ∧ w = w' := by
  by_cases h1 : a < -1099511627776
  · rw [(cl_low h1).1, (cl_low h1).2]
    go_enter Try.func29, Try.ntmps29
    go_wp2
    all_goals (go_ret2; exact ⟨ret_ib rfl (by first | rfl | (simp; omega)), rfl⟩)
  · by_cases h2 : 1099511627776 < a
    · rw [(cl_high h2).1, (cl_high h2).2]
      go_enter Try.func29, Try.ntmps29
      go_wp2
      all_goals (go_ret2; exact ⟨ret_ib rfl (by first | rfl | (simp; omega)), rfl⟩)
    · rw [(cl_in h1 h2).1, (cl_in h1 h2).2]
      go_enter Try.func29, Try.ntmps29
      go_wp2
      all_goals (go_ret2; exact ⟨ret_ib rfl (by first | rfl | (simp; omega)), rfl⟩)
def fixed_Clamp.f (a0 : Int) : Option (Int × Bool) := some (cl a0, clB a0)
theorem fixed_Clamp.calls (a0 : Int) (r1 : Int) (r2 : Bool) (w : World) (h : fixed_Clamp.f a0 = some (r1, r2)) :
    Calls Try.prog 29 #[.int .i64 a0] w fun e w' => e = .returned (.tuple #[.int .i64 r1, .bool r2]) ∧ Drawn0 w w' := by
  unfold fixed_Clamp.f at h
  simp only [Option.some.injEq, Prod.mk.injEq] at h
  obtain ⟨rfl, rfl⟩ := h
  exact (clamp_calls a0 w).mono fun e w' ⟨he, hw⟩ => ⟨he, hw ▸ Drawn0.refl _⟩

set_option maxHeartbeats 400000 in
theorem add_calls (a b : Int) (w : World) :
    Calls Try.prog 25 #[.int .i64 a, .int .i64 b] w fun e w' => e = .returned (.tuple #[.int .i64 (cl (cl a + cl b)), .bool (clB a && clB b && clB (cl a + cl b))]) ∧ w = w' := by
  have h1 := cl_lo a
  have h2 := cl_lo b
  have h3 := cl_hi a
  have h4 := cl_hi b
  go_enter Try.func25, Try.ntmps25
  go_wp2_with (first | (go_at_call 29; refine (clamp_calls _ _).mono ?_; rintro e w' ⟨rfl, rfl⟩) | go_in)
  all_goals (go_ret2; exact ⟨ret_ib rfl (by simp [*]), rfl⟩)
def fixed_Add.f (a0 a1 : Int) : Option (Int × Bool) := some (cl (cl a0 + cl a1), clB a0 && clB a1 && clB (cl a0 + cl a1))
theorem fixed_Add.calls (a0 : Int) (a1 : Int) (r1 : Int) (r2 : Bool) (w : World) (h : fixed_Add.f a0 a1 = some (r1, r2)) :
    Calls Try.prog 25 #[.int .i64 a0, .int .i64 a1] w fun e w' => e = .returned (.tuple #[.int .i64 r1, .bool r2]) ∧ Drawn0 w w' := by
  unfold fixed_Add.f at h
  simp only [Option.some.injEq, Prod.mk.injEq] at h
  obtain ⟨rfl, rfl⟩ := h
  exact (add_calls a0 a1 w).mono fun e w' ⟨he, hw⟩ => ⟨he, hw ▸ Drawn0.refl _⟩
end Go.Proofs.Ythkipbnigokcfaa.Q
