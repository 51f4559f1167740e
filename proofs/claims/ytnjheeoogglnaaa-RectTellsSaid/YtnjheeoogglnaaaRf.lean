/- The reference's Clamp and Add: the same numbers. -/
import Derived.Test.YtnjheeoogglnaaaFx
namespace Go.Proofs.Ytnjheeoogglnaaa.Q
open Go.RowKit Go.Proofs.YtnjheeoogglnaaaW.PrintWords Go.Proofs.YtnjheeoogglnaaaW.PrintLast Go.Proofs.YtnjheeoogglnaaaW.PrintMore
set_option linter.unusedVariables false

set_option maxHeartbeats 400000 in
theorem rclamp_calls (a : Int) (w : World) :
    Calls Try.prog 49 #[.int .i64 a] w fun e w' => e = .returned (.tuple #[.int .i64 (cl a), .bool (clB a)]) ∧ w = w' := by
  by_cases h1 : a < -1099511627776
  · rw [(cl_low h1).1, (cl_low h1).2]
    go_enter Try.func49, Try.ntmps49
    go_wp2
    go_ret2
    exact ⟨rfl, rfl⟩
  · by_cases h2 : 1099511627776 < a
    · rw [(cl_high h2).1, (cl_high h2).2]
      go_enter Try.func49, Try.ntmps49
      go_wp2
      go_ret2
      exact ⟨rfl, rfl⟩
    · rw [(cl_in h1 h2).1, (cl_in h1 h2).2]
      go_enter Try.func49, Try.ntmps49
      go_wp2
      go_ret2
      exact ⟨rfl, rfl⟩
def scrimref01_Clamp.f (a0 : Int) : Option (Int × Bool) := some (cl a0, clB a0)
theorem scrimref01_Clamp.calls (a0 : Int) (r1 : Int) (r2 : Bool) (w : World) (h : scrimref01_Clamp.f a0 = some (r1, r2)) :
    Calls Try.prog 49 #[.int .i64 a0] w fun e w' => e = .returned (.tuple #[.int .i64 r1, .bool r2]) ∧ Drawn0 w w' := by
  unfold scrimref01_Clamp.f at h
  simp only [Option.some.injEq, Prod.mk.injEq] at h
  obtain ⟨rfl, rfl⟩ := h
  exact (rclamp_calls a0 w).mono fun e w' ⟨he, hw⟩ => ⟨he, hw ▸ Drawn0.refl _⟩

set_option maxHeartbeats 400000 in
theorem radd_calls (a b : Int) (w : World) :
    Calls Try.prog 43 #[.int .i64 a, .int .i64 b] w fun e w' => e = .returned (.tuple #[.int .i64 (cl (cl a + cl b)), .bool (clB a && clB b && clB (cl a + cl b))]) ∧ w = w' := by
  have h1 := cl_lo a
  have h2 := cl_lo b
  have h3 := cl_hi a
  have h4 := cl_hi b
  go_enter Try.func43, Try.ntmps43
  go_wp2_with (go_at_call 49; refine (rclamp_calls _ _).mono ?_; rintro e w' ⟨rfl, rfl⟩)
  all_goals (go_ret2; exact ⟨ret_ib rfl (by simp [*]), rfl⟩)
def scrimref01_Add.f (a0 a1 : Int) : Option (Int × Bool) := some (cl (cl a0 + cl a1), clB a0 && clB a1 && clB (cl a0 + cl a1))
theorem scrimref01_Add.calls (a0 : Int) (a1 : Int) (r1 : Int) (r2 : Bool) (w : World) (h : scrimref01_Add.f a0 a1 = some (r1, r2)) :
    Calls Try.prog 43 #[.int .i64 a0, .int .i64 a1] w fun e w' => e = .returned (.tuple #[.int .i64 r1, .bool r2]) ∧ Drawn0 w w' := by
  unfold scrimref01_Add.f at h
  simp only [Option.some.injEq, Prod.mk.injEq] at h
  obtain ⟨rfl, rfl⟩ := h
  exact (radd_calls a0 a1 w).mono fun e w' ⟨he, hw⟩ => ⟨he, hw ▸ Drawn0.refl _⟩
end Go.Proofs.Ytnjheeoogglnaaa.Q
