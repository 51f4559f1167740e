/- The function Sub of package fixed: what it computes, and that the Go code computes it. -/
import Derived.Test.YtnjheeoogglnaaaFx
namespace Go.Proofs.Ytnjheeoogglnaaa.Q
open Go.RowKit Go.Proofs.YtnjheeoogglnaaaW.PrintWords Go.Proofs.YtnjheeoogglnaaaW.PrintLast Go.Proofs.YtnjheeoogglnaaaW.PrintMore
attribute [local go_sem] max2_int min2_int max_two min_two

set_option maxHeartbeats 400000 in
theorem sub_calls (a b : Int) (w : World) :
    Calls Try.prog 45 #[.int .i64 a, .int .i64 b] w fun e w' => e = .returned (.tuple #[.int .i64 (cl (cl a - cl b)), .bool (clB a && clB b && clB (cl a - cl b))]) ∧ w = w' := by
  have h1 := cl_lo a
  have h2 := cl_lo b
  have h3 := cl_hi a
  have h4 := cl_hi b
  go_enter Try.func45, Try.ntmps45
  go_wp2_with (first | (go_at_call 55; refine (clamp_calls _ _).mono ?_; rintro e w' ⟨rfl, rfl⟩) | go_in)
  all_goals (go_ret2; exact ⟨ret_ib rfl (by simp [*]), rfl⟩)
def fixed_Sub.f (a0 a1 : Int) : Option (Int × Bool) := some (cl (cl a0 - cl a1), clB a0 && clB a1 && clB (cl a0 - cl a1))
theorem fixed_Sub.calls (a0 : Int) (a1 : Int) (r1 : Int) (r2 : Bool) (w : World) (h : fixed_Sub.f a0 a1 = some (r1, r2)) :
    Calls Try.prog 45 #[.int .i64 a0, .int .i64 a1] w fun e w' => e = .returned (.tuple #[.int .i64 r1, .bool r2]) ∧ Drawn0 w w' := by
  unfold fixed_Sub.f at h
  simp only [Option.some.injEq, Prod.mk.injEq] at h
  obtain ⟨rfl, rfl⟩ := h
  exact (sub_calls a0 a1 w).mono fun e w' ⟨he, hw⟩ => ⟨he, hw ▸ Drawn0.refl _⟩
end Go.Proofs.Ytnjheeoogglnaaa.Q
