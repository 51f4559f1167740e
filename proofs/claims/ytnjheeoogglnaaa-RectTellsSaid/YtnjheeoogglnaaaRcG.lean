/- The functions of package rect as plain functions, for the printed texts. -/
import Derived.Test.YtnjheeoogglnaaaRcU
namespace Go.Proofs.Ytnjheeoogglnaaa.Q
open Go.RowKit Go.Proofs.Ytnjheeoogglnaaa.Mem Go.Proofs.YtnjheeoogglnaaaW.PrintWords Go.Proofs.YtnjheeoogglnaaaW.PrintLast Go.Proofs.YtnjheeoogglnaaaW.PrintMore
set_option linter.unusedVariables false
set_option linter.unusedSimpArgs false

def rect_May.f (a0_0 a0_1 a0_2 a0_3 : Int) : Option (Bool) := some (mayB a0_0 a0_1 a0_2 a0_3)
theorem rect_May.calls (a0_0 : Int) (a0_1 : Int) (a0_2 : Int) (a0_3 : Int) (r : Bool) (w : World) (h : rect_May.f a0_0 a0_1 a0_2 a0_3 = some r) :
    Calls Try.prog 34 #[.agg #[.int .i64 a0_0, .int .i64 a0_1, .int .i64 a0_2, .int .i64 a0_3]] w fun e w' => e = .returned (.bool r) ∧ Below w.heap.size w w' := by
  have h' : mayB a0_0 a0_1 a0_2 a0_3 = r := Option.some.inj h
  subst h'
  exact may_calls a0_0 a0_1 a0_2 a0_3 w

def moveF (x y wd h a b : Int) : Int × Int × Int × Int × Bool :=
  if mayB x y wd h = true then (sA x a, sA y b, wd, h, sAe x a && sAe y b) else (0, 0, 0, 0, false)
def rect_Move.f (a0_0 a0_1 a0_2 a0_3 a1 a2 : Int) : Option (Int × Int × Int × Int × Bool) := some (moveF a0_0 a0_1 a0_2 a0_3 a1 a2)
theorem rect_Move.calls (a0_0 : Int) (a0_1 : Int) (a0_2 : Int) (a0_3 : Int) (a1 : Int) (a2 : Int) (r1 : Int) (r2 : Int) (r3 : Int) (r4 : Int) (r5 : Bool) (w : World) (h : rect_Move.f a0_0 a0_1 a0_2 a0_3 a1 a2 = some (r1, r2, r3, r4, r5)) :
    Calls Try.prog 26 #[.agg #[.int .i64 a0_0, .int .i64 a0_1, .int .i64 a0_2, .int .i64 a0_3], .int .i64 a1, .int .i64 a2] w fun e w' => e = .returned (.tuple #[.agg #[.int .i64 r1, .int .i64 r2, .int .i64 r3, .int .i64 r4], .bool r5]) ∧ Below w.heap.size w w' := by
  have h' : moveF a0_0 a0_1 a0_2 a0_3 a1 a2 = (r1, r2, r3, r4, r5) := Option.some.inj h
  clear h
  unfold moveF at h'
  by_cases hm : mayB a0_0 a0_1 a0_2 a0_3 = true
  · rw [if_pos hm] at h'
    simp only [Prod.mk.injEq] at h'
    obtain ⟨rfl, rfl, rfl, rfl, rfl⟩ := h'
    exact (move_yes a0_0 a0_1 a0_2 a0_3 a1 a2 w hm).mono fun e w' hp => ⟨hp.e, hp.below⟩
  · rw [if_neg hm] at h'
    simp only [Prod.mk.injEq] at h'
    obtain ⟨rfl, rfl, rfl, rfl, rfl⟩ := h'
    exact (move_no a0_0 a0_1 a0_2 a0_3 a1 a2 w (by simpa using hm))

def insetF (x y wd h t r b l : Int) : Int × Int × Int × Int × Bool :=
  if mayB x y wd h = true then (sA x l, sA y t, ab (sS (sS wd l) r), ab (sS (sS h t) b), !insR x y wd h t r b l) else (0, 0, 0, 0, false)
def rect_Inset.f (a0_0 a0_1 a0_2 a0_3 a1 a2 a3 a4 : Int) : Option (Int × Int × Int × Int × Bool) := some (insetF a0_0 a0_1 a0_2 a0_3 a1 a2 a3 a4)
theorem rect_Inset.calls (a0_0 : Int) (a0_1 : Int) (a0_2 : Int) (a0_3 : Int) (a1 : Int) (a2 : Int) (a3 : Int) (a4 : Int) (r1 : Int) (r2 : Int) (r3 : Int) (r4 : Int) (r5 : Bool) (w : World) (h : rect_Inset.f a0_0 a0_1 a0_2 a0_3 a1 a2 a3 a4 = some (r1, r2, r3, r4, r5)) :
    Calls Try.prog 28 #[.agg #[.int .i64 a0_0, .int .i64 a0_1, .int .i64 a0_2, .int .i64 a0_3], .int .i64 a1, .int .i64 a2, .int .i64 a3, .int .i64 a4] w fun e w' => e = .returned (.tuple #[.agg #[.int .i64 r1, .int .i64 r2, .int .i64 r3, .int .i64 r4], .bool r5]) ∧ Below w.heap.size w w' := by
  have h' : insetF a0_0 a0_1 a0_2 a0_3 a1 a2 a3 a4 = (r1, r2, r3, r4, r5) := Option.some.inj h
  clear h
  unfold insetF at h'
  by_cases hm : mayB a0_0 a0_1 a0_2 a0_3 = true
  · rw [if_pos hm] at h'
    simp only [Prod.mk.injEq] at h'
    obtain ⟨rfl, rfl, rfl, rfl, rfl⟩ := h'
    exact (inset_yes a0_0 a0_1 a0_2 a0_3 a1 a2 a3 a4 w hm).mono fun e w' hp => ⟨hp.e, hp.below⟩
  · rw [if_neg hm] at h'
    simp only [Prod.mk.injEq] at h'
    obtain ⟨rfl, rfl, rfl, rfl, rfl⟩ := h'
    exact (inset_no a0_0 a0_1 a0_2 a0_3 a1 a2 a3 a4 w (by simpa using hm)).mono fun e w' hp => ⟨hp.e, hp.below⟩
end Go.Proofs.Ytnjheeoogglnaaa.Q
