/- What all statements on meters look at first: awake tells true. -/
import Derived.Test.YtgppemaekgnnfaaMt4
namespace Go.Proofs.Ytgppemaekgnnfaa.Mt
open Go.RowKit Go.Proofs.Ytgppemaekgnnfaa.Mem
set_option linter.unusedVariables false

set_option maxHeartbeats 1000000 in
theorem awake_calls (w : World) : Calls Try.prog 11 #[] w fun e w' => e = .returned (.bool true) ∧ Below w.heap.size w w' := by
  go_enter Try.func11, Try.ntmps11
  go_wp2_with fail
  refine (new_ok 5 _ (by decide) (by decide)).mono ?_
  rintro e w1 ⟨rfl, hb1, hw1⟩
  have B1 := Lib.hid hb1
  have W1 := Lib.hid hw1
  clear hb1 hw1
  go_wp2_with fail
  refine (new_no (-1) _ (.inl (by decide))).mono ?_
  rintro e w' ⟨rfl, rfl⟩
  go_wp2_with fail
  refine (take_calls _ 5 0 3 false _ B1.out (by decide) (by decide) (by decide) (by decide)).mono ?_
  rintro e w2 ⟨rfl, hb2, hw2⟩
  rw [show takeT 5 0 false 3 = 3 by rfl, show takeO 5 0 false 3 = false by rfl] at hb2
  rw [show takeR 5 0 false 3 = true by rfl]
  have B2 := Lib.hid hb2
  have W2 := Lib.hid hw2
  clear hb2 hw2
  go_wp2_with fail
  refine (left_calls _ 5 3 false _ B2.out (by decide) (by decide) (by decide)).mono ?_
  rintro e w' ⟨rfl, nq, rfl⟩
  go_wp2_with fail
  refine (take_calls _ 5 3 3 false _ (B2.out.drewN nq) (by decide) (by decide) (by decide) (by decide)).mono ?_
  rintro e w3 ⟨rfl, hb3, hw3⟩
  rw [show takeT 5 3 false 3 = 5 by rfl, show takeO 5 3 false 3 = true by rfl] at hb3
  rw [show takeR 5 3 false 3 = false by rfl]
  have B3 := Lib.hid hb3
  have W3 := Lib.hid hw3
  clear hb3 hw3
  go_wp2_with fail
  refine (take_calls _ 5 5 0 true _ B3.out (by decide) (by decide) (by decide) (by decide)).mono ?_
  rintro e w4 ⟨rfl, hb4, hw4⟩
  rw [show takeT 5 5 true 0 = 5 by rfl, show takeO 5 5 true 0 = true by rfl] at hb4
  rw [show takeR 5 5 true 0 = false by rfl]
  have B4 := Lib.hid hb4
  have W4 := Lib.hid hw4
  clear hb4 hw4
  go_wp2_with fail
  refine (taken_calls _ _ _ _ _ B4.out).mono ?_
  rintro e w' ⟨rfl, rfl⟩
  go_wp2_with fail
  refine (left_calls _ _ _ _ _ B4.out (by decide) (by decide) (by decide)).mono ?_
  rintro e w' ⟨rfl, nr, rfl⟩
  go_wp2_with fail
  refine (over_calls _ _ _ _ _ (B4.out.drewN nr)).mono ?_
  rintro e w' ⟨rfl, rfl⟩
  go_wp2_with fail
  refine (bound_calls 2 3 4 _).mono ?_
  rintro e w5 ⟨rfl, hw5⟩
  have W5 := Lib.hid hw5
  clear hw5
  rw [show boundF 2 3 4 = 15 by rfl]
  go_wp2_with fail
  refine (bound_calls (-1) 0 0 _).mono ?_
  rintro e w6 ⟨rfl, hw6⟩
  have W6 := Lib.hid hw6
  clear hw6
  rw [show boundF (-1) 0 0 = 0 by rfl]
  go_wp2_with fail
  go_ret
  refine ⟨rfl, ?_⟩
  have n1 := B1.out.lt
  have k2 := W2.out.below (B := w.heap.size) (Nat.le_refl _) (by omega)
  have k3 := W3.out.below (B := w.heap.size) (Nat.le_refl _) (by have := B2.out.lt; exact Nat.le_of_lt this)
  have k4 := W4.out.below (B := w.heap.size) (Nat.le_refl _) (by have := B3.out.lt; exact Nat.le_of_lt this)
  have n4 := B4.out.lt
  have k5 := W5.out.mono (B' := w.heap.size) (Nat.le_of_lt n4)
  have k6 := W6.out.mono (B' := w.heap.size) (Nat.le_trans (Nat.le_of_lt n4) W5.out.size)
  exact ((((W1.out.trans k2).trans (below_drewN (Below.refl _ _) _)).trans k3).trans k4).trans ((below_drewN (Below.refl _ _) _).trans (k5.trans k6))
end Go.Proofs.Ytgppemaekgnnfaa.Mt
