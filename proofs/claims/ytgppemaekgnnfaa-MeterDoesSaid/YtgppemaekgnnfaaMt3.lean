/- The bound of package meter and of its reference. -/
import Derived.Test.YtgppemaekgnnfaaMt2
namespace Go.Proofs.Ytgppemaekgnnfaa.Mt
open Go.RowKit Go.Proofs.Ytgppemaekgnnfaa.Mem
set_option linter.unusedVariables false

def any3 (x0 x1 x2 : Int) : Bool := bad x0 || bad x1 || bad x2
theorem contains_calls (b : Nat) (x0 x1 x2 : Int) (w : World) (hb : Blk w b #[.int .i64 x0, .int .i64 x1, .int .i64 x2] 3) :
    Calls Try.prog 37 #[.slice (some ⟨b, 0, none⟩) 3 3, .func (.func 38) #[] #[]] w fun e w' => e = .returned (.bool (any3 x0 x1 x2)) ∧ w = w' := by
  have HB := Lib.hid hb
  clear hb
  by_cases c0 : bad x0 = true
  · have C0 := Lib.hid c0
    clear c0
    go_enter Try.func37, Try.ntmps37
    go_wp2_with (go_at_call 44; refine (index_calls _ _ _ _ _ HB.out).mono ?_; rintro e w' ⟨rfl, rfl⟩; rw [show idx3 x0 x1 x2 = 0 by unfold idx3; rw [if_pos C0.out]])
    go_ret
    exact ⟨ret_b (by unfold any3; rw [C0.out]; rfl), rfl⟩
  · by_cases c1 : bad x1 = true
    · have C0 := Lib.hid c0
      have C1 := Lib.hid c1
      clear c0 c1
      go_enter Try.func37, Try.ntmps37
      go_wp2_with (go_at_call 44; refine (index_calls _ _ _ _ _ HB.out).mono ?_; rintro e w' ⟨rfl, rfl⟩; rw [show idx3 x0 x1 x2 = 1 by unfold idx3; rw [if_neg C0.out, if_pos C1.out]])
      go_ret
      exact ⟨ret_b (by unfold any3; rw [Bool.eq_false_iff.2 C0.out, C1.out]; rfl), rfl⟩
    · by_cases c2 : bad x2 = true
      · have C0 := Lib.hid c0
        have C1 := Lib.hid c1
        have C2 := Lib.hid c2
        clear c0 c1 c2
        go_enter Try.func37, Try.ntmps37
        go_wp2_with (go_at_call 44; refine (index_calls _ _ _ _ _ HB.out).mono ?_; rintro e w' ⟨rfl, rfl⟩; rw [show idx3 x0 x1 x2 = 2 by unfold idx3; rw [if_neg C0.out, if_neg C1.out, if_pos C2.out]])
        go_ret
        exact ⟨ret_b (by unfold any3; rw [Bool.eq_false_iff.2 C0.out, Bool.eq_false_iff.2 C1.out, C2.out]; rfl), rfl⟩
      · have C0 := Lib.hid c0
        have C1 := Lib.hid c1
        have C2 := Lib.hid c2
        clear c0 c1 c2
        go_enter Try.func37, Try.ntmps37
        go_wp2_with (go_at_call 44; refine (index_calls _ _ _ _ _ HB.out).mono ?_; rintro e w' ⟨rfl, rfl⟩; rw [show idx3 x0 x1 x2 = -1 by unfold idx3; rw [if_neg C0.out, if_neg C1.out, if_neg C2.out]])
        go_ret
        exact ⟨ret_b (by unfold any3; rw [Bool.eq_false_iff.2 C0.out, Bool.eq_false_iff.2 C1.out, Bool.eq_false_iff.2 C2.out]; rfl), rfl⟩

theorem bad_bd {n : Int} (h : bad n = false) : 0 ≤ n ∧ n ≤ 1048576 := by
  unfold bad at h
  simp at h
  omega
theorem bound_calls (a b c : Int) (w : World) :
    Calls Try.prog 14 #[.int .i64 a, .int .i64 b, .int .i64 c] w fun e w' => e = .returned (.int .i64 (boundF a b c)) ∧ Below w.heap.size w w' := by
  by_cases h : (bad a || bad b || bad c) = true
  · have hf : boundF a b c = 0 := by unfold boundF; rw [if_pos h]
    rw [hf]
    have H := Lib.hid h
    clear h hf
    go_enter Try.func14, Try.ntmps14
    go_wp2_with (go_at_call 37; refine (contains_calls _ _ _ _ _ (Blk.alloc _ _ _)).mono ?_; rintro e w' ⟨rfl, rfl⟩; rw [show any3 a b c = true from H.out])
    go_ret
    exact ⟨rfl, (Below.refl _ _).alloc (Nat.le_refl _) _⟩
  · have hf : boundF a b c = a * b + a * a + c + 1 := by unfold boundF; rw [if_neg h]
    rw [hf]
    simp only [Bool.or_eq_true, not_or, Bool.not_eq_true] at h
    obtain ⟨⟨ha, hb⟩, hc⟩ := h
    obtain ⟨a0, a1⟩ := bad_bd ha
    obtain ⟨b0, b1⟩ := bad_bd hb
    obtain ⟨c0, c1⟩ := bad_bd hc
    have k : ∀ x y : Int, 0 ≤ x → x ≤ 1048576 → 0 ≤ y → y ≤ 1048576 → 0 ≤ x * y ∧ x * y ≤ 1099511627776 := fun x y p1 p2 p3 p4 =>
      ⟨Int.mul_nonneg p1 p3, Int.le_trans (Int.mul_le_mul p2 p4 p3 (by decide)) (by decide)⟩
    obtain ⟨m0, m1⟩ := k a b a0 a1 b0 b1
    obtain ⟨m2, m3⟩ := k a a a0 a1 a0 a1
    have H : Hid ((bad a || bad b || bad c) = false) := by simp [Hid, ha, hb, hc]
    clear ha hb hc hf k
    go_enter Try.func14, Try.ntmps14
    go_wp2_with (go_at_call 37; refine (contains_calls _ _ _ _ _ (Blk.alloc _ _ _)).mono ?_; rintro e w' ⟨rfl, rfl⟩; rw [show any3 a b c = false from H.out])
    go_ret
    exact ⟨rfl, (Below.refl _ _).alloc (Nat.le_refl _) _⟩

end Go.Proofs.Ytgppemaekgnnfaa.Mt
