/- The bound of package meter and of its reference; the reference's meter; what the statements' awake looks at. -/
import Derived.Test.YtgppemaekgnnfaaMt
namespace Go.Proofs.Ytgppemaekgnnfaa.Mt
open Go.RowKit Go.Proofs.Ytgppemaekgnnfaa.Mem
set_option linter.unusedVariables false

def idx3 (x0 x1 x2 : Int) : Int := if bad x0 = true then 0 else if bad x1 = true then 1 else if bad x2 = true then 2 else -1
theorem ret_i {a b : Int} (h : a = b) : Ending.returned (.int .i64 a) = .returned (.int .i64 b) := by rw [h]
theorem ret_b {a b : Bool} (h : a = b) : Ending.returned (.bool a) = .returned (.bool b) := by rw [h]
theorem index_calls (b : Nat) (x0 x1 x2 : Int) (w : World) (hb : Blk w b #[.int .i64 x0, .int .i64 x1, .int .i64 x2] 3) :
    Calls Try.prog 44 #[.slice (some ⟨b, 0, none⟩) 3 3, .func (.func 38) #[] #[]] w fun e w' => e = .returned (.int .i64 (idx3 x0 x1 x2)) ∧ w = w' := by
  have h0 := hb.cell 0
  have h1 := hb.cell 1
  have h2 := hb.cell 2
  simp at h0 h1 h2
  clear hb
  go_enter Try.func44, Try.ntmps44
  go_wp2
  go_loop [5, 8] (fun _ i => (i = .int .i64 0) ∨ (i = .int .i64 1 ∧ bad x0 = false) ∨ (i = .int .i64 2 ∧ bad x0 = false ∧ bad x1 = false) ∨ (i = .int .i64 3 ∧ bad x0 = false ∧ bad x1 = false ∧ bad x2 = false)) (fun _ i => 3 - (intOf i).toNat)
  case atStart => exact .inl rfl
  case round =>
    rcases hrel with rfl | ⟨rfl, e0⟩ | ⟨rfl, e0, e1⟩ | ⟨rfl, e0, e1, e2⟩
    · rcases (show bad x0 = false ∨ bad x0 = true by cases bad x0 <;> simp) with hx | hx
      · have HX := Lib.hid hx
        clear hx
        go_wp2_with (go_at_call 38; refine (bad_calls _ _).mono ?_; rintro e w' ⟨rfl, rfl⟩; rw [HX.out])
        go_round
        case rel => exact .inr (.inl ⟨rfl, HX.out⟩)
        case measure => simp [intOf]
      · have HX := Lib.hid hx
        clear hx
        go_wp2_with (go_at_call 38; refine (bad_calls _ _).mono ?_; rintro e w' ⟨rfl, rfl⟩; rw [HX.out])
        go_ret
        exact ⟨ret_i (by unfold idx3; (rw [HX.out]; rfl)), rfl⟩
    · have E0 := Lib.hid e0
      clear e0
      rcases (show bad x1 = false ∨ bad x1 = true by cases bad x1 <;> simp) with hx | hx
      · have HX := Lib.hid hx
        clear hx
        go_wp2_with (go_at_call 38; refine (bad_calls _ _).mono ?_; rintro e w' ⟨rfl, rfl⟩; rw [HX.out])
        go_round
        case rel => exact .inr (.inr (.inl ⟨rfl, E0.out, HX.out⟩))
        case measure => simp [intOf]
      · have HX := Lib.hid hx
        clear hx
        go_wp2_with (go_at_call 38; refine (bad_calls _ _).mono ?_; rintro e w' ⟨rfl, rfl⟩; rw [HX.out])
        go_ret
        exact ⟨ret_i (by unfold idx3; (rw [E0.out, HX.out]; rfl)), rfl⟩
    · have E0 := Lib.hid e0
      have E1 := Lib.hid e1
      clear e0 e1
      rcases (show bad x2 = false ∨ bad x2 = true by cases bad x2 <;> simp) with hx | hx
      · have HX := Lib.hid hx
        clear hx
        go_wp2_with (go_at_call 38; refine (bad_calls _ _).mono ?_; rintro e w' ⟨rfl, rfl⟩; rw [HX.out])
        go_round
        case rel => exact .inr (.inr (.inr ⟨rfl, E0.out, E1.out, HX.out⟩))
        case measure => simp [intOf]
      · have HX := Lib.hid hx
        clear hx
        go_wp2_with (go_at_call 38; refine (bad_calls _ _).mono ?_; rintro e w' ⟨rfl, rfl⟩; rw [HX.out])
        go_ret
        exact ⟨ret_i (by unfold idx3; (rw [E0.out, E1.out, HX.out]; rfl)), rfl⟩
    · have E0 := Lib.hid e0
      have E1 := Lib.hid e1
      have E2 := Lib.hid e2
      clear e0 e1 e2
      go_wp2
      go_ret
      exact ⟨ret_i (by unfold idx3; (rw [E0.out, E1.out, E2.out]; rfl)), rfl⟩

end Go.Proofs.Ytgppemaekgnnfaa.Mt
