/- Written by a program of this session (wip/xprint.py): plain Lean functions, and that the Go functions compute them. -/
import Derived.Test.YtgppemaekgnnfaaQx0
import Derived.Test.YtgppemaekgnnfaaQx1
import Derived.Test.YtgppemaekgnnfaaQx2
namespace Go.Proofs.Ytgppemaekgnnfaa.Q
open Go.RowKit Go.Proofs.YtgppemaekgnnfaaW.PrintWords Go.Proofs.YtgppemaekgnnfaaW.PrintLast Go.Proofs.YtgppemaekgnnfaaW.PrintMore
attribute [local go_sem] max2_int min2_int max_two min_two max_three min_three max_four min_four   -- for this text's walks alone
set_option linter.unusedVariables false
set_option linter.unusedSimpArgs false

/-! ### scrimlaw01_FixedTells: function 6 -/
def scrimlaw01_FixedTells.j0 : Nat → Int → Int → Int → List Int → Bool → Option (Bool)
  | 0, _, _, _, _, _ => none
  | k + 1, x0, x1, x2, x3, x125 => if x125 = true then (some false) else ((fixed_Part.f k x0 x1 x2).bind fun bt180 => ((scrimref01_Part.f k x0 x1 x2).bind fun bt182 => ((fixed_Sum.f k x3).bind fun bt184 => ((scrimref01_Sum.f k x3).bind fun bt186 => ((fixed_Px.f x0).bind fun bt188 => ((scrimref01_Px.f x0).bind fun bt190 => (if bt180.1 = bt182.1 then (if (bt180.2 == bt182.2) = true then (if bt184.1 = bt186.1 then (if (bt184.2 == bt186.2) = true then (if bt188.1 = bt190.1 then (some (bt188.2 == bt190.2)) else (some false)) else (some false)) else (some false)) else (some false)) else (some false))))))))
def scrimlaw01_FixedTells.f (k : Nat) (a0 : Int) (a1 : Int) (a2 : Int) (l3 : List Int) : Option (Bool) := (scrimlaw01_awake.f k).bind fun t163 => (if t163 = true then (if (l3.length : Int) > 500 then (some true) else ((fixed_Clamp.f a0).bind fun bt164 => ((scrimref01_Clamp.f a0).bind fun bt166 => ((fixed_Add.f a0 a1).bind fun bt168 => ((scrimref01_Add.f a0 a1).bind fun bt170 => ((fixed_Sub.f a0 a1).bind fun bt172 => ((scrimref01_Sub.f a0 a1).bind fun bt174 => ((fixed_Mul.f a0 a1).bind fun bt176 => ((scrimref01_Mul.f k a0 a1).bind fun bt178 => (if bt164.1 = bt166.1 then (if (bt164.2 != bt166.2) = true then (scrimlaw01_FixedTells.j0 k a0 a1 a2 l3 true) else (if bt168.1 = bt170.1 then (if (bt168.2 != bt170.2) = true then (scrimlaw01_FixedTells.j0 k a0 a1 a2 l3 true) else (if bt172.1 = bt174.1 then (if (bt172.2 != bt174.2) = true then (scrimlaw01_FixedTells.j0 k a0 a1 a2 l3 true) else (if bt176.1 = bt178.1 then (scrimlaw01_FixedTells.j0 k a0 a1 a2 l3 (bt176.2 != bt178.2)) else (scrimlaw01_FixedTells.j0 k a0 a1 a2 l3 true))) else (scrimlaw01_FixedTells.j0 k a0 a1 a2 l3 true))) else (scrimlaw01_FixedTells.j0 k a0 a1 a2 l3 true))) else (scrimlaw01_FixedTells.j0 k a0 a1 a2 l3 true))))))))))) else (some false))
theorem scrimlaw01_FixedTells.mono_l : ∀ k, (∀ y0 y1 y2 y3 y4, LeO (scrimlaw01_FixedTells.j0 k y0 y1 y2 y3 y4) (scrimlaw01_FixedTells.j0 (k + 1) y0 y1 y2 y3 y4))
  | 0 => fun _ _ _ _ _ r h => by simp [scrimlaw01_FixedTells.j0] at h
  | k + 1 => by
    have ih0 := scrimlaw01_FixedTells.mono_l k
    · intro y0 y1 y2 y3 y4
      unfold scrimlaw01_FixedTells.j0
      repeat' first
      | (with_reducible exact ih0 _ _ _ _ _)
      | (with_reducible exact fixed_Part.mono _ _ _ _)
      | (with_reducible exact fixed_Sum.mono _ _)
      | (with_reducible exact scrimlaw01_awake.mono _)
      | (with_reducible exact scrimref01_Mul.mono _ _ _)
      | (with_reducible exact scrimref01_Part.mono _ _ _ _)
      | (with_reducible exact scrimref01_Sum.mono _ _)
      | (with_reducible exact LeO.refl _)
      | (with_reducible exact LeO.none _)
      | (with_reducible refine LeO.ite ?_ ?_)
      | (with_reducible refine LeO.bind ?_ (fun _ => ?_))
      | exact ih0 _ _ _ _ _
      | exact fixed_Part.mono _ _ _ _
      | exact fixed_Sum.mono _ _
      | exact scrimlaw01_awake.mono _
      | exact scrimref01_Mul.mono _ _ _
      | exact scrimref01_Part.mono _ _ _ _
      | exact scrimref01_Sum.mono _ _
      | exact LeO.none _
      | refine LeO.ite ?_ ?_
      | refine LeO.bind ?_ (fun _ => ?_)
theorem scrimlaw01_FixedTells.mono : ∀ a0 a1 a2 a3 k, LeO (scrimlaw01_FixedTells.f k a0 a1 a2 a3) (scrimlaw01_FixedTells.f (k + 1) a0 a1 a2 a3) := by
  intro a0 a1 a2 a3 k
  have ih0 := scrimlaw01_FixedTells.mono_l k
  unfold scrimlaw01_FixedTells.f
  repeat' first
      | (with_reducible exact ih0 _ _ _ _ _)
      | (with_reducible exact fixed_Part.mono _ _ _ _)
      | (with_reducible exact fixed_Sum.mono _ _)
      | (with_reducible exact scrimlaw01_awake.mono _)
      | (with_reducible exact scrimref01_Mul.mono _ _ _)
      | (with_reducible exact scrimref01_Part.mono _ _ _ _)
      | (with_reducible exact scrimref01_Sum.mono _ _)
      | (with_reducible exact LeO.refl _)
      | (with_reducible exact LeO.none _)
      | (with_reducible refine LeO.ite ?_ ?_)
      | (with_reducible refine LeO.bind ?_ (fun _ => ?_))
      | exact ih0 _ _ _ _ _
      | exact fixed_Part.mono _ _ _ _
      | exact fixed_Sum.mono _ _
      | exact scrimlaw01_awake.mono _
      | exact scrimref01_Mul.mono _ _ _
      | exact scrimref01_Part.mono _ _ _ _
      | exact scrimref01_Sum.mono _ _
      | exact LeO.none _
      | refine LeO.ite ?_ ?_
      | refine LeO.bind ?_ (fun _ => ?_)
set_option maxHeartbeats 8000000 in
set_option maxRecDepth 100000 in
theorem scrimlaw01_FixedTells.calls (k : Nat) (a0 : Int) (a1 : Int) (a2 : Int) (A3 : Option Addr) (c3 : Nat) (l3 : List Int) (r : Bool) (w : World) (hr3 : Kd.C (Kd.int .i64) w A3 l3.length l3) (hc3 : l3.length ≤ c3) (h : scrimlaw01_FixedTells.f k a0 a1 a2 l3 = some r) :
    Calls Try.prog 6 #[.int .i64 a0, .int .i64 a1, .int .i64 a2, .slice A3 l3.length c3] w fun e w' => e = .returned (.bool r) ∧ Below w.heap.size w w' := by
  have HR3 := Aside0.mk hr3
  have HC3 := Aside0.mk hc3
  clear hr3 hc3
  have HB := Aside0.mk (Below.refl w.heap.size w)
  have H : ((scrimlaw01_awake.f k).bind fun t163 => (if t163 = true then (if (l3.length : Int) > 500 then (some true) else ((fixed_Clamp.f a0).bind fun bt164 => ((scrimref01_Clamp.f a0).bind fun bt166 => ((fixed_Add.f a0 a1).bind fun bt168 => ((scrimref01_Add.f a0 a1).bind fun bt170 => ((fixed_Sub.f a0 a1).bind fun bt172 => ((scrimref01_Sub.f a0 a1).bind fun bt174 => ((fixed_Mul.f a0 a1).bind fun bt176 => ((scrimref01_Mul.f k a0 a1).bind fun bt178 => (if bt164.1 = bt166.1 then (if (bt164.2 != bt166.2) = true then (scrimlaw01_FixedTells.j0 k a0 a1 a2 l3 true) else (if bt168.1 = bt170.1 then (if (bt168.2 != bt170.2) = true then (scrimlaw01_FixedTells.j0 k a0 a1 a2 l3 true) else (if bt172.1 = bt174.1 then (if (bt172.2 != bt174.2) = true then (scrimlaw01_FixedTells.j0 k a0 a1 a2 l3 true) else (if bt176.1 = bt178.1 then (scrimlaw01_FixedTells.j0 k a0 a1 a2 l3 (bt176.2 != bt178.2)) else (scrimlaw01_FixedTells.j0 k a0 a1 a2 l3 true))) else (scrimlaw01_FixedTells.j0 k a0 a1 a2 l3 true))) else (scrimlaw01_FixedTells.j0 k a0 a1 a2 l3 true))) else (scrimlaw01_FixedTells.j0 k a0 a1 a2 l3 true))))))))))) else (some false))) = some r := h
  clear h
  replace H := Option.bind_eq_some_iff.mp H
  obtain ⟨t163, A50, H⟩ := H
  replace H : (if t163 = true then (if (l3.length : Int) > 500 then (some true) else ((fixed_Clamp.f a0).bind fun bt164 => ((scrimref01_Clamp.f a0).bind fun bt166 => ((fixed_Add.f a0 a1).bind fun bt168 => ((scrimref01_Add.f a0 a1).bind fun bt170 => ((fixed_Sub.f a0 a1).bind fun bt172 => ((scrimref01_Sub.f a0 a1).bind fun bt174 => ((fixed_Mul.f a0 a1).bind fun bt176 => ((scrimref01_Mul.f k a0 a1).bind fun bt178 => (if bt164.1 = bt166.1 then (if (bt164.2 != bt166.2) = true then (scrimlaw01_FixedTells.j0 k a0 a1 a2 l3 true) else (if bt168.1 = bt170.1 then (if (bt168.2 != bt170.2) = true then (scrimlaw01_FixedTells.j0 k a0 a1 a2 l3 true) else (if bt172.1 = bt174.1 then (if (bt172.2 != bt174.2) = true then (scrimlaw01_FixedTells.j0 k a0 a1 a2 l3 true) else (if bt176.1 = bt178.1 then (scrimlaw01_FixedTells.j0 k a0 a1 a2 l3 (bt176.2 != bt178.2)) else (scrimlaw01_FixedTells.j0 k a0 a1 a2 l3 true))) else (scrimlaw01_FixedTells.j0 k a0 a1 a2 l3 true))) else (scrimlaw01_FixedTells.j0 k a0 a1 a2 l3 true))) else (scrimlaw01_FixedTells.j0 k a0 a1 a2 l3 true))))))))))) else (some false)) = some r := H
  have A5 := Aside0.mk A50
  clear A50
  by_cases c6 : t163 = true
  · subst c6
    have H1 : (if (l3.length : Int) > 500 then (some true) else ((fixed_Clamp.f a0).bind fun bt164 => ((scrimref01_Clamp.f a0).bind fun bt166 => ((fixed_Add.f a0 a1).bind fun bt168 => ((scrimref01_Add.f a0 a1).bind fun bt170 => ((fixed_Sub.f a0 a1).bind fun bt172 => ((scrimref01_Sub.f a0 a1).bind fun bt174 => ((fixed_Mul.f a0 a1).bind fun bt176 => ((scrimref01_Mul.f k a0 a1).bind fun bt178 => (if bt164.1 = bt166.1 then (if (bt164.2 != bt166.2) = true then (scrimlaw01_FixedTells.j0 k a0 a1 a2 l3 true) else (if bt168.1 = bt170.1 then (if (bt168.2 != bt170.2) = true then (scrimlaw01_FixedTells.j0 k a0 a1 a2 l3 true) else (if bt172.1 = bt174.1 then (if (bt172.2 != bt174.2) = true then (scrimlaw01_FixedTells.j0 k a0 a1 a2 l3 true) else (if bt176.1 = bt178.1 then (scrimlaw01_FixedTells.j0 k a0 a1 a2 l3 (bt176.2 != bt178.2)) else (scrimlaw01_FixedTells.j0 k a0 a1 a2 l3 true))) else (scrimlaw01_FixedTells.j0 k a0 a1 a2 l3 true))) else (scrimlaw01_FixedTells.j0 k a0 a1 a2 l3 true))) else (scrimlaw01_FixedTells.j0 k a0 a1 a2 l3 true))))))))))) = some r := by rw [if_pos rfl] at H; exact H
    clear H
    have H := H1
    clear H1
    by_cases c7 : (l3.length : Int) > 500
    · rw [if_pos c7] at H
      have c7b0 : decide (500 < (l3.length : Int)) = true := decide_eq_true c7
      have c7b1 : decide (500 < l3.length) = true := decide_eq_true (by omega)
      clear c7
      obtain rfl := Option.some.inj H
      go_enter Try.func6, Try.ntmps6
      go_wp2_with (first | ((with_reducible refine gate_callee (f := 21) rfl ?_); refine goesL_ (some 37) rfl rfl Try.func21 (by kernel_rfl) rfl #[] rfl (by (try simp only [List.map_toArray, List.map_cons, List.map_nil]); first | done | rfl | (simp only [List.length_drop, List.length_take]; rfl)) ?_; (with_reducible refine (scrimlaw01_awake.calls k  true _ A5.out).mono ?_); rintro e w8 ⟨rfl, hb⟩; refine ⟨_, rfl, ?_⟩; have n0_ := Aside0.mk (below_step (by repeat (first | (with_reducible first | exact HB.out | apply below_alloc | apply pw_below_drewN | apply below_drew1) | exact HB.out)) hb); clear HB; have HB := n0_; clear n0_; (try clear hb); (try clear hb2); (try clear hk); (try clear hi)))
      go_ret
      exact ⟨by first | rfl | (simp [errW_none, errW_some] <;> rfl) | (simp [*, errW_none, errW_some] <;> rfl), by repeat (first | (with_reducible first | exact HB.out | apply below_alloc | apply pw_below_drewN | apply below_drew1) | exact HB.out)⟩
    · rw [if_neg c7] at H
      have c7b0 : decide (500 < (l3.length : Int)) = false := decide_eq_false c7
      have c7b1 : decide (500 < l3.length) = false := decide_eq_false (by omega)
      clear c7
      replace H := Option.bind_eq_some_iff.mp H
      obtain ⟨⟨t164, t165⟩, A90, H⟩ := H
      replace H : ((scrimref01_Clamp.f a0).bind fun bt166 => ((fixed_Add.f a0 a1).bind fun bt168 => ((scrimref01_Add.f a0 a1).bind fun bt170 => ((fixed_Sub.f a0 a1).bind fun bt172 => ((scrimref01_Sub.f a0 a1).bind fun bt174 => ((fixed_Mul.f a0 a1).bind fun bt176 => ((scrimref01_Mul.f k a0 a1).bind fun bt178 => (if t164 = bt166.1 then (if (t165 != bt166.2) = true then (scrimlaw01_FixedTells.j0 k a0 a1 a2 l3 true) else (if bt168.1 = bt170.1 then (if (bt168.2 != bt170.2) = true then (scrimlaw01_FixedTells.j0 k a0 a1 a2 l3 true) else (if bt172.1 = bt174.1 then (if (bt172.2 != bt174.2) = true then (scrimlaw01_FixedTells.j0 k a0 a1 a2 l3 true) else (if bt176.1 = bt178.1 then (scrimlaw01_FixedTells.j0 k a0 a1 a2 l3 (bt176.2 != bt178.2)) else (scrimlaw01_FixedTells.j0 k a0 a1 a2 l3 true))) else (scrimlaw01_FixedTells.j0 k a0 a1 a2 l3 true))) else (scrimlaw01_FixedTells.j0 k a0 a1 a2 l3 true))) else (scrimlaw01_FixedTells.j0 k a0 a1 a2 l3 true))))))))) = some r := H
      have A9 := Aside0.mk A90
      clear A90
      replace H := Option.bind_eq_some_iff.mp H
      obtain ⟨⟨t166, t167⟩, A100, H⟩ := H
      replace H : ((fixed_Add.f a0 a1).bind fun bt168 => ((scrimref01_Add.f a0 a1).bind fun bt170 => ((fixed_Sub.f a0 a1).bind fun bt172 => ((scrimref01_Sub.f a0 a1).bind fun bt174 => ((fixed_Mul.f a0 a1).bind fun bt176 => ((scrimref01_Mul.f k a0 a1).bind fun bt178 => (if t164 = t166 then (if (t165 != t167) = true then (scrimlaw01_FixedTells.j0 k a0 a1 a2 l3 true) else (if bt168.1 = bt170.1 then (if (bt168.2 != bt170.2) = true then (scrimlaw01_FixedTells.j0 k a0 a1 a2 l3 true) else (if bt172.1 = bt174.1 then (if (bt172.2 != bt174.2) = true then (scrimlaw01_FixedTells.j0 k a0 a1 a2 l3 true) else (if bt176.1 = bt178.1 then (scrimlaw01_FixedTells.j0 k a0 a1 a2 l3 (bt176.2 != bt178.2)) else (scrimlaw01_FixedTells.j0 k a0 a1 a2 l3 true))) else (scrimlaw01_FixedTells.j0 k a0 a1 a2 l3 true))) else (scrimlaw01_FixedTells.j0 k a0 a1 a2 l3 true))) else (scrimlaw01_FixedTells.j0 k a0 a1 a2 l3 true)))))))) = some r := H
      have A10 := Aside0.mk A100
      clear A100
      replace H := Option.bind_eq_some_iff.mp H
      obtain ⟨⟨t168, t169⟩, A110, H⟩ := H
      replace H : ((scrimref01_Add.f a0 a1).bind fun bt170 => ((fixed_Sub.f a0 a1).bind fun bt172 => ((scrimref01_Sub.f a0 a1).bind fun bt174 => ((fixed_Mul.f a0 a1).bind fun bt176 => ((scrimref01_Mul.f k a0 a1).bind fun bt178 => (if t164 = t166 then (if (t165 != t167) = true then (scrimlaw01_FixedTells.j0 k a0 a1 a2 l3 true) else (if t168 = bt170.1 then (if (t169 != bt170.2) = true then (scrimlaw01_FixedTells.j0 k a0 a1 a2 l3 true) else (if bt172.1 = bt174.1 then (if (bt172.2 != bt174.2) = true then (scrimlaw01_FixedTells.j0 k a0 a1 a2 l3 true) else (if bt176.1 = bt178.1 then (scrimlaw01_FixedTells.j0 k a0 a1 a2 l3 (bt176.2 != bt178.2)) else (scrimlaw01_FixedTells.j0 k a0 a1 a2 l3 true))) else (scrimlaw01_FixedTells.j0 k a0 a1 a2 l3 true))) else (scrimlaw01_FixedTells.j0 k a0 a1 a2 l3 true))) else (scrimlaw01_FixedTells.j0 k a0 a1 a2 l3 true))))))) = some r := H
      have A11 := Aside0.mk A110
      clear A110
      replace H := Option.bind_eq_some_iff.mp H
      obtain ⟨⟨t170, t171⟩, A120, H⟩ := H
      replace H : ((fixed_Sub.f a0 a1).bind fun bt172 => ((scrimref01_Sub.f a0 a1).bind fun bt174 => ((fixed_Mul.f a0 a1).bind fun bt176 => ((scrimref01_Mul.f k a0 a1).bind fun bt178 => (if t164 = t166 then (if (t165 != t167) = true then (scrimlaw01_FixedTells.j0 k a0 a1 a2 l3 true) else (if t168 = t170 then (if (t169 != t171) = true then (scrimlaw01_FixedTells.j0 k a0 a1 a2 l3 true) else (if bt172.1 = bt174.1 then (if (bt172.2 != bt174.2) = true then (scrimlaw01_FixedTells.j0 k a0 a1 a2 l3 true) else (if bt176.1 = bt178.1 then (scrimlaw01_FixedTells.j0 k a0 a1 a2 l3 (bt176.2 != bt178.2)) else (scrimlaw01_FixedTells.j0 k a0 a1 a2 l3 true))) else (scrimlaw01_FixedTells.j0 k a0 a1 a2 l3 true))) else (scrimlaw01_FixedTells.j0 k a0 a1 a2 l3 true))) else (scrimlaw01_FixedTells.j0 k a0 a1 a2 l3 true)))))) = some r := H
      have A12 := Aside0.mk A120
      clear A120
      replace H := Option.bind_eq_some_iff.mp H
      obtain ⟨⟨t172, t173⟩, A130, H⟩ := H
      replace H : ((scrimref01_Sub.f a0 a1).bind fun bt174 => ((fixed_Mul.f a0 a1).bind fun bt176 => ((scrimref01_Mul.f k a0 a1).bind fun bt178 => (if t164 = t166 then (if (t165 != t167) = true then (scrimlaw01_FixedTells.j0 k a0 a1 a2 l3 true) else (if t168 = t170 then (if (t169 != t171) = true then (scrimlaw01_FixedTells.j0 k a0 a1 a2 l3 true) else (if t172 = bt174.1 then (if (t173 != bt174.2) = true then (scrimlaw01_FixedTells.j0 k a0 a1 a2 l3 true) else (if bt176.1 = bt178.1 then (scrimlaw01_FixedTells.j0 k a0 a1 a2 l3 (bt176.2 != bt178.2)) else (scrimlaw01_FixedTells.j0 k a0 a1 a2 l3 true))) else (scrimlaw01_FixedTells.j0 k a0 a1 a2 l3 true))) else (scrimlaw01_FixedTells.j0 k a0 a1 a2 l3 true))) else (scrimlaw01_FixedTells.j0 k a0 a1 a2 l3 true))))) = some r := H
      have A13 := Aside0.mk A130
      clear A130
      replace H := Option.bind_eq_some_iff.mp H
      obtain ⟨⟨t174, t175⟩, A140, H⟩ := H
      replace H : ((fixed_Mul.f a0 a1).bind fun bt176 => ((scrimref01_Mul.f k a0 a1).bind fun bt178 => (if t164 = t166 then (if (t165 != t167) = true then (scrimlaw01_FixedTells.j0 k a0 a1 a2 l3 true) else (if t168 = t170 then (if (t169 != t171) = true then (scrimlaw01_FixedTells.j0 k a0 a1 a2 l3 true) else (if t172 = t174 then (if (t173 != t175) = true then (scrimlaw01_FixedTells.j0 k a0 a1 a2 l3 true) else (if bt176.1 = bt178.1 then (scrimlaw01_FixedTells.j0 k a0 a1 a2 l3 (bt176.2 != bt178.2)) else (scrimlaw01_FixedTells.j0 k a0 a1 a2 l3 true))) else (scrimlaw01_FixedTells.j0 k a0 a1 a2 l3 true))) else (scrimlaw01_FixedTells.j0 k a0 a1 a2 l3 true))) else (scrimlaw01_FixedTells.j0 k a0 a1 a2 l3 true)))) = some r := H
      have A14 := Aside0.mk A140
      clear A140
      replace H := Option.bind_eq_some_iff.mp H
      obtain ⟨⟨t176, t177⟩, A150, H⟩ := H
      replace H : ((scrimref01_Mul.f k a0 a1).bind fun bt178 => (if t164 = t166 then (if (t165 != t167) = true then (scrimlaw01_FixedTells.j0 k a0 a1 a2 l3 true) else (if t168 = t170 then (if (t169 != t171) = true then (scrimlaw01_FixedTells.j0 k a0 a1 a2 l3 true) else (if t172 = t174 then (if (t173 != t175) = true then (scrimlaw01_FixedTells.j0 k a0 a1 a2 l3 true) else (if t176 = bt178.1 then (scrimlaw01_FixedTells.j0 k a0 a1 a2 l3 (t177 != bt178.2)) else (scrimlaw01_FixedTells.j0 k a0 a1 a2 l3 true))) else (scrimlaw01_FixedTells.j0 k a0 a1 a2 l3 true))) else (scrimlaw01_FixedTells.j0 k a0 a1 a2 l3 true))) else (scrimlaw01_FixedTells.j0 k a0 a1 a2 l3 true))) = some r := H
      have A15 := Aside0.mk A150
      clear A150
      replace H := Option.bind_eq_some_iff.mp H
      obtain ⟨⟨t178, t179⟩, A160, H⟩ := H
      replace H : (if t164 = t166 then (if (t165 != t167) = true then (scrimlaw01_FixedTells.j0 k a0 a1 a2 l3 true) else (if t168 = t170 then (if (t169 != t171) = true then (scrimlaw01_FixedTells.j0 k a0 a1 a2 l3 true) else (if t172 = t174 then (if (t173 != t175) = true then (scrimlaw01_FixedTells.j0 k a0 a1 a2 l3 true) else (if t176 = t178 then (scrimlaw01_FixedTells.j0 k a0 a1 a2 l3 (t177 != t179)) else (scrimlaw01_FixedTells.j0 k a0 a1 a2 l3 true))) else (scrimlaw01_FixedTells.j0 k a0 a1 a2 l3 true))) else (scrimlaw01_FixedTells.j0 k a0 a1 a2 l3 true))) else (scrimlaw01_FixedTells.j0 k a0 a1 a2 l3 true)) = some r := H
      have A16 := Aside0.mk A160
      clear A160
      have HC17 := Aside0.mk H
      clear H
      go_enter Try.func6, Try.ntmps6
      go_upto_region 13 with (first | ((with_reducible refine gate_callee (f := 21) rfl ?_); refine goesL_ (some 37) rfl rfl Try.func21 (by kernel_rfl) rfl #[] rfl (by (try simp only [List.map_toArray, List.map_cons, List.map_nil]); first | done | rfl | (simp only [List.length_drop, List.length_take]; rfl)) ?_; (with_reducible refine (scrimlaw01_awake.calls k  true _ A5.out).mono ?_); rintro e w18 ⟨rfl, hb⟩; refine ⟨_, rfl, ?_⟩; have n0_ := Aside0.mk (below_step (by repeat (first | (with_reducible first | exact HB.out | apply below_alloc | apply pw_below_drewN | apply below_drew1) | exact HB.out)) hb); clear HB; have HB := n0_; clear n0_; (try clear hb); (try clear hb2); (try clear hk); (try clear hi)) | ((with_reducible refine gate_callee (f := 22) rfl ?_); refine goesL_ (some 44) rfl rfl Try.func22 (by kernel_rfl) rfl #[.int .i64 a0] rfl (by (try simp only [List.map_toArray, List.map_cons, List.map_nil]); first | done | rfl | (simp only [List.length_drop, List.length_take]; rfl)) ?_; (with_reducible refine (fixed_Clamp.calls a0 t164 t165 _ A9.out).mono ?_); rintro e w' ⟨rfl, ⟨nd, rfl⟩⟩; refine ⟨_, rfl, ?_⟩) | ((with_reducible refine gate_callee (f := 23) rfl ?_); refine goesL_ (some 49) rfl rfl Try.func23 (by kernel_rfl) rfl #[.int .i64 a0] rfl (by (try simp only [List.map_toArray, List.map_cons, List.map_nil]); first | done | rfl | (simp only [List.length_drop, List.length_take]; rfl)) ?_; (with_reducible refine (scrimref01_Clamp.calls a0 t166 t167 _ A10.out).mono ?_); rintro e w' ⟨rfl, ⟨nd, rfl⟩⟩; refine ⟨_, rfl, ?_⟩) | ((with_reducible refine gate_callee (f := 24) rfl ?_); refine goesL_ (some 55) rfl rfl Try.func24 (by kernel_rfl) rfl #[.int .i64 a0, .int .i64 a1] rfl (by (try simp only [List.map_toArray, List.map_cons, List.map_nil]); first | done | rfl | (simp only [List.length_drop, List.length_take]; rfl)) ?_; (with_reducible refine (fixed_Add.calls a0 a1 t168 t169 _ A11.out).mono ?_); rintro e w' ⟨rfl, ⟨nd, rfl⟩⟩; refine ⟨_, rfl, ?_⟩) | ((with_reducible refine gate_callee (f := 25) rfl ?_); refine goesL_ (some 61) rfl rfl Try.func25 (by kernel_rfl) rfl #[.int .i64 a0, .int .i64 a1] rfl (by (try simp only [List.map_toArray, List.map_cons, List.map_nil]); first | done | rfl | (simp only [List.length_drop, List.length_take]; rfl)) ?_; (with_reducible refine (scrimref01_Add.calls a0 a1 t170 t171 _ A12.out).mono ?_); rintro e w' ⟨rfl, ⟨nd, rfl⟩⟩; refine ⟨_, rfl, ?_⟩) | ((with_reducible refine gate_callee (f := 26) rfl ?_); refine goesL_ (some 67) rfl rfl Try.func26 (by kernel_rfl) rfl #[.int .i64 a0, .int .i64 a1] rfl (by (try simp only [List.map_toArray, List.map_cons, List.map_nil]); first | done | rfl | (simp only [List.length_drop, List.length_take]; rfl)) ?_; (with_reducible refine (fixed_Sub.calls a0 a1 t172 t173 _ A13.out).mono ?_); rintro e w' ⟨rfl, ⟨nd, rfl⟩⟩; refine ⟨_, rfl, ?_⟩) | ((with_reducible refine gate_callee (f := 27) rfl ?_); refine goesL_ (some 73) rfl rfl Try.func27 (by kernel_rfl) rfl #[.int .i64 a0, .int .i64 a1] rfl (by (try simp only [List.map_toArray, List.map_cons, List.map_nil]); first | done | rfl | (simp only [List.length_drop, List.length_take]; rfl)) ?_; (with_reducible refine (scrimref01_Sub.calls a0 a1 t174 t175 _ A14.out).mono ?_); rintro e w' ⟨rfl, ⟨nd, rfl⟩⟩; refine ⟨_, rfl, ?_⟩) | ((with_reducible refine gate_callee (f := 28) rfl ?_); refine goesL_ (some 79) rfl rfl Try.func28 (by kernel_rfl) rfl #[.int .i64 a0, .int .i64 a1] rfl (by (try simp only [List.map_toArray, List.map_cons, List.map_nil]); first | done | rfl | (simp only [List.length_drop, List.length_take]; rfl)) ?_; (with_reducible refine (fixed_Mul.calls a0 a1 t176 t177 _ A15.out).mono ?_); rintro e w' ⟨rfl, ⟨nd, rfl⟩⟩; refine ⟨_, rfl, ?_⟩) | ((with_reducible refine gate_callee (f := 29) rfl ?_); refine goesL_ (some 85) rfl rfl Try.func29 (by kernel_rfl) rfl #[.int .i64 a0, .int .i64 a1] rfl (by (try simp only [List.map_toArray, List.map_cons, List.map_nil]); first | done | rfl | (simp only [List.length_drop, List.length_take]; rfl)) ?_; (with_reducible refine (scrimref01_Mul.calls k a0 a1 t178 t179 _ A16.out).mono ?_); rintro e w19 ⟨rfl, hb⟩; refine ⟨_, rfl, ?_⟩; have n0_ := Aside0.mk (below_step (by repeat (first | (with_reducible first | exact HB.out | apply below_alloc | apply pw_below_drewN | apply below_drew1) | exact HB.out)) hb); clear HB; have HB := n0_; clear n0_; (try clear hb); (try clear hb2); (try clear hk); (try clear hi)))
      (try simp only [Act.put, List.setIfInBounds_toArray, List.set_cons_zero, List.set_cons_succ])
      go_cut [125] (fun v125 wc => ∃ (kq : Nat) (x125_16 : Bool), v125 = .bool x125_16 ∧ Aside0 (scrimlaw01_FixedTells.j0 kq a0 a1 a2 l3 x125_16 = some r) ∧ Aside0 (kq ≤ k) ∧ Aside0 (Below w.heap.size w wc))
      case first =>
        have H := HC17.out
        clear HC17
        by_cases c20 : t164 = t166
        · rw [if_pos c20] at H
          have c20b0 : (t164 == t166) = true := beq_iff_eq.mpr c20
          have c20b1 : (t164 != t166) = false := bne_eq_false_iff_eq.mpr c20
          clear c20
          (first | rw [c20b0] | (simp only [i64_w, i32_w]; rw [c20b0]) | skip)
          by_cases c21 : (t165 != t167) = true
          · rw [if_pos c21] at H
            have c21b0 : (t165 != t167) = true := c21
            (try (have c21b1 : decide (t165 = t167) = false := by simpa using c21))
            (try (have c21b2 : (t165 == t167) = false := by simpa using c21))
            (try (have c21b3 : ¬ (t165 = t167) := by simpa using c21))
            clear c21
            have H' := Aside0.mk H
            clear H
            go_wp2
            go_meet
            case rel => exact ⟨_, (true), (by first | rfl | (simp; done) | (simp [*]; done)), H', ⟨by first | omega | exact Nat.le_refl _⟩, ⟨by repeat (first | (with_reducible first | exact HB.out | apply below_alloc | apply pw_below_drewN | apply below_drew1) | exact HB.out)⟩⟩
          · rw [if_neg c21] at H
            have c21b0 : (t165 != t167) = false := by simpa using c21
            (try (have c21b1 : decide (t165 = t167) = true := by simpa using c21))
            (try (have c21b2 : (t165 == t167) = true := by simpa using c21))
            clear c21
            by_cases c22 : t168 = t170
            · rw [if_pos c22] at H
              have c22b0 : (t168 == t170) = true := beq_iff_eq.mpr c22
              have c22b1 : (t168 != t170) = false := bne_eq_false_iff_eq.mpr c22
              clear c22
              by_cases c23 : (t169 != t171) = true
              · rw [if_pos c23] at H
                have c23b0 : (t169 != t171) = true := c23
                (try (have c23b1 : decide (t169 = t171) = false := by simpa using c23))
                (try (have c23b2 : (t169 == t171) = false := by simpa using c23))
                (try (have c23b3 : ¬ (t169 = t171) := by simpa using c23))
                clear c23
                have H' := Aside0.mk H
                clear H
                go_wp2
                go_meet
                case rel => exact ⟨_, (true), (by first | rfl | (simp; done) | (simp [*]; done)), H', ⟨by first | omega | exact Nat.le_refl _⟩, ⟨by repeat (first | (with_reducible first | exact HB.out | apply below_alloc | apply pw_below_drewN | apply below_drew1) | exact HB.out)⟩⟩
              · rw [if_neg c23] at H
                have c23b0 : (t169 != t171) = false := by simpa using c23
                (try (have c23b1 : decide (t169 = t171) = true := by simpa using c23))
                (try (have c23b2 : (t169 == t171) = true := by simpa using c23))
                clear c23
                by_cases c24 : t172 = t174
                · rw [if_pos c24] at H
                  have c24b0 : (t172 == t174) = true := beq_iff_eq.mpr c24
                  have c24b1 : (t172 != t174) = false := bne_eq_false_iff_eq.mpr c24
                  clear c24
                  by_cases c25 : (t173 != t175) = true
                  · rw [if_pos c25] at H
                    have c25b0 : (t173 != t175) = true := c25
                    (try (have c25b1 : decide (t173 = t175) = false := by simpa using c25))
                    (try (have c25b2 : (t173 == t175) = false := by simpa using c25))
                    (try (have c25b3 : ¬ (t173 = t175) := by simpa using c25))
                    clear c25
                    have H' := Aside0.mk H
                    clear H
                    go_wp2
                    go_meet
                    case rel => exact ⟨_, (true), (by first | rfl | (simp; done) | (simp [*]; done)), H', ⟨by first | omega | exact Nat.le_refl _⟩, ⟨by repeat (first | (with_reducible first | exact HB.out | apply below_alloc | apply pw_below_drewN | apply below_drew1) | exact HB.out)⟩⟩
                  · rw [if_neg c25] at H
                    have c25b0 : (t173 != t175) = false := by simpa using c25
                    (try (have c25b1 : decide (t173 = t175) = true := by simpa using c25))
                    (try (have c25b2 : (t173 == t175) = true := by simpa using c25))
                    clear c25
                    by_cases c26 : t176 = t178
                    · rw [if_pos c26] at H
                      have c26b0 : (t176 == t178) = true := beq_iff_eq.mpr c26
                      have c26b1 : (t176 != t178) = false := bne_eq_false_iff_eq.mpr c26
                      clear c26
                      have H' := Aside0.mk H
                      clear H
                      go_wp2
                      go_meet
                      case rel => exact ⟨_, ((t177 != t179)), (by first | rfl | (simp; done) | (simp [*]; done)), H', ⟨by first | omega | exact Nat.le_refl _⟩, ⟨by repeat (first | (with_reducible first | exact HB.out | apply below_alloc | apply pw_below_drewN | apply below_drew1) | exact HB.out)⟩⟩
                    · rw [if_neg c26] at H
                      have c26b0 : (t176 == t178) = false := beq_eq_false_iff_ne.mpr c26
                      have c26b1 : (t176 != t178) = true := bne_iff_ne.mpr c26
                      have H' := Aside0.mk H
                      clear H
                      go_wp2
                      go_meet
                      case rel => exact ⟨_, (true), (by first | rfl | (simp; done) | (simp [*]; done)), H', ⟨by first | omega | exact Nat.le_refl _⟩, ⟨by repeat (first | (with_reducible first | exact HB.out | apply below_alloc | apply pw_below_drewN | apply below_drew1) | exact HB.out)⟩⟩
                · rw [if_neg c24] at H
                  have c24b0 : (t172 == t174) = false := beq_eq_false_iff_ne.mpr c24
                  have c24b1 : (t172 != t174) = true := bne_iff_ne.mpr c24
                  have H' := Aside0.mk H
                  clear H
                  go_wp2
                  go_meet
                  case rel => exact ⟨_, (true), (by first | rfl | (simp; done) | (simp [*]; done)), H', ⟨by first | omega | exact Nat.le_refl _⟩, ⟨by repeat (first | (with_reducible first | exact HB.out | apply below_alloc | apply pw_below_drewN | apply below_drew1) | exact HB.out)⟩⟩
            · rw [if_neg c22] at H
              have c22b0 : (t168 == t170) = false := beq_eq_false_iff_ne.mpr c22
              have c22b1 : (t168 != t170) = true := bne_iff_ne.mpr c22
              have H' := Aside0.mk H
              clear H
              go_wp2
              go_meet
              case rel => exact ⟨_, (true), (by first | rfl | (simp; done) | (simp [*]; done)), H', ⟨by first | omega | exact Nat.le_refl _⟩, ⟨by repeat (first | (with_reducible first | exact HB.out | apply below_alloc | apply pw_below_drewN | apply below_drew1) | exact HB.out)⟩⟩
        · rw [if_neg c20] at H
          have c20b0 : (t164 == t166) = false := beq_eq_false_iff_ne.mpr c20
          have c20b1 : (t164 != t166) = true := bne_iff_ne.mpr c20
          (first | rw [c20b0] | (simp only [i64_w, i32_w]; rw [c20b0]) | skip)
          have H' := Aside0.mk H
          clear H
          go_wp2
          go_meet
          case rel => exact ⟨_, (true), (by first | rfl | (simp; done) | (simp [*]; done)), H', ⟨by first | omega | exact Nat.le_refl _⟩, ⟨by repeat (first | (with_reducible first | exact HB.out | apply below_alloc | apply pw_below_drewN | apply below_drew1) | exact HB.out)⟩⟩
      case rest =>
        clear HC17
        try clear c2
        try clear p2
        try clear c3
        try clear c6
        try clear c7
        try clear c7b0
        try clear c7b1
        try clear c20
        try clear c20b0
        try clear c20b1
        try clear c21
        try clear c21b0
        try clear c21b1
        try clear c21b2
        try clear c22
        try clear c22b0
        try clear c22b1
        try clear c23
        try clear c23b0
        try clear c23b1
        try clear c23b2
        try clear c24
        try clear c24b0
        try clear c24b1
        try clear c25
        try clear c25b0
        try clear c25b1
        try clear c25b2
        try clear c26
        try clear c26b0
        try clear c26b1
        obtain ⟨kq, x125_16, rfl, HA, HJ16, HB⟩ := hcut
        cases kq with
        | zero => exact absurd HA.out (by simp [scrimlaw01_FixedTells.j0])
        | succ kj16 =>
          have H := HA.out
          clear HA
          simp only [scrimlaw01_FixedTells.j0] at H
          by_cases c27 : x125_16 = true
          · subst c27
            have H1 : (some false) = some r := by rw [if_pos rfl] at H; exact H
            clear H
            have H := H1
            clear H1
            obtain rfl := Option.some.inj H
            go_wp2
            go_ret
            exact ⟨by first | rfl | (simp [errW_none, errW_some] <;> rfl) | (simp [*, errW_none, errW_some] <;> rfl), by repeat (first | (with_reducible first | exact HB.out | apply below_alloc | apply pw_below_drewN | apply below_drew1) | exact HB.out)⟩
          · replace c27 := Bool.eq_false_iff.mpr c27
            subst c27
            have H1 : ((fixed_Part.f kj16 a0 a1 a2).bind fun bt180 => ((scrimref01_Part.f kj16 a0 a1 a2).bind fun bt182 => ((fixed_Sum.f kj16 l3).bind fun bt184 => ((scrimref01_Sum.f kj16 l3).bind fun bt186 => ((fixed_Px.f a0).bind fun bt188 => ((scrimref01_Px.f a0).bind fun bt190 => (if bt180.1 = bt182.1 then (if (bt180.2 == bt182.2) = true then (if bt184.1 = bt186.1 then (if (bt184.2 == bt186.2) = true then (if bt188.1 = bt190.1 then (some (bt188.2 == bt190.2)) else (some false)) else (some false)) else (some false)) else (some false)) else (some false)))))))) = some r := by rw [if_neg (show ¬ (false = true) by decide)] at H; exact H
            clear H
            have H := H1
            clear H1
            replace H := Option.bind_eq_some_iff.mp H
            obtain ⟨⟨t180, t181⟩, A280, H⟩ := H
            replace H : ((scrimref01_Part.f kj16 a0 a1 a2).bind fun bt182 => ((fixed_Sum.f kj16 l3).bind fun bt184 => ((scrimref01_Sum.f kj16 l3).bind fun bt186 => ((fixed_Px.f a0).bind fun bt188 => ((scrimref01_Px.f a0).bind fun bt190 => (if t180 = bt182.1 then (if (t181 == bt182.2) = true then (if bt184.1 = bt186.1 then (if (bt184.2 == bt186.2) = true then (if bt188.1 = bt190.1 then (some (bt188.2 == bt190.2)) else (some false)) else (some false)) else (some false)) else (some false)) else (some false))))))) = some r := H
            have A28 := Aside0.mk A280
            clear A280
            replace H := Option.bind_eq_some_iff.mp H
            obtain ⟨⟨t182, t183⟩, A290, H⟩ := H
            replace H : ((fixed_Sum.f kj16 l3).bind fun bt184 => ((scrimref01_Sum.f kj16 l3).bind fun bt186 => ((fixed_Px.f a0).bind fun bt188 => ((scrimref01_Px.f a0).bind fun bt190 => (if t180 = t182 then (if (t181 == t183) = true then (if bt184.1 = bt186.1 then (if (bt184.2 == bt186.2) = true then (if bt188.1 = bt190.1 then (some (bt188.2 == bt190.2)) else (some false)) else (some false)) else (some false)) else (some false)) else (some false)))))) = some r := H
            have A29 := Aside0.mk A290
            clear A290
            replace H := Option.bind_eq_some_iff.mp H
            obtain ⟨⟨t184, t185⟩, A300, H⟩ := H
            replace H : ((scrimref01_Sum.f kj16 l3).bind fun bt186 => ((fixed_Px.f a0).bind fun bt188 => ((scrimref01_Px.f a0).bind fun bt190 => (if t180 = t182 then (if (t181 == t183) = true then (if t184 = bt186.1 then (if (t185 == bt186.2) = true then (if bt188.1 = bt190.1 then (some (bt188.2 == bt190.2)) else (some false)) else (some false)) else (some false)) else (some false)) else (some false))))) = some r := H
            have A30 := Aside0.mk A300
            clear A300
            replace H := Option.bind_eq_some_iff.mp H
            obtain ⟨⟨t186, t187⟩, A310, H⟩ := H
            replace H : ((fixed_Px.f a0).bind fun bt188 => ((scrimref01_Px.f a0).bind fun bt190 => (if t180 = t182 then (if (t181 == t183) = true then (if t184 = t186 then (if (t185 == t187) = true then (if bt188.1 = bt190.1 then (some (bt188.2 == bt190.2)) else (some false)) else (some false)) else (some false)) else (some false)) else (some false)))) = some r := H
            have A31 := Aside0.mk A310
            clear A310
            replace H := Option.bind_eq_some_iff.mp H
            obtain ⟨⟨t188, t189⟩, A320, H⟩ := H
            replace H : ((scrimref01_Px.f a0).bind fun bt190 => (if t180 = t182 then (if (t181 == t183) = true then (if t184 = t186 then (if (t185 == t187) = true then (if t188 = bt190.1 then (some (t189 == bt190.2)) else (some false)) else (some false)) else (some false)) else (some false)) else (some false))) = some r := H
            have A32 := Aside0.mk A320
            clear A320
            replace H := Option.bind_eq_some_iff.mp H
            obtain ⟨⟨t190, t191⟩, A330, H⟩ := H
            replace H : (if t180 = t182 then (if (t181 == t183) = true then (if t184 = t186 then (if (t185 == t187) = true then (if t188 = t190 then (some (t189 == t191)) else (some false)) else (some false)) else (some false)) else (some false)) else (some false)) = some r := H
            have A33 := Aside0.mk A330
            clear A330
            by_cases c34 : t180 = t182
            · rw [if_pos c34] at H
              have c34b0 : (t180 == t182) = true := beq_iff_eq.mpr c34
              have c34b1 : (t180 != t182) = false := bne_eq_false_iff_eq.mpr c34
              clear c34
              by_cases c35 : (t181 == t183) = true
              · rw [if_pos c35] at H
                have c35b0 : (t181 == t183) = true := c35
                (try (have c35b1 : decide (t181 = t183) = true := by simpa using c35))
                (try (have c35b2 : (t181 == t183) = true := by simpa using c35))
                clear c35
                by_cases c36 : t184 = t186
                · rw [if_pos c36] at H
                  have c36b0 : (t184 == t186) = true := beq_iff_eq.mpr c36
                  have c36b1 : (t184 != t186) = false := bne_eq_false_iff_eq.mpr c36
                  clear c36
                  by_cases c37 : (t185 == t187) = true
                  · rw [if_pos c37] at H
                    have c37b0 : (t185 == t187) = true := c37
                    (try (have c37b1 : decide (t185 = t187) = true := by simpa using c37))
                    (try (have c37b2 : (t185 == t187) = true := by simpa using c37))
                    clear c37
                    by_cases c38 : t188 = t190
                    · rw [if_pos c38] at H
                      have c38b0 : (t188 == t190) = true := beq_iff_eq.mpr c38
                      have c38b1 : (t188 != t190) = false := bne_eq_false_iff_eq.mpr c38
                      clear c38
                      obtain rfl := Option.some.inj H
                      go_wp2_with (first | ((with_reducible refine gate_callee (f := 30) rfl ?_); refine goesL_ (some 130) rfl rfl Try.func30 (by kernel_rfl) rfl #[.int .i64 a0, .int .i64 a1, .int .i64 a2] rfl (by (try simp only [List.map_toArray, List.map_cons, List.map_nil]); first | done | rfl | (simp only [List.length_drop, List.length_take]; rfl)) ?_; (with_reducible refine (fixed_Part.calls kj16 a0 a1 a2 t180 t181 _ A28.out).mono ?_); rintro e w' ⟨rfl, ⟨nd, rfl⟩⟩; refine ⟨_, rfl, ?_⟩) | ((with_reducible refine gate_callee (f := 31) rfl ?_); refine goesL_ (some 137) rfl rfl Try.func31 (by kernel_rfl) rfl #[.int .i64 a0, .int .i64 a1, .int .i64 a2] rfl (by (try simp only [List.map_toArray, List.map_cons, List.map_nil]); first | done | rfl | (simp only [List.length_drop, List.length_take]; rfl)) ?_; (with_reducible refine (scrimref01_Part.calls kj16 a0 a1 a2 t182 t183 _ A29.out).mono ?_); rintro e w39 ⟨rfl, hb⟩; refine ⟨_, rfl, ?_⟩; have n0_ := Aside0.mk (below_step (by repeat (first | (with_reducible first | exact HB.out | apply below_alloc | apply pw_below_drewN | apply below_drew1) | exact HB.out)) hb); clear HB; have HB := n0_; clear n0_; (try clear hb); (try clear hb2); (try clear hk); (try clear hi)) | ((with_reducible refine gate_callee (f := 32) rfl ?_); refine goesL_ (some 142) rfl rfl Try.func32 (by kernel_rfl) rfl #[.slice A3 l3.length c3] rfl (by (try simp only [List.map_toArray, List.map_cons, List.map_nil]); first | done | rfl | (simp only [List.length_drop, List.length_take]; rfl)) ?_; (with_reducible refine (fixed_Sum.calls kj16 _ _ l3 t184 t185 _ ?side1 ?side2 A30.out).mono ?_); (case side1 => repeat (first | exact (Kd.C_below HR3.out HB.out) | (with_reducible refine Kd.C_alloc ?_ _) | (with_reducible refine Kd.C_drewN ?_ _) | (with_reducible refine Kd.C_drew ?_))); (case side2 => exact HC3.out); rintro e w' ⟨rfl, ⟨nd, rfl⟩⟩; refine ⟨_, rfl, ?_⟩) | ((with_reducible refine gate_callee (f := 33) rfl ?_); refine goesL_ (some 147) rfl rfl Try.func33 (by kernel_rfl) rfl #[.slice A3 l3.length c3] rfl (by (try simp only [List.map_toArray, List.map_cons, List.map_nil]); first | done | rfl | (simp only [List.length_drop, List.length_take]; rfl)) ?_; (with_reducible refine (scrimref01_Sum.calls kj16 _ _ l3 t186 t187 _ ?side1 ?side2 A31.out).mono ?_); (case side1 => repeat (first | exact (Kd.C_below HR3.out (by repeat (first | (with_reducible first | exact HB.out | apply below_alloc | apply pw_below_drewN | apply below_drew1) | exact HB.out))) | (with_reducible refine Kd.C_alloc ?_ _) | (with_reducible refine Kd.C_drewN ?_ _) | (with_reducible refine Kd.C_drew ?_))); (case side2 => exact HC3.out); rintro e w' ⟨rfl, ⟨nd, rfl⟩⟩; refine ⟨_, rfl, ?_⟩) | ((with_reducible refine gate_callee (f := 34) rfl ?_); refine goesL_ (some 152) rfl rfl Try.func34 (by kernel_rfl) rfl #[.int .i64 a0] rfl (by (try simp only [List.map_toArray, List.map_cons, List.map_nil]); first | done | rfl | (simp only [List.length_drop, List.length_take]; rfl)) ?_; (with_reducible refine (fixed_Px.calls a0 t188 t189 _ A32.out).mono ?_); rintro e w' ⟨rfl, ⟨nd, rfl⟩⟩; refine ⟨_, rfl, ?_⟩) | ((with_reducible refine gate_callee (f := 35) rfl ?_); refine goesL_ (some 157) rfl rfl Try.func35 (by kernel_rfl) rfl #[.int .i64 a0] rfl (by (try simp only [List.map_toArray, List.map_cons, List.map_nil]); first | done | rfl | (simp only [List.length_drop, List.length_take]; rfl)) ?_; (with_reducible refine (scrimref01_Px.calls a0 t190 t191 _ A33.out).mono ?_); rintro e w' ⟨rfl, ⟨nd, rfl⟩⟩; refine ⟨_, rfl, ?_⟩))
                      go_ret
                      exact ⟨by first | rfl | (simp [errW_none, errW_some] <;> rfl) | (simp [*, errW_none, errW_some] <;> rfl), by repeat (first | (with_reducible first | exact HB.out | apply below_alloc | apply pw_below_drewN | apply below_drew1) | exact HB.out)⟩
                    · rw [if_neg c38] at H
                      have c38b0 : (t188 == t190) = false := beq_eq_false_iff_ne.mpr c38
                      have c38b1 : (t188 != t190) = true := bne_iff_ne.mpr c38
                      obtain rfl := Option.some.inj H
                      go_wp2_with (first | ((with_reducible refine gate_callee (f := 30) rfl ?_); refine goesL_ (some 130) rfl rfl Try.func30 (by kernel_rfl) rfl #[.int .i64 a0, .int .i64 a1, .int .i64 a2] rfl (by (try simp only [List.map_toArray, List.map_cons, List.map_nil]); first | done | rfl | (simp only [List.length_drop, List.length_take]; rfl)) ?_; (with_reducible refine (fixed_Part.calls kj16 a0 a1 a2 t180 t181 _ A28.out).mono ?_); rintro e w' ⟨rfl, ⟨nd, rfl⟩⟩; refine ⟨_, rfl, ?_⟩) | ((with_reducible refine gate_callee (f := 31) rfl ?_); refine goesL_ (some 137) rfl rfl Try.func31 (by kernel_rfl) rfl #[.int .i64 a0, .int .i64 a1, .int .i64 a2] rfl (by (try simp only [List.map_toArray, List.map_cons, List.map_nil]); first | done | rfl | (simp only [List.length_drop, List.length_take]; rfl)) ?_; (with_reducible refine (scrimref01_Part.calls kj16 a0 a1 a2 t182 t183 _ A29.out).mono ?_); rintro e w40 ⟨rfl, hb⟩; refine ⟨_, rfl, ?_⟩; have n0_ := Aside0.mk (below_step (by repeat (first | (with_reducible first | exact HB.out | apply below_alloc | apply pw_below_drewN | apply below_drew1) | exact HB.out)) hb); clear HB; have HB := n0_; clear n0_; (try clear hb); (try clear hb2); (try clear hk); (try clear hi)) | ((with_reducible refine gate_callee (f := 32) rfl ?_); refine goesL_ (some 142) rfl rfl Try.func32 (by kernel_rfl) rfl #[.slice A3 l3.length c3] rfl (by (try simp only [List.map_toArray, List.map_cons, List.map_nil]); first | done | rfl | (simp only [List.length_drop, List.length_take]; rfl)) ?_; (with_reducible refine (fixed_Sum.calls kj16 _ _ l3 t184 t185 _ ?side1 ?side2 A30.out).mono ?_); (case side1 => repeat (first | exact (Kd.C_below HR3.out HB.out) | (with_reducible refine Kd.C_alloc ?_ _) | (with_reducible refine Kd.C_drewN ?_ _) | (with_reducible refine Kd.C_drew ?_))); (case side2 => exact HC3.out); rintro e w' ⟨rfl, ⟨nd, rfl⟩⟩; refine ⟨_, rfl, ?_⟩) | ((with_reducible refine gate_callee (f := 33) rfl ?_); refine goesL_ (some 147) rfl rfl Try.func33 (by kernel_rfl) rfl #[.slice A3 l3.length c3] rfl (by (try simp only [List.map_toArray, List.map_cons, List.map_nil]); first | done | rfl | (simp only [List.length_drop, List.length_take]; rfl)) ?_; (with_reducible refine (scrimref01_Sum.calls kj16 _ _ l3 t186 t187 _ ?side1 ?side2 A31.out).mono ?_); (case side1 => repeat (first | exact (Kd.C_below HR3.out (by repeat (first | (with_reducible first | exact HB.out | apply below_alloc | apply pw_below_drewN | apply below_drew1) | exact HB.out))) | (with_reducible refine Kd.C_alloc ?_ _) | (with_reducible refine Kd.C_drewN ?_ _) | (with_reducible refine Kd.C_drew ?_))); (case side2 => exact HC3.out); rintro e w' ⟨rfl, ⟨nd, rfl⟩⟩; refine ⟨_, rfl, ?_⟩) | ((with_reducible refine gate_callee (f := 34) rfl ?_); refine goesL_ (some 152) rfl rfl Try.func34 (by kernel_rfl) rfl #[.int .i64 a0] rfl (by (try simp only [List.map_toArray, List.map_cons, List.map_nil]); first | done | rfl | (simp only [List.length_drop, List.length_take]; rfl)) ?_; (with_reducible refine (fixed_Px.calls a0 t188 t189 _ A32.out).mono ?_); rintro e w' ⟨rfl, ⟨nd, rfl⟩⟩; refine ⟨_, rfl, ?_⟩) | ((with_reducible refine gate_callee (f := 35) rfl ?_); refine goesL_ (some 157) rfl rfl Try.func35 (by kernel_rfl) rfl #[.int .i64 a0] rfl (by (try simp only [List.map_toArray, List.map_cons, List.map_nil]); first | done | rfl | (simp only [List.length_drop, List.length_take]; rfl)) ?_; (with_reducible refine (scrimref01_Px.calls a0 t190 t191 _ A33.out).mono ?_); rintro e w' ⟨rfl, ⟨nd, rfl⟩⟩; refine ⟨_, rfl, ?_⟩))
                      go_ret
                      exact ⟨by first | rfl | (simp [errW_none, errW_some] <;> rfl) | (simp [*, errW_none, errW_some] <;> rfl), by repeat (first | (with_reducible first | exact HB.out | apply below_alloc | apply pw_below_drewN | apply below_drew1) | exact HB.out)⟩
                  · rw [if_neg c37] at H
                    have c37b0 : (t185 == t187) = false := by simpa using c37
                    (try (have c37b1 : decide (t185 = t187) = false := by simpa using c37))
                    (try (have c37b2 : (t185 == t187) = false := by simpa using c37))
                    (try (have c37b3 : ¬ (t185 = t187) := by simpa using c37))
                    clear c37
                    obtain rfl := Option.some.inj H
                    go_wp2_with (first | ((with_reducible refine gate_callee (f := 30) rfl ?_); refine goesL_ (some 130) rfl rfl Try.func30 (by kernel_rfl) rfl #[.int .i64 a0, .int .i64 a1, .int .i64 a2] rfl (by (try simp only [List.map_toArray, List.map_cons, List.map_nil]); first | done | rfl | (simp only [List.length_drop, List.length_take]; rfl)) ?_; (with_reducible refine (fixed_Part.calls kj16 a0 a1 a2 t180 t181 _ A28.out).mono ?_); rintro e w' ⟨rfl, ⟨nd, rfl⟩⟩; refine ⟨_, rfl, ?_⟩) | ((with_reducible refine gate_callee (f := 31) rfl ?_); refine goesL_ (some 137) rfl rfl Try.func31 (by kernel_rfl) rfl #[.int .i64 a0, .int .i64 a1, .int .i64 a2] rfl (by (try simp only [List.map_toArray, List.map_cons, List.map_nil]); first | done | rfl | (simp only [List.length_drop, List.length_take]; rfl)) ?_; (with_reducible refine (scrimref01_Part.calls kj16 a0 a1 a2 t182 t183 _ A29.out).mono ?_); rintro e w41 ⟨rfl, hb⟩; refine ⟨_, rfl, ?_⟩; have n0_ := Aside0.mk (below_step (by repeat (first | (with_reducible first | exact HB.out | apply below_alloc | apply pw_below_drewN | apply below_drew1) | exact HB.out)) hb); clear HB; have HB := n0_; clear n0_; (try clear hb); (try clear hb2); (try clear hk); (try clear hi)) | ((with_reducible refine gate_callee (f := 32) rfl ?_); refine goesL_ (some 142) rfl rfl Try.func32 (by kernel_rfl) rfl #[.slice A3 l3.length c3] rfl (by (try simp only [List.map_toArray, List.map_cons, List.map_nil]); first | done | rfl | (simp only [List.length_drop, List.length_take]; rfl)) ?_; (with_reducible refine (fixed_Sum.calls kj16 _ _ l3 t184 t185 _ ?side1 ?side2 A30.out).mono ?_); (case side1 => repeat (first | exact (Kd.C_below HR3.out HB.out) | (with_reducible refine Kd.C_alloc ?_ _) | (with_reducible refine Kd.C_drewN ?_ _) | (with_reducible refine Kd.C_drew ?_))); (case side2 => exact HC3.out); rintro e w' ⟨rfl, ⟨nd, rfl⟩⟩; refine ⟨_, rfl, ?_⟩) | ((with_reducible refine gate_callee (f := 33) rfl ?_); refine goesL_ (some 147) rfl rfl Try.func33 (by kernel_rfl) rfl #[.slice A3 l3.length c3] rfl (by (try simp only [List.map_toArray, List.map_cons, List.map_nil]); first | done | rfl | (simp only [List.length_drop, List.length_take]; rfl)) ?_; (with_reducible refine (scrimref01_Sum.calls kj16 _ _ l3 t186 t187 _ ?side1 ?side2 A31.out).mono ?_); (case side1 => repeat (first | exact (Kd.C_below HR3.out (by repeat (first | (with_reducible first | exact HB.out | apply below_alloc | apply pw_below_drewN | apply below_drew1) | exact HB.out))) | (with_reducible refine Kd.C_alloc ?_ _) | (with_reducible refine Kd.C_drewN ?_ _) | (with_reducible refine Kd.C_drew ?_))); (case side2 => exact HC3.out); rintro e w' ⟨rfl, ⟨nd, rfl⟩⟩; refine ⟨_, rfl, ?_⟩) | ((with_reducible refine gate_callee (f := 34) rfl ?_); refine goesL_ (some 152) rfl rfl Try.func34 (by kernel_rfl) rfl #[.int .i64 a0] rfl (by (try simp only [List.map_toArray, List.map_cons, List.map_nil]); first | done | rfl | (simp only [List.length_drop, List.length_take]; rfl)) ?_; (with_reducible refine (fixed_Px.calls a0 t188 t189 _ A32.out).mono ?_); rintro e w' ⟨rfl, ⟨nd, rfl⟩⟩; refine ⟨_, rfl, ?_⟩) | ((with_reducible refine gate_callee (f := 35) rfl ?_); refine goesL_ (some 157) rfl rfl Try.func35 (by kernel_rfl) rfl #[.int .i64 a0] rfl (by (try simp only [List.map_toArray, List.map_cons, List.map_nil]); first | done | rfl | (simp only [List.length_drop, List.length_take]; rfl)) ?_; (with_reducible refine (scrimref01_Px.calls a0 t190 t191 _ A33.out).mono ?_); rintro e w' ⟨rfl, ⟨nd, rfl⟩⟩; refine ⟨_, rfl, ?_⟩))
                    go_ret
                    exact ⟨by first | rfl | (simp [errW_none, errW_some] <;> rfl) | (simp [*, errW_none, errW_some] <;> rfl), by repeat (first | (with_reducible first | exact HB.out | apply below_alloc | apply pw_below_drewN | apply below_drew1) | exact HB.out)⟩
                · rw [if_neg c36] at H
                  have c36b0 : (t184 == t186) = false := beq_eq_false_iff_ne.mpr c36
                  have c36b1 : (t184 != t186) = true := bne_iff_ne.mpr c36
                  obtain rfl := Option.some.inj H
                  go_wp2_with (first | ((with_reducible refine gate_callee (f := 30) rfl ?_); refine goesL_ (some 130) rfl rfl Try.func30 (by kernel_rfl) rfl #[.int .i64 a0, .int .i64 a1, .int .i64 a2] rfl (by (try simp only [List.map_toArray, List.map_cons, List.map_nil]); first | done | rfl | (simp only [List.length_drop, List.length_take]; rfl)) ?_; (with_reducible refine (fixed_Part.calls kj16 a0 a1 a2 t180 t181 _ A28.out).mono ?_); rintro e w' ⟨rfl, ⟨nd, rfl⟩⟩; refine ⟨_, rfl, ?_⟩) | ((with_reducible refine gate_callee (f := 31) rfl ?_); refine goesL_ (some 137) rfl rfl Try.func31 (by kernel_rfl) rfl #[.int .i64 a0, .int .i64 a1, .int .i64 a2] rfl (by (try simp only [List.map_toArray, List.map_cons, List.map_nil]); first | done | rfl | (simp only [List.length_drop, List.length_take]; rfl)) ?_; (with_reducible refine (scrimref01_Part.calls kj16 a0 a1 a2 t182 t183 _ A29.out).mono ?_); rintro e w42 ⟨rfl, hb⟩; refine ⟨_, rfl, ?_⟩; have n0_ := Aside0.mk (below_step (by repeat (first | (with_reducible first | exact HB.out | apply below_alloc | apply pw_below_drewN | apply below_drew1) | exact HB.out)) hb); clear HB; have HB := n0_; clear n0_; (try clear hb); (try clear hb2); (try clear hk); (try clear hi)) | ((with_reducible refine gate_callee (f := 32) rfl ?_); refine goesL_ (some 142) rfl rfl Try.func32 (by kernel_rfl) rfl #[.slice A3 l3.length c3] rfl (by (try simp only [List.map_toArray, List.map_cons, List.map_nil]); first | done | rfl | (simp only [List.length_drop, List.length_take]; rfl)) ?_; (with_reducible refine (fixed_Sum.calls kj16 _ _ l3 t184 t185 _ ?side1 ?side2 A30.out).mono ?_); (case side1 => repeat (first | exact (Kd.C_below HR3.out HB.out) | (with_reducible refine Kd.C_alloc ?_ _) | (with_reducible refine Kd.C_drewN ?_ _) | (with_reducible refine Kd.C_drew ?_))); (case side2 => exact HC3.out); rintro e w' ⟨rfl, ⟨nd, rfl⟩⟩; refine ⟨_, rfl, ?_⟩) | ((with_reducible refine gate_callee (f := 33) rfl ?_); refine goesL_ (some 147) rfl rfl Try.func33 (by kernel_rfl) rfl #[.slice A3 l3.length c3] rfl (by (try simp only [List.map_toArray, List.map_cons, List.map_nil]); first | done | rfl | (simp only [List.length_drop, List.length_take]; rfl)) ?_; (with_reducible refine (scrimref01_Sum.calls kj16 _ _ l3 t186 t187 _ ?side1 ?side2 A31.out).mono ?_); (case side1 => repeat (first | exact (Kd.C_below HR3.out (by repeat (first | (with_reducible first | exact HB.out | apply below_alloc | apply pw_below_drewN | apply below_drew1) | exact HB.out))) | (with_reducible refine Kd.C_alloc ?_ _) | (with_reducible refine Kd.C_drewN ?_ _) | (with_reducible refine Kd.C_drew ?_))); (case side2 => exact HC3.out); rintro e w' ⟨rfl, ⟨nd, rfl⟩⟩; refine ⟨_, rfl, ?_⟩) | ((with_reducible refine gate_callee (f := 34) rfl ?_); refine goesL_ (some 152) rfl rfl Try.func34 (by kernel_rfl) rfl #[.int .i64 a0] rfl (by (try simp only [List.map_toArray, List.map_cons, List.map_nil]); first | done | rfl | (simp only [List.length_drop, List.length_take]; rfl)) ?_; (with_reducible refine (fixed_Px.calls a0 t188 t189 _ A32.out).mono ?_); rintro e w' ⟨rfl, ⟨nd, rfl⟩⟩; refine ⟨_, rfl, ?_⟩) | ((with_reducible refine gate_callee (f := 35) rfl ?_); refine goesL_ (some 157) rfl rfl Try.func35 (by kernel_rfl) rfl #[.int .i64 a0] rfl (by (try simp only [List.map_toArray, List.map_cons, List.map_nil]); first | done | rfl | (simp only [List.length_drop, List.length_take]; rfl)) ?_; (with_reducible refine (scrimref01_Px.calls a0 t190 t191 _ A33.out).mono ?_); rintro e w' ⟨rfl, ⟨nd, rfl⟩⟩; refine ⟨_, rfl, ?_⟩))
                  go_ret
                  exact ⟨by first | rfl | (simp [errW_none, errW_some] <;> rfl) | (simp [*, errW_none, errW_some] <;> rfl), by repeat (first | (with_reducible first | exact HB.out | apply below_alloc | apply pw_below_drewN | apply below_drew1) | exact HB.out)⟩
              · rw [if_neg c35] at H
                have c35b0 : (t181 == t183) = false := by simpa using c35
                (try (have c35b1 : decide (t181 = t183) = false := by simpa using c35))
                (try (have c35b2 : (t181 == t183) = false := by simpa using c35))
                (try (have c35b3 : ¬ (t181 = t183) := by simpa using c35))
                clear c35
                obtain rfl := Option.some.inj H
                go_wp2_with (first | ((with_reducible refine gate_callee (f := 30) rfl ?_); refine goesL_ (some 130) rfl rfl Try.func30 (by kernel_rfl) rfl #[.int .i64 a0, .int .i64 a1, .int .i64 a2] rfl (by (try simp only [List.map_toArray, List.map_cons, List.map_nil]); first | done | rfl | (simp only [List.length_drop, List.length_take]; rfl)) ?_; (with_reducible refine (fixed_Part.calls kj16 a0 a1 a2 t180 t181 _ A28.out).mono ?_); rintro e w' ⟨rfl, ⟨nd, rfl⟩⟩; refine ⟨_, rfl, ?_⟩) | ((with_reducible refine gate_callee (f := 31) rfl ?_); refine goesL_ (some 137) rfl rfl Try.func31 (by kernel_rfl) rfl #[.int .i64 a0, .int .i64 a1, .int .i64 a2] rfl (by (try simp only [List.map_toArray, List.map_cons, List.map_nil]); first | done | rfl | (simp only [List.length_drop, List.length_take]; rfl)) ?_; (with_reducible refine (scrimref01_Part.calls kj16 a0 a1 a2 t182 t183 _ A29.out).mono ?_); rintro e w43 ⟨rfl, hb⟩; refine ⟨_, rfl, ?_⟩; have n0_ := Aside0.mk (below_step (by repeat (first | (with_reducible first | exact HB.out | apply below_alloc | apply pw_below_drewN | apply below_drew1) | exact HB.out)) hb); clear HB; have HB := n0_; clear n0_; (try clear hb); (try clear hb2); (try clear hk); (try clear hi)) | ((with_reducible refine gate_callee (f := 32) rfl ?_); refine goesL_ (some 142) rfl rfl Try.func32 (by kernel_rfl) rfl #[.slice A3 l3.length c3] rfl (by (try simp only [List.map_toArray, List.map_cons, List.map_nil]); first | done | rfl | (simp only [List.length_drop, List.length_take]; rfl)) ?_; (with_reducible refine (fixed_Sum.calls kj16 _ _ l3 t184 t185 _ ?side1 ?side2 A30.out).mono ?_); (case side1 => repeat (first | exact (Kd.C_below HR3.out HB.out) | (with_reducible refine Kd.C_alloc ?_ _) | (with_reducible refine Kd.C_drewN ?_ _) | (with_reducible refine Kd.C_drew ?_))); (case side2 => exact HC3.out); rintro e w' ⟨rfl, ⟨nd, rfl⟩⟩; refine ⟨_, rfl, ?_⟩) | ((with_reducible refine gate_callee (f := 33) rfl ?_); refine goesL_ (some 147) rfl rfl Try.func33 (by kernel_rfl) rfl #[.slice A3 l3.length c3] rfl (by (try simp only [List.map_toArray, List.map_cons, List.map_nil]); first | done | rfl | (simp only [List.length_drop, List.length_take]; rfl)) ?_; (with_reducible refine (scrimref01_Sum.calls kj16 _ _ l3 t186 t187 _ ?side1 ?side2 A31.out).mono ?_); (case side1 => repeat (first | exact (Kd.C_below HR3.out (by repeat (first | (with_reducible first | exact HB.out | apply below_alloc | apply pw_below_drewN | apply below_drew1) | exact HB.out))) | (with_reducible refine Kd.C_alloc ?_ _) | (with_reducible refine Kd.C_drewN ?_ _) | (with_reducible refine Kd.C_drew ?_))); (case side2 => exact HC3.out); rintro e w' ⟨rfl, ⟨nd, rfl⟩⟩; refine ⟨_, rfl, ?_⟩) | ((with_reducible refine gate_callee (f := 34) rfl ?_); refine goesL_ (some 152) rfl rfl Try.func34 (by kernel_rfl) rfl #[.int .i64 a0] rfl (by (try simp only [List.map_toArray, List.map_cons, List.map_nil]); first | done | rfl | (simp only [List.length_drop, List.length_take]; rfl)) ?_; (with_reducible refine (fixed_Px.calls a0 t188 t189 _ A32.out).mono ?_); rintro e w' ⟨rfl, ⟨nd, rfl⟩⟩; refine ⟨_, rfl, ?_⟩) | ((with_reducible refine gate_callee (f := 35) rfl ?_); refine goesL_ (some 157) rfl rfl Try.func35 (by kernel_rfl) rfl #[.int .i64 a0] rfl (by (try simp only [List.map_toArray, List.map_cons, List.map_nil]); first | done | rfl | (simp only [List.length_drop, List.length_take]; rfl)) ?_; (with_reducible refine (scrimref01_Px.calls a0 t190 t191 _ A33.out).mono ?_); rintro e w' ⟨rfl, ⟨nd, rfl⟩⟩; refine ⟨_, rfl, ?_⟩))
                go_ret
                exact ⟨by first | rfl | (simp [errW_none, errW_some] <;> rfl) | (simp [*, errW_none, errW_some] <;> rfl), by repeat (first | (with_reducible first | exact HB.out | apply below_alloc | apply pw_below_drewN | apply below_drew1) | exact HB.out)⟩
            · rw [if_neg c34] at H
              have c34b0 : (t180 == t182) = false := beq_eq_false_iff_ne.mpr c34
              have c34b1 : (t180 != t182) = true := bne_iff_ne.mpr c34
              obtain rfl := Option.some.inj H
              go_wp2_with (first | ((with_reducible refine gate_callee (f := 30) rfl ?_); refine goesL_ (some 130) rfl rfl Try.func30 (by kernel_rfl) rfl #[.int .i64 a0, .int .i64 a1, .int .i64 a2] rfl (by (try simp only [List.map_toArray, List.map_cons, List.map_nil]); first | done | rfl | (simp only [List.length_drop, List.length_take]; rfl)) ?_; (with_reducible refine (fixed_Part.calls kj16 a0 a1 a2 t180 t181 _ A28.out).mono ?_); rintro e w' ⟨rfl, ⟨nd, rfl⟩⟩; refine ⟨_, rfl, ?_⟩) | ((with_reducible refine gate_callee (f := 31) rfl ?_); refine goesL_ (some 137) rfl rfl Try.func31 (by kernel_rfl) rfl #[.int .i64 a0, .int .i64 a1, .int .i64 a2] rfl (by (try simp only [List.map_toArray, List.map_cons, List.map_nil]); first | done | rfl | (simp only [List.length_drop, List.length_take]; rfl)) ?_; (with_reducible refine (scrimref01_Part.calls kj16 a0 a1 a2 t182 t183 _ A29.out).mono ?_); rintro e w44 ⟨rfl, hb⟩; refine ⟨_, rfl, ?_⟩; have n0_ := Aside0.mk (below_step (by repeat (first | (with_reducible first | exact HB.out | apply below_alloc | apply pw_below_drewN | apply below_drew1) | exact HB.out)) hb); clear HB; have HB := n0_; clear n0_; (try clear hb); (try clear hb2); (try clear hk); (try clear hi)) | ((with_reducible refine gate_callee (f := 32) rfl ?_); refine goesL_ (some 142) rfl rfl Try.func32 (by kernel_rfl) rfl #[.slice A3 l3.length c3] rfl (by (try simp only [List.map_toArray, List.map_cons, List.map_nil]); first | done | rfl | (simp only [List.length_drop, List.length_take]; rfl)) ?_; (with_reducible refine (fixed_Sum.calls kj16 _ _ l3 t184 t185 _ ?side1 ?side2 A30.out).mono ?_); (case side1 => repeat (first | exact (Kd.C_below HR3.out HB.out) | (with_reducible refine Kd.C_alloc ?_ _) | (with_reducible refine Kd.C_drewN ?_ _) | (with_reducible refine Kd.C_drew ?_))); (case side2 => exact HC3.out); rintro e w' ⟨rfl, ⟨nd, rfl⟩⟩; refine ⟨_, rfl, ?_⟩) | ((with_reducible refine gate_callee (f := 33) rfl ?_); refine goesL_ (some 147) rfl rfl Try.func33 (by kernel_rfl) rfl #[.slice A3 l3.length c3] rfl (by (try simp only [List.map_toArray, List.map_cons, List.map_nil]); first | done | rfl | (simp only [List.length_drop, List.length_take]; rfl)) ?_; (with_reducible refine (scrimref01_Sum.calls kj16 _ _ l3 t186 t187 _ ?side1 ?side2 A31.out).mono ?_); (case side1 => repeat (first | exact (Kd.C_below HR3.out (by repeat (first | (with_reducible first | exact HB.out | apply below_alloc | apply pw_below_drewN | apply below_drew1) | exact HB.out))) | (with_reducible refine Kd.C_alloc ?_ _) | (with_reducible refine Kd.C_drewN ?_ _) | (with_reducible refine Kd.C_drew ?_))); (case side2 => exact HC3.out); rintro e w' ⟨rfl, ⟨nd, rfl⟩⟩; refine ⟨_, rfl, ?_⟩) | ((with_reducible refine gate_callee (f := 34) rfl ?_); refine goesL_ (some 152) rfl rfl Try.func34 (by kernel_rfl) rfl #[.int .i64 a0] rfl (by (try simp only [List.map_toArray, List.map_cons, List.map_nil]); first | done | rfl | (simp only [List.length_drop, List.length_take]; rfl)) ?_; (with_reducible refine (fixed_Px.calls a0 t188 t189 _ A32.out).mono ?_); rintro e w' ⟨rfl, ⟨nd, rfl⟩⟩; refine ⟨_, rfl, ?_⟩) | ((with_reducible refine gate_callee (f := 35) rfl ?_); refine goesL_ (some 157) rfl rfl Try.func35 (by kernel_rfl) rfl #[.int .i64 a0] rfl (by (try simp only [List.map_toArray, List.map_cons, List.map_nil]); first | done | rfl | (simp only [List.length_drop, List.length_take]; rfl)) ?_; (with_reducible refine (scrimref01_Px.calls a0 t190 t191 _ A33.out).mono ?_); rintro e w' ⟨rfl, ⟨nd, rfl⟩⟩; refine ⟨_, rfl, ?_⟩))
              go_ret
              exact ⟨by first | rfl | (simp [errW_none, errW_some] <;> rfl) | (simp [*, errW_none, errW_some] <;> rfl), by repeat (first | (with_reducible first | exact HB.out | apply below_alloc | apply pw_below_drewN | apply below_drew1) | exact HB.out)⟩
  · replace c6 := Bool.eq_false_iff.mpr c6
    subst c6
    have H1 : (some false) = some r := by rw [if_neg (show ¬ (false = true) by decide)] at H; exact H
    clear H
    have H := H1
    clear H1
    obtain rfl := Option.some.inj H
    go_enter Try.func6, Try.ntmps6
    go_wp2_with (first | ((with_reducible refine gate_callee (f := 21) rfl ?_); refine goesL_ (some 37) rfl rfl Try.func21 (by kernel_rfl) rfl #[] rfl (by (try simp only [List.map_toArray, List.map_cons, List.map_nil]); first | done | rfl | (simp only [List.length_drop, List.length_take]; rfl)) ?_; (with_reducible refine (scrimlaw01_awake.calls k  false _ A5.out).mono ?_); rintro e w45 ⟨rfl, hb⟩; refine ⟨_, rfl, ?_⟩; have n0_ := Aside0.mk (below_step (by repeat (first | (with_reducible first | exact HB.out | apply below_alloc | apply pw_below_drewN | apply below_drew1) | exact HB.out)) hb); clear HB; have HB := n0_; clear n0_; (try clear hb); (try clear hb2); (try clear hk); (try clear hi)))
    go_ret
    exact ⟨by first | rfl | (simp [errW_none, errW_some] <;> rfl) | (simp [*, errW_none, errW_some] <;> rfl), by repeat (first | (with_reducible first | exact HB.out | apply below_alloc | apply pw_below_drewN | apply below_drew1) | exact HB.out)⟩

/-- THE ONE PURE STATEMENT of scrimlaw01_FixedTells: yours. -/
def scrimlaw01_FixedTells.Pure : Prop := ∀ (a0 : Int) (a1 : Int) (a2 : Int) (l3 : List Int), (Lit.int .i64 a0).wf = true → (Lit.int .i64 a1).wf = true → (Lit.int .i64 a2).wf = true → l3.length ≤ maxLen → l3.length * 8 ≤ 140737488351232 → (∀ x ∈ l3, (Lit.int .i64 x).wf = true) → ∃ k, scrimlaw01_FixedTells.f k a0 a1 a2 l3 = some true
theorem scrimlaw01_FixedTells.walk (P : scrimlaw01_FixedTells.Pure) (a0 : Int) (a1 : Int) (a2 : Int) (a3 : Option Addr) (len3 cap3 : Nat) (z3 : List Int) (w : World) (w0 : (Lit.int .i64 a0).wf = true) (w1 : (Lit.int .i64 a1).wf = true) (w2 : (Lit.int .i64 a2).wf = true) (w3 : (a3 = none ∧ len3 = 0 ∧ cap3 = 0 ∧ z3 = []) ∨ ∃ x, a3 = some x ∧ len3 ≤ cap3 ∧ cap3 ≤ maxLen ∧ z3.length = cap3 ∧ (∀ i, i < z3.length → w.cell? (x.add i) = some (.int .i64 (z3.getD i 0))) ∧ ∀ n ∈ z3, (Lit.int .i64 n).wf = true) (y3 : len3 * 8 ≤ 140737488351232) :
    Calls Try.prog 6 #[.int .i64 a0, .int .i64 a1, .int .i64 a2, .slice a3 len3 cap3] w fun e w' => e = .returned (.bool true) ∧ Below w.heap.size w w' := by
  obtain ⟨l3, rfl, hr3, hm3, hw3, hc3⟩ := ReadsInt.ofRowC w3
  obtain ⟨k, h⟩ := P a0 a1 a2 l3 w0 w1 w2 hm3 y3 hw3
  refine (scrimlaw01_FixedTells.calls k a0 a1 a2 _ _ l3 true w (Kd.C_of_reads (d := (0 : Int)) (h1 := fun _ => rfl) hr3) hc3 h).mono ?_
  rintro e w' ⟨rfl, hd⟩
  exact ⟨rfl, hd⟩

/-! ### scrimlaw01_within: function 36 -/
def scrimlaw01_within.f (a0 : Int) : Option (Bool) := if a0 ≥ (-1099511627776) then (some (decide (a0 ≤ 1099511627776))) else (some false)
set_option maxHeartbeats 8000000 in
set_option maxRecDepth 100000 in
theorem scrimlaw01_within.calls (a0 : Int) (r : Bool) (w : World) (h : scrimlaw01_within.f a0 = some r) :
    Calls Try.prog 36 #[.int .i64 a0] w fun e w' => e = .returned (.bool r) ∧ Drawn0 w w' := by
  have H : (if a0 ≥ (-1099511627776) then (some (decide (a0 ≤ 1099511627776))) else (some false)) = some r := h
  clear h
  by_cases c2 : a0 ≥ (-1099511627776)
  · rw [if_pos c2] at H
    have c2b0 : decide ((-1099511627776) ≤ a0) = true := decide_eq_true c2
    clear c2
    obtain rfl := Option.some.inj H
    go_enter Try.func36, Try.ntmps36
    go_wp2
    go_ret
    exact ⟨by first | rfl | (simp; done) | (simp [*]; done), by repeat (first | exact Drawn0.refl _ | apply Drawn0.step)⟩
  · rw [if_neg c2] at H
    have c2b0 : decide ((-1099511627776) ≤ a0) = false := decide_eq_false c2
    clear c2
    obtain rfl := Option.some.inj H
    go_enter Try.func36, Try.ntmps36
    go_wp2
    go_ret
    exact ⟨by first | rfl | (simp; done) | (simp [*]; done), by repeat (first | exact Drawn0.refl _ | apply Drawn0.step)⟩

/-! ### scrimlaw01_FixedWithin: function 7 -/
def scrimlaw01_FixedWithin.j0 : Nat → Int → Int → Int → Bool → Bool → Option (Bool)
  | 0, _, _, _, _, _ => none
  | k + 1, x0, x1, x7, x8, x109 => if x109 = true then (some false) else (if x8 = true then ((fixed_Sub.f x7 x1).bind fun bt212 => (if bt212.1 = x0 then (if bt212.2 = true then (some (x7 == (wrap64 (x0 + x1)))) else (some false)) else (some false))) else (some true))
def scrimlaw01_FixedWithin.f (k : Nat) (a0 : Int) (a1 : Int) (a2 : Int) : Option (Bool) := (scrimlaw01_awake.f k).bind fun t192 => (if t192 = true then ((fixed_Add.f a0 a1).bind fun bt193 => ((fixed_Add.f a1 a0).bind fun bt195 => ((fixed_Mul.f a0 a1).bind fun bt197 => ((fixed_Mul.f a1 a0).bind fun bt199 => ((fixed_Sub.f a0 a1).bind fun bt201 => ((fixed_Part.f k a0 a1 a2).bind fun bt203 => ((fixed_Px.f a0).bind fun bt205 => ((scrimlaw01_within.f bt193.1).bind fun t207 => (if t207 = true then ((scrimlaw01_within.f bt197.1).bind fun t208 => (if t208 = true then ((scrimlaw01_within.f bt201.1).bind fun t209 => (if t209 = true then ((scrimlaw01_within.f bt203.1).bind fun t210 => (if t210 = true then ((scrimlaw01_within.f bt205.1).bind fun t211 => (if t211 = true then (if bt193.1 = bt195.1 then (if (bt193.2 != bt195.2) = true then (scrimlaw01_FixedWithin.j0 k a0 a1 bt193.1 bt193.2 true) else (if bt197.1 = bt199.1 then (scrimlaw01_FixedWithin.j0 k a0 a1 bt193.1 bt193.2 (bt197.2 != bt199.2)) else (scrimlaw01_FixedWithin.j0 k a0 a1 bt193.1 bt193.2 true))) else (scrimlaw01_FixedWithin.j0 k a0 a1 bt193.1 bt193.2 true)) else (scrimlaw01_FixedWithin.j0 k a0 a1 bt193.1 bt193.2 true))) else (scrimlaw01_FixedWithin.j0 k a0 a1 bt193.1 bt193.2 true))) else (scrimlaw01_FixedWithin.j0 k a0 a1 bt193.1 bt193.2 true))) else (scrimlaw01_FixedWithin.j0 k a0 a1 bt193.1 bt193.2 true))) else (scrimlaw01_FixedWithin.j0 k a0 a1 bt193.1 bt193.2 true)))))))))) else (some false))
theorem scrimlaw01_FixedWithin.mono_l : ∀ k, (∀ y0 y1 y2 y3 y4, LeO (scrimlaw01_FixedWithin.j0 k y0 y1 y2 y3 y4) (scrimlaw01_FixedWithin.j0 (k + 1) y0 y1 y2 y3 y4))
  | 0 => fun _ _ _ _ _ r h => by simp [scrimlaw01_FixedWithin.j0] at h
  | k + 1 => by
    have ih0 := scrimlaw01_FixedWithin.mono_l k
    · intro y0 y1 y2 y3 y4
      unfold scrimlaw01_FixedWithin.j0
      repeat' first
      | (with_reducible exact ih0 _ _ _ _ _)
      | (with_reducible exact fixed_Part.mono _ _ _ _)
      | (with_reducible exact scrimlaw01_awake.mono _)
      | (with_reducible exact LeO.refl _)
      | (with_reducible exact LeO.none _)
      | (with_reducible refine LeO.ite ?_ ?_)
      | (with_reducible refine LeO.bind ?_ (fun _ => ?_))
      | exact ih0 _ _ _ _ _
      | exact fixed_Part.mono _ _ _ _
      | exact scrimlaw01_awake.mono _
      | exact LeO.none _
      | refine LeO.ite ?_ ?_
      | refine LeO.bind ?_ (fun _ => ?_)
theorem scrimlaw01_FixedWithin.mono : ∀ a0 a1 a2 k, LeO (scrimlaw01_FixedWithin.f k a0 a1 a2) (scrimlaw01_FixedWithin.f (k + 1) a0 a1 a2) := by
  intro a0 a1 a2 k
  have ih0 := scrimlaw01_FixedWithin.mono_l k
  unfold scrimlaw01_FixedWithin.f
  repeat' first
      | (with_reducible exact ih0 _ _ _ _ _)
      | (with_reducible exact fixed_Part.mono _ _ _ _)
      | (with_reducible exact scrimlaw01_awake.mono _)
      | (with_reducible exact LeO.refl _)
      | (with_reducible exact LeO.none _)
      | (with_reducible refine LeO.ite ?_ ?_)
      | (with_reducible refine LeO.bind ?_ (fun _ => ?_))
      | exact ih0 _ _ _ _ _
      | exact fixed_Part.mono _ _ _ _
      | exact scrimlaw01_awake.mono _
      | exact LeO.none _
      | refine LeO.ite ?_ ?_
      | refine LeO.bind ?_ (fun _ => ?_)
set_option maxHeartbeats 8000000 in
set_option maxRecDepth 100000 in
theorem scrimlaw01_FixedWithin.calls (k : Nat) (a0 : Int) (a1 : Int) (a2 : Int) (r : Bool) (w : World) (h : scrimlaw01_FixedWithin.f k a0 a1 a2 = some r) :
    Calls Try.prog 7 #[.int .i64 a0, .int .i64 a1, .int .i64 a2] w fun e w' => e = .returned (.bool r) ∧ Below w.heap.size w w' := by
  have HB := Aside0.mk (Below.refl w.heap.size w)
  have H : ((scrimlaw01_awake.f k).bind fun t192 => (if t192 = true then ((fixed_Add.f a0 a1).bind fun bt193 => ((fixed_Add.f a1 a0).bind fun bt195 => ((fixed_Mul.f a0 a1).bind fun bt197 => ((fixed_Mul.f a1 a0).bind fun bt199 => ((fixed_Sub.f a0 a1).bind fun bt201 => ((fixed_Part.f k a0 a1 a2).bind fun bt203 => ((fixed_Px.f a0).bind fun bt205 => ((scrimlaw01_within.f bt193.1).bind fun t207 => (if t207 = true then ((scrimlaw01_within.f bt197.1).bind fun t208 => (if t208 = true then ((scrimlaw01_within.f bt201.1).bind fun t209 => (if t209 = true then ((scrimlaw01_within.f bt203.1).bind fun t210 => (if t210 = true then ((scrimlaw01_within.f bt205.1).bind fun t211 => (if t211 = true then (if bt193.1 = bt195.1 then (if (bt193.2 != bt195.2) = true then (scrimlaw01_FixedWithin.j0 k a0 a1 bt193.1 bt193.2 true) else (if bt197.1 = bt199.1 then (scrimlaw01_FixedWithin.j0 k a0 a1 bt193.1 bt193.2 (bt197.2 != bt199.2)) else (scrimlaw01_FixedWithin.j0 k a0 a1 bt193.1 bt193.2 true))) else (scrimlaw01_FixedWithin.j0 k a0 a1 bt193.1 bt193.2 true)) else (scrimlaw01_FixedWithin.j0 k a0 a1 bt193.1 bt193.2 true))) else (scrimlaw01_FixedWithin.j0 k a0 a1 bt193.1 bt193.2 true))) else (scrimlaw01_FixedWithin.j0 k a0 a1 bt193.1 bt193.2 true))) else (scrimlaw01_FixedWithin.j0 k a0 a1 bt193.1 bt193.2 true))) else (scrimlaw01_FixedWithin.j0 k a0 a1 bt193.1 bt193.2 true)))))))))) else (some false))) = some r := h
  clear h
  replace H := Option.bind_eq_some_iff.mp H
  obtain ⟨t192, A40, H⟩ := H
  replace H : (if t192 = true then ((fixed_Add.f a0 a1).bind fun bt193 => ((fixed_Add.f a1 a0).bind fun bt195 => ((fixed_Mul.f a0 a1).bind fun bt197 => ((fixed_Mul.f a1 a0).bind fun bt199 => ((fixed_Sub.f a0 a1).bind fun bt201 => ((fixed_Part.f k a0 a1 a2).bind fun bt203 => ((fixed_Px.f a0).bind fun bt205 => ((scrimlaw01_within.f bt193.1).bind fun t207 => (if t207 = true then ((scrimlaw01_within.f bt197.1).bind fun t208 => (if t208 = true then ((scrimlaw01_within.f bt201.1).bind fun t209 => (if t209 = true then ((scrimlaw01_within.f bt203.1).bind fun t210 => (if t210 = true then ((scrimlaw01_within.f bt205.1).bind fun t211 => (if t211 = true then (if bt193.1 = bt195.1 then (if (bt193.2 != bt195.2) = true then (scrimlaw01_FixedWithin.j0 k a0 a1 bt193.1 bt193.2 true) else (if bt197.1 = bt199.1 then (scrimlaw01_FixedWithin.j0 k a0 a1 bt193.1 bt193.2 (bt197.2 != bt199.2)) else (scrimlaw01_FixedWithin.j0 k a0 a1 bt193.1 bt193.2 true))) else (scrimlaw01_FixedWithin.j0 k a0 a1 bt193.1 bt193.2 true)) else (scrimlaw01_FixedWithin.j0 k a0 a1 bt193.1 bt193.2 true))) else (scrimlaw01_FixedWithin.j0 k a0 a1 bt193.1 bt193.2 true))) else (scrimlaw01_FixedWithin.j0 k a0 a1 bt193.1 bt193.2 true))) else (scrimlaw01_FixedWithin.j0 k a0 a1 bt193.1 bt193.2 true))) else (scrimlaw01_FixedWithin.j0 k a0 a1 bt193.1 bt193.2 true)))))))))) else (some false)) = some r := H
  have A4 := Aside0.mk A40
  clear A40
  by_cases c5 : t192 = true
  · subst c5
    have H1 : ((fixed_Add.f a0 a1).bind fun bt193 => ((fixed_Add.f a1 a0).bind fun bt195 => ((fixed_Mul.f a0 a1).bind fun bt197 => ((fixed_Mul.f a1 a0).bind fun bt199 => ((fixed_Sub.f a0 a1).bind fun bt201 => ((fixed_Part.f k a0 a1 a2).bind fun bt203 => ((fixed_Px.f a0).bind fun bt205 => ((scrimlaw01_within.f bt193.1).bind fun t207 => (if t207 = true then ((scrimlaw01_within.f bt197.1).bind fun t208 => (if t208 = true then ((scrimlaw01_within.f bt201.1).bind fun t209 => (if t209 = true then ((scrimlaw01_within.f bt203.1).bind fun t210 => (if t210 = true then ((scrimlaw01_within.f bt205.1).bind fun t211 => (if t211 = true then (if bt193.1 = bt195.1 then (if (bt193.2 != bt195.2) = true then (scrimlaw01_FixedWithin.j0 k a0 a1 bt193.1 bt193.2 true) else (if bt197.1 = bt199.1 then (scrimlaw01_FixedWithin.j0 k a0 a1 bt193.1 bt193.2 (bt197.2 != bt199.2)) else (scrimlaw01_FixedWithin.j0 k a0 a1 bt193.1 bt193.2 true))) else (scrimlaw01_FixedWithin.j0 k a0 a1 bt193.1 bt193.2 true)) else (scrimlaw01_FixedWithin.j0 k a0 a1 bt193.1 bt193.2 true))) else (scrimlaw01_FixedWithin.j0 k a0 a1 bt193.1 bt193.2 true))) else (scrimlaw01_FixedWithin.j0 k a0 a1 bt193.1 bt193.2 true))) else (scrimlaw01_FixedWithin.j0 k a0 a1 bt193.1 bt193.2 true))) else (scrimlaw01_FixedWithin.j0 k a0 a1 bt193.1 bt193.2 true)))))))))) = some r := by rw [if_pos rfl] at H; exact H
    clear H
    have H := H1
    clear H1
    replace H := Option.bind_eq_some_iff.mp H
    obtain ⟨⟨t193, t194⟩, A60, H⟩ := H
    replace H : ((fixed_Add.f a1 a0).bind fun bt195 => ((fixed_Mul.f a0 a1).bind fun bt197 => ((fixed_Mul.f a1 a0).bind fun bt199 => ((fixed_Sub.f a0 a1).bind fun bt201 => ((fixed_Part.f k a0 a1 a2).bind fun bt203 => ((fixed_Px.f a0).bind fun bt205 => ((scrimlaw01_within.f t193).bind fun t207 => (if t207 = true then ((scrimlaw01_within.f bt197.1).bind fun t208 => (if t208 = true then ((scrimlaw01_within.f bt201.1).bind fun t209 => (if t209 = true then ((scrimlaw01_within.f bt203.1).bind fun t210 => (if t210 = true then ((scrimlaw01_within.f bt205.1).bind fun t211 => (if t211 = true then (if t193 = bt195.1 then (if (t194 != bt195.2) = true then (scrimlaw01_FixedWithin.j0 k a0 a1 t193 t194 true) else (if bt197.1 = bt199.1 then (scrimlaw01_FixedWithin.j0 k a0 a1 t193 t194 (bt197.2 != bt199.2)) else (scrimlaw01_FixedWithin.j0 k a0 a1 t193 t194 true))) else (scrimlaw01_FixedWithin.j0 k a0 a1 t193 t194 true)) else (scrimlaw01_FixedWithin.j0 k a0 a1 t193 t194 true))) else (scrimlaw01_FixedWithin.j0 k a0 a1 t193 t194 true))) else (scrimlaw01_FixedWithin.j0 k a0 a1 t193 t194 true))) else (scrimlaw01_FixedWithin.j0 k a0 a1 t193 t194 true))) else (scrimlaw01_FixedWithin.j0 k a0 a1 t193 t194 true))))))))) = some r := H
    have A6 := Aside0.mk A60
    clear A60
    replace H := Option.bind_eq_some_iff.mp H
    obtain ⟨⟨t195, t196⟩, A70, H⟩ := H
    replace H : ((fixed_Mul.f a0 a1).bind fun bt197 => ((fixed_Mul.f a1 a0).bind fun bt199 => ((fixed_Sub.f a0 a1).bind fun bt201 => ((fixed_Part.f k a0 a1 a2).bind fun bt203 => ((fixed_Px.f a0).bind fun bt205 => ((scrimlaw01_within.f t193).bind fun t207 => (if t207 = true then ((scrimlaw01_within.f bt197.1).bind fun t208 => (if t208 = true then ((scrimlaw01_within.f bt201.1).bind fun t209 => (if t209 = true then ((scrimlaw01_within.f bt203.1).bind fun t210 => (if t210 = true then ((scrimlaw01_within.f bt205.1).bind fun t211 => (if t211 = true then (if t193 = t195 then (if (t194 != t196) = true then (scrimlaw01_FixedWithin.j0 k a0 a1 t193 t194 true) else (if bt197.1 = bt199.1 then (scrimlaw01_FixedWithin.j0 k a0 a1 t193 t194 (bt197.2 != bt199.2)) else (scrimlaw01_FixedWithin.j0 k a0 a1 t193 t194 true))) else (scrimlaw01_FixedWithin.j0 k a0 a1 t193 t194 true)) else (scrimlaw01_FixedWithin.j0 k a0 a1 t193 t194 true))) else (scrimlaw01_FixedWithin.j0 k a0 a1 t193 t194 true))) else (scrimlaw01_FixedWithin.j0 k a0 a1 t193 t194 true))) else (scrimlaw01_FixedWithin.j0 k a0 a1 t193 t194 true))) else (scrimlaw01_FixedWithin.j0 k a0 a1 t193 t194 true)))))))) = some r := H
    have A7 := Aside0.mk A70
    clear A70
    replace H := Option.bind_eq_some_iff.mp H
    obtain ⟨⟨t197, t198⟩, A80, H⟩ := H
    replace H : ((fixed_Mul.f a1 a0).bind fun bt199 => ((fixed_Sub.f a0 a1).bind fun bt201 => ((fixed_Part.f k a0 a1 a2).bind fun bt203 => ((fixed_Px.f a0).bind fun bt205 => ((scrimlaw01_within.f t193).bind fun t207 => (if t207 = true then ((scrimlaw01_within.f t197).bind fun t208 => (if t208 = true then ((scrimlaw01_within.f bt201.1).bind fun t209 => (if t209 = true then ((scrimlaw01_within.f bt203.1).bind fun t210 => (if t210 = true then ((scrimlaw01_within.f bt205.1).bind fun t211 => (if t211 = true then (if t193 = t195 then (if (t194 != t196) = true then (scrimlaw01_FixedWithin.j0 k a0 a1 t193 t194 true) else (if t197 = bt199.1 then (scrimlaw01_FixedWithin.j0 k a0 a1 t193 t194 (t198 != bt199.2)) else (scrimlaw01_FixedWithin.j0 k a0 a1 t193 t194 true))) else (scrimlaw01_FixedWithin.j0 k a0 a1 t193 t194 true)) else (scrimlaw01_FixedWithin.j0 k a0 a1 t193 t194 true))) else (scrimlaw01_FixedWithin.j0 k a0 a1 t193 t194 true))) else (scrimlaw01_FixedWithin.j0 k a0 a1 t193 t194 true))) else (scrimlaw01_FixedWithin.j0 k a0 a1 t193 t194 true))) else (scrimlaw01_FixedWithin.j0 k a0 a1 t193 t194 true))))))) = some r := H
    have A8 := Aside0.mk A80
    clear A80
    replace H := Option.bind_eq_some_iff.mp H
    obtain ⟨⟨t199, t200⟩, A90, H⟩ := H
    replace H : ((fixed_Sub.f a0 a1).bind fun bt201 => ((fixed_Part.f k a0 a1 a2).bind fun bt203 => ((fixed_Px.f a0).bind fun bt205 => ((scrimlaw01_within.f t193).bind fun t207 => (if t207 = true then ((scrimlaw01_within.f t197).bind fun t208 => (if t208 = true then ((scrimlaw01_within.f bt201.1).bind fun t209 => (if t209 = true then ((scrimlaw01_within.f bt203.1).bind fun t210 => (if t210 = true then ((scrimlaw01_within.f bt205.1).bind fun t211 => (if t211 = true then (if t193 = t195 then (if (t194 != t196) = true then (scrimlaw01_FixedWithin.j0 k a0 a1 t193 t194 true) else (if t197 = t199 then (scrimlaw01_FixedWithin.j0 k a0 a1 t193 t194 (t198 != t200)) else (scrimlaw01_FixedWithin.j0 k a0 a1 t193 t194 true))) else (scrimlaw01_FixedWithin.j0 k a0 a1 t193 t194 true)) else (scrimlaw01_FixedWithin.j0 k a0 a1 t193 t194 true))) else (scrimlaw01_FixedWithin.j0 k a0 a1 t193 t194 true))) else (scrimlaw01_FixedWithin.j0 k a0 a1 t193 t194 true))) else (scrimlaw01_FixedWithin.j0 k a0 a1 t193 t194 true))) else (scrimlaw01_FixedWithin.j0 k a0 a1 t193 t194 true)))))) = some r := H
    have A9 := Aside0.mk A90
    clear A90
    replace H := Option.bind_eq_some_iff.mp H
    obtain ⟨⟨t201, t202⟩, A100, H⟩ := H
    replace H : ((fixed_Part.f k a0 a1 a2).bind fun bt203 => ((fixed_Px.f a0).bind fun bt205 => ((scrimlaw01_within.f t193).bind fun t207 => (if t207 = true then ((scrimlaw01_within.f t197).bind fun t208 => (if t208 = true then ((scrimlaw01_within.f t201).bind fun t209 => (if t209 = true then ((scrimlaw01_within.f bt203.1).bind fun t210 => (if t210 = true then ((scrimlaw01_within.f bt205.1).bind fun t211 => (if t211 = true then (if t193 = t195 then (if (t194 != t196) = true then (scrimlaw01_FixedWithin.j0 k a0 a1 t193 t194 true) else (if t197 = t199 then (scrimlaw01_FixedWithin.j0 k a0 a1 t193 t194 (t198 != t200)) else (scrimlaw01_FixedWithin.j0 k a0 a1 t193 t194 true))) else (scrimlaw01_FixedWithin.j0 k a0 a1 t193 t194 true)) else (scrimlaw01_FixedWithin.j0 k a0 a1 t193 t194 true))) else (scrimlaw01_FixedWithin.j0 k a0 a1 t193 t194 true))) else (scrimlaw01_FixedWithin.j0 k a0 a1 t193 t194 true))) else (scrimlaw01_FixedWithin.j0 k a0 a1 t193 t194 true))) else (scrimlaw01_FixedWithin.j0 k a0 a1 t193 t194 true))))) = some r := H
    have A10 := Aside0.mk A100
    clear A100
    replace H := Option.bind_eq_some_iff.mp H
    obtain ⟨⟨t203, t204⟩, A110, H⟩ := H
    replace H : ((fixed_Px.f a0).bind fun bt205 => ((scrimlaw01_within.f t193).bind fun t207 => (if t207 = true then ((scrimlaw01_within.f t197).bind fun t208 => (if t208 = true then ((scrimlaw01_within.f t201).bind fun t209 => (if t209 = true then ((scrimlaw01_within.f t203).bind fun t210 => (if t210 = true then ((scrimlaw01_within.f bt205.1).bind fun t211 => (if t211 = true then (if t193 = t195 then (if (t194 != t196) = true then (scrimlaw01_FixedWithin.j0 k a0 a1 t193 t194 true) else (if t197 = t199 then (scrimlaw01_FixedWithin.j0 k a0 a1 t193 t194 (t198 != t200)) else (scrimlaw01_FixedWithin.j0 k a0 a1 t193 t194 true))) else (scrimlaw01_FixedWithin.j0 k a0 a1 t193 t194 true)) else (scrimlaw01_FixedWithin.j0 k a0 a1 t193 t194 true))) else (scrimlaw01_FixedWithin.j0 k a0 a1 t193 t194 true))) else (scrimlaw01_FixedWithin.j0 k a0 a1 t193 t194 true))) else (scrimlaw01_FixedWithin.j0 k a0 a1 t193 t194 true))) else (scrimlaw01_FixedWithin.j0 k a0 a1 t193 t194 true)))) = some r := H
    have A11 := Aside0.mk A110
    clear A110
    replace H := Option.bind_eq_some_iff.mp H
    obtain ⟨⟨t205, t206⟩, A120, H⟩ := H
    replace H : ((scrimlaw01_within.f t193).bind fun t207 => (if t207 = true then ((scrimlaw01_within.f t197).bind fun t208 => (if t208 = true then ((scrimlaw01_within.f t201).bind fun t209 => (if t209 = true then ((scrimlaw01_within.f t203).bind fun t210 => (if t210 = true then ((scrimlaw01_within.f t205).bind fun t211 => (if t211 = true then (if t193 = t195 then (if (t194 != t196) = true then (scrimlaw01_FixedWithin.j0 k a0 a1 t193 t194 true) else (if t197 = t199 then (scrimlaw01_FixedWithin.j0 k a0 a1 t193 t194 (t198 != t200)) else (scrimlaw01_FixedWithin.j0 k a0 a1 t193 t194 true))) else (scrimlaw01_FixedWithin.j0 k a0 a1 t193 t194 true)) else (scrimlaw01_FixedWithin.j0 k a0 a1 t193 t194 true))) else (scrimlaw01_FixedWithin.j0 k a0 a1 t193 t194 true))) else (scrimlaw01_FixedWithin.j0 k a0 a1 t193 t194 true))) else (scrimlaw01_FixedWithin.j0 k a0 a1 t193 t194 true))) else (scrimlaw01_FixedWithin.j0 k a0 a1 t193 t194 true))) = some r := H
    have A12 := Aside0.mk A120
    clear A120
    have HC13 := Aside0.mk H
    clear H
    go_enter Try.func7, Try.ntmps7
    go_upto_region 10 with (first | ((with_reducible refine gate_callee (f := 21) rfl ?_); refine goesL_ (some 23) rfl rfl Try.func21 (by kernel_rfl) rfl #[] rfl (by (try simp only [List.map_toArray, List.map_cons, List.map_nil]); first | done | rfl | (simp only [List.length_drop, List.length_take]; rfl)) ?_; (with_reducible refine (scrimlaw01_awake.calls k  true _ A4.out).mono ?_); rintro e w14 ⟨rfl, hb⟩; refine ⟨_, rfl, ?_⟩; have n0_ := Aside0.mk (below_step (by repeat (first | (with_reducible first | exact HB.out | apply below_alloc | apply pw_below_drewN | apply below_drew1) | exact HB.out)) hb); clear HB; have HB := n0_; clear n0_; (try clear hb); (try clear hb2); (try clear hk); (try clear hi)) | ((with_reducible refine gate_callee (f := 24) rfl ?_); refine goesL_ (some 28) rfl rfl Try.func24 (by kernel_rfl) rfl #[.int .i64 a0, .int .i64 a1] rfl (by (try simp only [List.map_toArray, List.map_cons, List.map_nil]); first | done | rfl | (simp only [List.length_drop, List.length_take]; rfl)) ?_; (with_reducible refine (fixed_Add.calls a0 a1 t193 t194 _ A6.out).mono ?_); rintro e w' ⟨rfl, ⟨nd, rfl⟩⟩; refine ⟨_, rfl, ?_⟩) | ((with_reducible refine gate_callee (f := 24) rfl ?_); refine goesL_ (some 34) rfl rfl Try.func24 (by kernel_rfl) rfl #[.int .i64 a1, .int .i64 a0] rfl (by (try simp only [List.map_toArray, List.map_cons, List.map_nil]); first | done | rfl | (simp only [List.length_drop, List.length_take]; rfl)) ?_; (with_reducible refine (fixed_Add.calls a1 a0 t195 t196 _ A7.out).mono ?_); rintro e w' ⟨rfl, ⟨nd, rfl⟩⟩; refine ⟨_, rfl, ?_⟩) | ((with_reducible refine gate_callee (f := 28) rfl ?_); refine goesL_ (some 40) rfl rfl Try.func28 (by kernel_rfl) rfl #[.int .i64 a0, .int .i64 a1] rfl (by (try simp only [List.map_toArray, List.map_cons, List.map_nil]); first | done | rfl | (simp only [List.length_drop, List.length_take]; rfl)) ?_; (with_reducible refine (fixed_Mul.calls a0 a1 t197 t198 _ A8.out).mono ?_); rintro e w' ⟨rfl, ⟨nd, rfl⟩⟩; refine ⟨_, rfl, ?_⟩) | ((with_reducible refine gate_callee (f := 28) rfl ?_); refine goesL_ (some 46) rfl rfl Try.func28 (by kernel_rfl) rfl #[.int .i64 a1, .int .i64 a0] rfl (by (try simp only [List.map_toArray, List.map_cons, List.map_nil]); first | done | rfl | (simp only [List.length_drop, List.length_take]; rfl)) ?_; (with_reducible refine (fixed_Mul.calls a1 a0 t199 t200 _ A9.out).mono ?_); rintro e w' ⟨rfl, ⟨nd, rfl⟩⟩; refine ⟨_, rfl, ?_⟩) | ((with_reducible refine gate_callee (f := 26) rfl ?_); refine goesL_ (some 52) rfl rfl Try.func26 (by kernel_rfl) rfl #[.int .i64 a0, .int .i64 a1] rfl (by (try simp only [List.map_toArray, List.map_cons, List.map_nil]); first | done | rfl | (simp only [List.length_drop, List.length_take]; rfl)) ?_; (with_reducible refine (fixed_Sub.calls a0 a1 t201 t202 _ A10.out).mono ?_); rintro e w' ⟨rfl, ⟨nd, rfl⟩⟩; refine ⟨_, rfl, ?_⟩) | ((with_reducible refine gate_callee (f := 30) rfl ?_); refine goesL_ (some 59) rfl rfl Try.func30 (by kernel_rfl) rfl #[.int .i64 a0, .int .i64 a1, .int .i64 a2] rfl (by (try simp only [List.map_toArray, List.map_cons, List.map_nil]); first | done | rfl | (simp only [List.length_drop, List.length_take]; rfl)) ?_; (with_reducible refine (fixed_Part.calls k a0 a1 a2 t203 t204 _ A11.out).mono ?_); rintro e w' ⟨rfl, ⟨nd, rfl⟩⟩; refine ⟨_, rfl, ?_⟩) | ((with_reducible refine gate_callee (f := 34) rfl ?_); refine goesL_ (some 64) rfl rfl Try.func34 (by kernel_rfl) rfl #[.int .i64 a0] rfl (by (try simp only [List.map_toArray, List.map_cons, List.map_nil]); first | done | rfl | (simp only [List.length_drop, List.length_take]; rfl)) ?_; (with_reducible refine (fixed_Px.calls a0 t205 t206 _ A12.out).mono ?_); rintro e w' ⟨rfl, ⟨nd, rfl⟩⟩; refine ⟨_, rfl, ?_⟩))
    (try simp only [Act.put, List.setIfInBounds_toArray, List.set_cons_zero, List.set_cons_succ])
    go_cut [109] (fun v109 wc => ∃ (kq : Nat) (x109_12 : Bool), v109 = .bool x109_12 ∧ Aside0 (scrimlaw01_FixedWithin.j0 kq a0 a1 t193 t194 x109_12 = some r) ∧ Aside0 (kq ≤ k) ∧ Aside0 (Below w.heap.size w wc))
    case first =>
      have H := HC13.out
      clear HC13
      replace H := Option.bind_eq_some_iff.mp H
      obtain ⟨t207, A150, H⟩ := H
      replace H : (if t207 = true then ((scrimlaw01_within.f t197).bind fun t208 => (if t208 = true then ((scrimlaw01_within.f t201).bind fun t209 => (if t209 = true then ((scrimlaw01_within.f t203).bind fun t210 => (if t210 = true then ((scrimlaw01_within.f t205).bind fun t211 => (if t211 = true then (if t193 = t195 then (if (t194 != t196) = true then (scrimlaw01_FixedWithin.j0 k a0 a1 t193 t194 true) else (if t197 = t199 then (scrimlaw01_FixedWithin.j0 k a0 a1 t193 t194 (t198 != t200)) else (scrimlaw01_FixedWithin.j0 k a0 a1 t193 t194 true))) else (scrimlaw01_FixedWithin.j0 k a0 a1 t193 t194 true)) else (scrimlaw01_FixedWithin.j0 k a0 a1 t193 t194 true))) else (scrimlaw01_FixedWithin.j0 k a0 a1 t193 t194 true))) else (scrimlaw01_FixedWithin.j0 k a0 a1 t193 t194 true))) else (scrimlaw01_FixedWithin.j0 k a0 a1 t193 t194 true))) else (scrimlaw01_FixedWithin.j0 k a0 a1 t193 t194 true)) = some r := H
      have A15 := Aside0.mk A150
      clear A150
      by_cases c16 : t207 = true
      · subst c16
        have H1 : ((scrimlaw01_within.f t197).bind fun t208 => (if t208 = true then ((scrimlaw01_within.f t201).bind fun t209 => (if t209 = true then ((scrimlaw01_within.f t203).bind fun t210 => (if t210 = true then ((scrimlaw01_within.f t205).bind fun t211 => (if t211 = true then (if t193 = t195 then (if (t194 != t196) = true then (scrimlaw01_FixedWithin.j0 k a0 a1 t193 t194 true) else (if t197 = t199 then (scrimlaw01_FixedWithin.j0 k a0 a1 t193 t194 (t198 != t200)) else (scrimlaw01_FixedWithin.j0 k a0 a1 t193 t194 true))) else (scrimlaw01_FixedWithin.j0 k a0 a1 t193 t194 true)) else (scrimlaw01_FixedWithin.j0 k a0 a1 t193 t194 true))) else (scrimlaw01_FixedWithin.j0 k a0 a1 t193 t194 true))) else (scrimlaw01_FixedWithin.j0 k a0 a1 t193 t194 true))) else (scrimlaw01_FixedWithin.j0 k a0 a1 t193 t194 true))) = some r := by rw [if_pos rfl] at H; exact H
        clear H
        have H := H1
        clear H1
        replace H := Option.bind_eq_some_iff.mp H
        obtain ⟨t208, A170, H⟩ := H
        replace H : (if t208 = true then ((scrimlaw01_within.f t201).bind fun t209 => (if t209 = true then ((scrimlaw01_within.f t203).bind fun t210 => (if t210 = true then ((scrimlaw01_within.f t205).bind fun t211 => (if t211 = true then (if t193 = t195 then (if (t194 != t196) = true then (scrimlaw01_FixedWithin.j0 k a0 a1 t193 t194 true) else (if t197 = t199 then (scrimlaw01_FixedWithin.j0 k a0 a1 t193 t194 (t198 != t200)) else (scrimlaw01_FixedWithin.j0 k a0 a1 t193 t194 true))) else (scrimlaw01_FixedWithin.j0 k a0 a1 t193 t194 true)) else (scrimlaw01_FixedWithin.j0 k a0 a1 t193 t194 true))) else (scrimlaw01_FixedWithin.j0 k a0 a1 t193 t194 true))) else (scrimlaw01_FixedWithin.j0 k a0 a1 t193 t194 true))) else (scrimlaw01_FixedWithin.j0 k a0 a1 t193 t194 true)) = some r := H
        have A17 := Aside0.mk A170
        clear A170
        by_cases c18 : t208 = true
        · subst c18
          have H1 : ((scrimlaw01_within.f t201).bind fun t209 => (if t209 = true then ((scrimlaw01_within.f t203).bind fun t210 => (if t210 = true then ((scrimlaw01_within.f t205).bind fun t211 => (if t211 = true then (if t193 = t195 then (if (t194 != t196) = true then (scrimlaw01_FixedWithin.j0 k a0 a1 t193 t194 true) else (if t197 = t199 then (scrimlaw01_FixedWithin.j0 k a0 a1 t193 t194 (t198 != t200)) else (scrimlaw01_FixedWithin.j0 k a0 a1 t193 t194 true))) else (scrimlaw01_FixedWithin.j0 k a0 a1 t193 t194 true)) else (scrimlaw01_FixedWithin.j0 k a0 a1 t193 t194 true))) else (scrimlaw01_FixedWithin.j0 k a0 a1 t193 t194 true))) else (scrimlaw01_FixedWithin.j0 k a0 a1 t193 t194 true))) = some r := by rw [if_pos rfl] at H; exact H
          clear H
          have H := H1
          clear H1
          replace H := Option.bind_eq_some_iff.mp H
          obtain ⟨t209, A190, H⟩ := H
          replace H : (if t209 = true then ((scrimlaw01_within.f t203).bind fun t210 => (if t210 = true then ((scrimlaw01_within.f t205).bind fun t211 => (if t211 = true then (if t193 = t195 then (if (t194 != t196) = true then (scrimlaw01_FixedWithin.j0 k a0 a1 t193 t194 true) else (if t197 = t199 then (scrimlaw01_FixedWithin.j0 k a0 a1 t193 t194 (t198 != t200)) else (scrimlaw01_FixedWithin.j0 k a0 a1 t193 t194 true))) else (scrimlaw01_FixedWithin.j0 k a0 a1 t193 t194 true)) else (scrimlaw01_FixedWithin.j0 k a0 a1 t193 t194 true))) else (scrimlaw01_FixedWithin.j0 k a0 a1 t193 t194 true))) else (scrimlaw01_FixedWithin.j0 k a0 a1 t193 t194 true)) = some r := H
          have A19 := Aside0.mk A190
          clear A190
          by_cases c20 : t209 = true
          · subst c20
            have H1 : ((scrimlaw01_within.f t203).bind fun t210 => (if t210 = true then ((scrimlaw01_within.f t205).bind fun t211 => (if t211 = true then (if t193 = t195 then (if (t194 != t196) = true then (scrimlaw01_FixedWithin.j0 k a0 a1 t193 t194 true) else (if t197 = t199 then (scrimlaw01_FixedWithin.j0 k a0 a1 t193 t194 (t198 != t200)) else (scrimlaw01_FixedWithin.j0 k a0 a1 t193 t194 true))) else (scrimlaw01_FixedWithin.j0 k a0 a1 t193 t194 true)) else (scrimlaw01_FixedWithin.j0 k a0 a1 t193 t194 true))) else (scrimlaw01_FixedWithin.j0 k a0 a1 t193 t194 true))) = some r := by rw [if_pos rfl] at H; exact H
            clear H
            have H := H1
            clear H1
            replace H := Option.bind_eq_some_iff.mp H
            obtain ⟨t210, A210, H⟩ := H
            replace H : (if t210 = true then ((scrimlaw01_within.f t205).bind fun t211 => (if t211 = true then (if t193 = t195 then (if (t194 != t196) = true then (scrimlaw01_FixedWithin.j0 k a0 a1 t193 t194 true) else (if t197 = t199 then (scrimlaw01_FixedWithin.j0 k a0 a1 t193 t194 (t198 != t200)) else (scrimlaw01_FixedWithin.j0 k a0 a1 t193 t194 true))) else (scrimlaw01_FixedWithin.j0 k a0 a1 t193 t194 true)) else (scrimlaw01_FixedWithin.j0 k a0 a1 t193 t194 true))) else (scrimlaw01_FixedWithin.j0 k a0 a1 t193 t194 true)) = some r := H
            have A21 := Aside0.mk A210
            clear A210
            by_cases c22 : t210 = true
            · subst c22
              have H1 : ((scrimlaw01_within.f t205).bind fun t211 => (if t211 = true then (if t193 = t195 then (if (t194 != t196) = true then (scrimlaw01_FixedWithin.j0 k a0 a1 t193 t194 true) else (if t197 = t199 then (scrimlaw01_FixedWithin.j0 k a0 a1 t193 t194 (t198 != t200)) else (scrimlaw01_FixedWithin.j0 k a0 a1 t193 t194 true))) else (scrimlaw01_FixedWithin.j0 k a0 a1 t193 t194 true)) else (scrimlaw01_FixedWithin.j0 k a0 a1 t193 t194 true))) = some r := by rw [if_pos rfl] at H; exact H
              clear H
              have H := H1
              clear H1
              replace H := Option.bind_eq_some_iff.mp H
              obtain ⟨t211, A230, H⟩ := H
              replace H : (if t211 = true then (if t193 = t195 then (if (t194 != t196) = true then (scrimlaw01_FixedWithin.j0 k a0 a1 t193 t194 true) else (if t197 = t199 then (scrimlaw01_FixedWithin.j0 k a0 a1 t193 t194 (t198 != t200)) else (scrimlaw01_FixedWithin.j0 k a0 a1 t193 t194 true))) else (scrimlaw01_FixedWithin.j0 k a0 a1 t193 t194 true)) else (scrimlaw01_FixedWithin.j0 k a0 a1 t193 t194 true)) = some r := H
              have A23 := Aside0.mk A230
              clear A230
              by_cases c24 : t211 = true
              · subst c24
                have H1 : (if t193 = t195 then (if (t194 != t196) = true then (scrimlaw01_FixedWithin.j0 k a0 a1 t193 t194 true) else (if t197 = t199 then (scrimlaw01_FixedWithin.j0 k a0 a1 t193 t194 (t198 != t200)) else (scrimlaw01_FixedWithin.j0 k a0 a1 t193 t194 true))) else (scrimlaw01_FixedWithin.j0 k a0 a1 t193 t194 true)) = some r := by rw [if_pos rfl] at H; exact H
                clear H
                have H := H1
                clear H1
                by_cases c25 : t193 = t195
                · rw [if_pos c25] at H
                  have c25b0 : (t193 == t195) = true := beq_iff_eq.mpr c25
                  have c25b1 : (t193 != t195) = false := bne_eq_false_iff_eq.mpr c25
                  clear c25
                  (first | rw [c25b0] | (simp only [i64_w, i32_w]; rw [c25b0]) | skip)
                  by_cases c26 : (t194 != t196) = true
                  · rw [if_pos c26] at H
                    have c26b0 : (t194 != t196) = true := c26
                    (try (have c26b1 : decide (t194 = t196) = false := by simpa using c26))
                    (try (have c26b2 : (t194 == t196) = false := by simpa using c26))
                    (try (have c26b3 : ¬ (t194 = t196) := by simpa using c26))
                    clear c26
                    have H' := Aside0.mk H
                    clear H
                    go_wp2_with (first | ((with_reducible refine gate_callee (f := 36) rfl ?_); refine goesL_ (some 68) rfl rfl Try.func36 (by kernel_rfl) rfl #[.int .i64 t193] rfl (by (try simp only [List.map_toArray, List.map_cons, List.map_nil]); first | done | rfl | (simp only [List.length_drop, List.length_take]; rfl)) ?_; (with_reducible refine (scrimlaw01_within.calls t193 true _ A15.out).mono ?_); rintro e w' ⟨rfl, ⟨nd, rfl⟩⟩; refine ⟨_, rfl, ?_⟩) | (go_at_call 36; (with_reducible refine (scrimlaw01_within.calls t197 true _ A17.out).mono ?_); rintro e w' ⟨rfl, ⟨nd, rfl⟩⟩) | (go_at_call 36; (with_reducible refine (scrimlaw01_within.calls t201 true _ A19.out).mono ?_); rintro e w' ⟨rfl, ⟨nd, rfl⟩⟩) | (go_at_call 36; (with_reducible refine (scrimlaw01_within.calls t203 true _ A21.out).mono ?_); rintro e w' ⟨rfl, ⟨nd, rfl⟩⟩) | (go_at_call 36; (with_reducible refine (scrimlaw01_within.calls t205 true _ A23.out).mono ?_); rintro e w' ⟨rfl, ⟨nd, rfl⟩⟩))
                    go_meet
                    case rel => exact ⟨_, (true), (by first | rfl | (simp; done) | (simp [*]; done)), H', ⟨by first | omega | exact Nat.le_refl _⟩, ⟨by repeat (first | (with_reducible first | exact HB.out | apply below_alloc | apply pw_below_drewN | apply below_drew1) | exact HB.out)⟩⟩
                  · rw [if_neg c26] at H
                    have c26b0 : (t194 != t196) = false := by simpa using c26
                    (try (have c26b1 : decide (t194 = t196) = true := by simpa using c26))
                    (try (have c26b2 : (t194 == t196) = true := by simpa using c26))
                    clear c26
                    by_cases c27 : t197 = t199
                    · rw [if_pos c27] at H
                      have c27b0 : (t197 == t199) = true := beq_iff_eq.mpr c27
                      have c27b1 : (t197 != t199) = false := bne_eq_false_iff_eq.mpr c27
                      clear c27
                      have H' := Aside0.mk H
                      clear H
                      go_wp2_with (first | ((with_reducible refine gate_callee (f := 36) rfl ?_); refine goesL_ (some 68) rfl rfl Try.func36 (by kernel_rfl) rfl #[.int .i64 t193] rfl (by (try simp only [List.map_toArray, List.map_cons, List.map_nil]); first | done | rfl | (simp only [List.length_drop, List.length_take]; rfl)) ?_; (with_reducible refine (scrimlaw01_within.calls t193 true _ A15.out).mono ?_); rintro e w' ⟨rfl, ⟨nd, rfl⟩⟩; refine ⟨_, rfl, ?_⟩) | (go_at_call 36; (with_reducible refine (scrimlaw01_within.calls t197 true _ A17.out).mono ?_); rintro e w' ⟨rfl, ⟨nd, rfl⟩⟩) | (go_at_call 36; (with_reducible refine (scrimlaw01_within.calls t201 true _ A19.out).mono ?_); rintro e w' ⟨rfl, ⟨nd, rfl⟩⟩) | (go_at_call 36; (with_reducible refine (scrimlaw01_within.calls t203 true _ A21.out).mono ?_); rintro e w' ⟨rfl, ⟨nd, rfl⟩⟩) | (go_at_call 36; (with_reducible refine (scrimlaw01_within.calls t205 true _ A23.out).mono ?_); rintro e w' ⟨rfl, ⟨nd, rfl⟩⟩))
                      go_meet
                      case rel => exact ⟨_, ((t198 != t200)), (by first | rfl | (simp; done) | (simp [*]; done)), H', ⟨by first | omega | exact Nat.le_refl _⟩, ⟨by repeat (first | (with_reducible first | exact HB.out | apply below_alloc | apply pw_below_drewN | apply below_drew1) | exact HB.out)⟩⟩
                    · rw [if_neg c27] at H
                      have c27b0 : (t197 == t199) = false := beq_eq_false_iff_ne.mpr c27
                      have c27b1 : (t197 != t199) = true := bne_iff_ne.mpr c27
                      have H' := Aside0.mk H
                      clear H
                      go_wp2_with (first | ((with_reducible refine gate_callee (f := 36) rfl ?_); refine goesL_ (some 68) rfl rfl Try.func36 (by kernel_rfl) rfl #[.int .i64 t193] rfl (by (try simp only [List.map_toArray, List.map_cons, List.map_nil]); first | done | rfl | (simp only [List.length_drop, List.length_take]; rfl)) ?_; (with_reducible refine (scrimlaw01_within.calls t193 true _ A15.out).mono ?_); rintro e w' ⟨rfl, ⟨nd, rfl⟩⟩; refine ⟨_, rfl, ?_⟩) | (go_at_call 36; (with_reducible refine (scrimlaw01_within.calls t197 true _ A17.out).mono ?_); rintro e w' ⟨rfl, ⟨nd, rfl⟩⟩) | (go_at_call 36; (with_reducible refine (scrimlaw01_within.calls t201 true _ A19.out).mono ?_); rintro e w' ⟨rfl, ⟨nd, rfl⟩⟩) | (go_at_call 36; (with_reducible refine (scrimlaw01_within.calls t203 true _ A21.out).mono ?_); rintro e w' ⟨rfl, ⟨nd, rfl⟩⟩) | (go_at_call 36; (with_reducible refine (scrimlaw01_within.calls t205 true _ A23.out).mono ?_); rintro e w' ⟨rfl, ⟨nd, rfl⟩⟩))
                      go_meet
                      case rel => exact ⟨_, (true), (by first | rfl | (simp; done) | (simp [*]; done)), H', ⟨by first | omega | exact Nat.le_refl _⟩, ⟨by repeat (first | (with_reducible first | exact HB.out | apply below_alloc | apply pw_below_drewN | apply below_drew1) | exact HB.out)⟩⟩
                · rw [if_neg c25] at H
                  have c25b0 : (t193 == t195) = false := beq_eq_false_iff_ne.mpr c25
                  have c25b1 : (t193 != t195) = true := bne_iff_ne.mpr c25
                  (first | rw [c25b0] | (simp only [i64_w, i32_w]; rw [c25b0]) | skip)
                  have H' := Aside0.mk H
                  clear H
                  go_wp2_with (first | ((with_reducible refine gate_callee (f := 36) rfl ?_); refine goesL_ (some 68) rfl rfl Try.func36 (by kernel_rfl) rfl #[.int .i64 t193] rfl (by (try simp only [List.map_toArray, List.map_cons, List.map_nil]); first | done | rfl | (simp only [List.length_drop, List.length_take]; rfl)) ?_; (with_reducible refine (scrimlaw01_within.calls t193 true _ A15.out).mono ?_); rintro e w' ⟨rfl, ⟨nd, rfl⟩⟩; refine ⟨_, rfl, ?_⟩) | (go_at_call 36; (with_reducible refine (scrimlaw01_within.calls t197 true _ A17.out).mono ?_); rintro e w' ⟨rfl, ⟨nd, rfl⟩⟩) | (go_at_call 36; (with_reducible refine (scrimlaw01_within.calls t201 true _ A19.out).mono ?_); rintro e w' ⟨rfl, ⟨nd, rfl⟩⟩) | (go_at_call 36; (with_reducible refine (scrimlaw01_within.calls t203 true _ A21.out).mono ?_); rintro e w' ⟨rfl, ⟨nd, rfl⟩⟩) | (go_at_call 36; (with_reducible refine (scrimlaw01_within.calls t205 true _ A23.out).mono ?_); rintro e w' ⟨rfl, ⟨nd, rfl⟩⟩))
                  go_meet
                  case rel => exact ⟨_, (true), (by first | rfl | (simp; done) | (simp [*]; done)), H', ⟨by first | omega | exact Nat.le_refl _⟩, ⟨by repeat (first | (with_reducible first | exact HB.out | apply below_alloc | apply pw_below_drewN | apply below_drew1) | exact HB.out)⟩⟩
              · replace c24 := Bool.eq_false_iff.mpr c24
                subst c24
                have H1 : (scrimlaw01_FixedWithin.j0 k a0 a1 t193 t194 true) = some r := by rw [if_neg (show ¬ (false = true) by decide)] at H; exact H
                clear H
                have H := H1
                clear H1
                have H' := Aside0.mk H
                clear H
                go_wp2_with (first | ((with_reducible refine gate_callee (f := 36) rfl ?_); refine goesL_ (some 68) rfl rfl Try.func36 (by kernel_rfl) rfl #[.int .i64 t193] rfl (by (try simp only [List.map_toArray, List.map_cons, List.map_nil]); first | done | rfl | (simp only [List.length_drop, List.length_take]; rfl)) ?_; (with_reducible refine (scrimlaw01_within.calls t193 true _ A15.out).mono ?_); rintro e w' ⟨rfl, ⟨nd, rfl⟩⟩; refine ⟨_, rfl, ?_⟩) | (go_at_call 36; (with_reducible refine (scrimlaw01_within.calls t197 true _ A17.out).mono ?_); rintro e w' ⟨rfl, ⟨nd, rfl⟩⟩) | (go_at_call 36; (with_reducible refine (scrimlaw01_within.calls t201 true _ A19.out).mono ?_); rintro e w' ⟨rfl, ⟨nd, rfl⟩⟩) | (go_at_call 36; (with_reducible refine (scrimlaw01_within.calls t203 true _ A21.out).mono ?_); rintro e w' ⟨rfl, ⟨nd, rfl⟩⟩) | (go_at_call 36; (with_reducible refine (scrimlaw01_within.calls t205 false _ A23.out).mono ?_); rintro e w' ⟨rfl, ⟨nd, rfl⟩⟩))
                go_meet
                case rel => exact ⟨_, (true), (by first | rfl | (simp; done) | (simp [*]; done)), H', ⟨by first | omega | exact Nat.le_refl _⟩, ⟨by repeat (first | (with_reducible first | exact HB.out | apply below_alloc | apply pw_below_drewN | apply below_drew1) | exact HB.out)⟩⟩
            · replace c22 := Bool.eq_false_iff.mpr c22
              subst c22
              have H1 : (scrimlaw01_FixedWithin.j0 k a0 a1 t193 t194 true) = some r := by rw [if_neg (show ¬ (false = true) by decide)] at H; exact H
              clear H
              have H := H1
              clear H1
              have H' := Aside0.mk H
              clear H
              go_wp2_with (first | ((with_reducible refine gate_callee (f := 36) rfl ?_); refine goesL_ (some 68) rfl rfl Try.func36 (by kernel_rfl) rfl #[.int .i64 t193] rfl (by (try simp only [List.map_toArray, List.map_cons, List.map_nil]); first | done | rfl | (simp only [List.length_drop, List.length_take]; rfl)) ?_; (with_reducible refine (scrimlaw01_within.calls t193 true _ A15.out).mono ?_); rintro e w' ⟨rfl, ⟨nd, rfl⟩⟩; refine ⟨_, rfl, ?_⟩) | (go_at_call 36; (with_reducible refine (scrimlaw01_within.calls t197 true _ A17.out).mono ?_); rintro e w' ⟨rfl, ⟨nd, rfl⟩⟩) | (go_at_call 36; (with_reducible refine (scrimlaw01_within.calls t201 true _ A19.out).mono ?_); rintro e w' ⟨rfl, ⟨nd, rfl⟩⟩) | (go_at_call 36; (with_reducible refine (scrimlaw01_within.calls t203 false _ A21.out).mono ?_); rintro e w' ⟨rfl, ⟨nd, rfl⟩⟩))
              go_meet
              case rel => exact ⟨_, (true), (by first | rfl | (simp; done) | (simp [*]; done)), H', ⟨by first | omega | exact Nat.le_refl _⟩, ⟨by repeat (first | (with_reducible first | exact HB.out | apply below_alloc | apply pw_below_drewN | apply below_drew1) | exact HB.out)⟩⟩
          · replace c20 := Bool.eq_false_iff.mpr c20
            subst c20
            have H1 : (scrimlaw01_FixedWithin.j0 k a0 a1 t193 t194 true) = some r := by rw [if_neg (show ¬ (false = true) by decide)] at H; exact H
            clear H
            have H := H1
            clear H1
            have H' := Aside0.mk H
            clear H
            go_wp2_with (first | ((with_reducible refine gate_callee (f := 36) rfl ?_); refine goesL_ (some 68) rfl rfl Try.func36 (by kernel_rfl) rfl #[.int .i64 t193] rfl (by (try simp only [List.map_toArray, List.map_cons, List.map_nil]); first | done | rfl | (simp only [List.length_drop, List.length_take]; rfl)) ?_; (with_reducible refine (scrimlaw01_within.calls t193 true _ A15.out).mono ?_); rintro e w' ⟨rfl, ⟨nd, rfl⟩⟩; refine ⟨_, rfl, ?_⟩) | (go_at_call 36; (with_reducible refine (scrimlaw01_within.calls t197 true _ A17.out).mono ?_); rintro e w' ⟨rfl, ⟨nd, rfl⟩⟩) | (go_at_call 36; (with_reducible refine (scrimlaw01_within.calls t201 false _ A19.out).mono ?_); rintro e w' ⟨rfl, ⟨nd, rfl⟩⟩))
            go_meet
            case rel => exact ⟨_, (true), (by first | rfl | (simp; done) | (simp [*]; done)), H', ⟨by first | omega | exact Nat.le_refl _⟩, ⟨by repeat (first | (with_reducible first | exact HB.out | apply below_alloc | apply pw_below_drewN | apply below_drew1) | exact HB.out)⟩⟩
        · replace c18 := Bool.eq_false_iff.mpr c18
          subst c18
          have H1 : (scrimlaw01_FixedWithin.j0 k a0 a1 t193 t194 true) = some r := by rw [if_neg (show ¬ (false = true) by decide)] at H; exact H
          clear H
          have H := H1
          clear H1
          have H' := Aside0.mk H
          clear H
          go_wp2_with (first | ((with_reducible refine gate_callee (f := 36) rfl ?_); refine goesL_ (some 68) rfl rfl Try.func36 (by kernel_rfl) rfl #[.int .i64 t193] rfl (by (try simp only [List.map_toArray, List.map_cons, List.map_nil]); first | done | rfl | (simp only [List.length_drop, List.length_take]; rfl)) ?_; (with_reducible refine (scrimlaw01_within.calls t193 true _ A15.out).mono ?_); rintro e w' ⟨rfl, ⟨nd, rfl⟩⟩; refine ⟨_, rfl, ?_⟩) | (go_at_call 36; (with_reducible refine (scrimlaw01_within.calls t197 false _ A17.out).mono ?_); rintro e w' ⟨rfl, ⟨nd, rfl⟩⟩))
          go_meet
          case rel => exact ⟨_, (true), (by first | rfl | (simp; done) | (simp [*]; done)), H', ⟨by first | omega | exact Nat.le_refl _⟩, ⟨by repeat (first | (with_reducible first | exact HB.out | apply below_alloc | apply pw_below_drewN | apply below_drew1) | exact HB.out)⟩⟩
      · replace c16 := Bool.eq_false_iff.mpr c16
        subst c16
        have H1 : (scrimlaw01_FixedWithin.j0 k a0 a1 t193 t194 true) = some r := by rw [if_neg (show ¬ (false = true) by decide)] at H; exact H
        clear H
        have H := H1
        clear H1
        have H' := Aside0.mk H
        clear H
        go_wp2_with (first | ((with_reducible refine gate_callee (f := 36) rfl ?_); refine goesL_ (some 68) rfl rfl Try.func36 (by kernel_rfl) rfl #[.int .i64 t193] rfl (by (try simp only [List.map_toArray, List.map_cons, List.map_nil]); first | done | rfl | (simp only [List.length_drop, List.length_take]; rfl)) ?_; (with_reducible refine (scrimlaw01_within.calls t193 false _ A15.out).mono ?_); rintro e w' ⟨rfl, ⟨nd, rfl⟩⟩; refine ⟨_, rfl, ?_⟩))
        go_meet
        case rel => exact ⟨_, (true), (by first | rfl | (simp; done) | (simp [*]; done)), H', ⟨by first | omega | exact Nat.le_refl _⟩, ⟨by repeat (first | (with_reducible first | exact HB.out | apply below_alloc | apply pw_below_drewN | apply below_drew1) | exact HB.out)⟩⟩
    case rest =>
      clear HC13
      try clear c1
      try clear c2
      try clear p2
      try clear c3
      try clear c5
      try clear c7
      try clear c16
      try clear c18
      try clear c20
      try clear c21
      try clear c22
      try clear c24
      try clear c25
      try clear c25b0
      try clear c25b1
      try clear c26
      try clear c26b0
      try clear c26b1
      try clear c26b2
      try clear c27
      try clear c27b0
      try clear c27b1
      obtain ⟨kq, x109_12, rfl, HA, HJ12, HB⟩ := hcut
      cases kq with
      | zero => exact absurd HA.out (by simp [scrimlaw01_FixedWithin.j0])
      | succ kj12 =>
        have H := HA.out
        clear HA
        simp only [scrimlaw01_FixedWithin.j0] at H
        by_cases c28 : x109_12 = true
        · subst c28
          have H1 : (some false) = some r := by rw [if_pos rfl] at H; exact H
          clear H
          have H := H1
          clear H1
          obtain rfl := Option.some.inj H
          go_wp2
          go_ret
          exact ⟨by first | rfl | (simp [errW_none, errW_some] <;> rfl) | (simp [*, errW_none, errW_some] <;> rfl), by repeat (first | (with_reducible first | exact HB.out | apply below_alloc | apply pw_below_drewN | apply below_drew1) | exact HB.out)⟩
        · replace c28 := Bool.eq_false_iff.mpr c28
          subst c28
          have H1 : (if t194 = true then ((fixed_Sub.f t193 a1).bind fun bt212 => (if bt212.1 = a0 then (if bt212.2 = true then (some (t193 == (wrap64 (a0 + a1)))) else (some false)) else (some false))) else (some true)) = some r := by rw [if_neg (show ¬ (false = true) by decide)] at H; exact H
          clear H
          have H := H1
          clear H1
          by_cases c29 : t194 = true
          · subst c29
            have H1 : ((fixed_Sub.f t193 a1).bind fun bt212 => (if bt212.1 = a0 then (if bt212.2 = true then (some (t193 == (wrap64 (a0 + a1)))) else (some false)) else (some false))) = some r := by rw [if_pos rfl] at H; exact H
            clear H
            have H := H1
            clear H1
            replace H := Option.bind_eq_some_iff.mp H
            obtain ⟨⟨t212, t213⟩, A300, H⟩ := H
            replace H : (if t212 = a0 then (if t213 = true then (some (t193 == (wrap64 (a0 + a1)))) else (some false)) else (some false)) = some r := H
            have A30 := Aside0.mk A300
            clear A300
            by_cases c31 : t212 = a0
            · rw [if_pos c31] at H
              have c31b0 : (t212 == a0) = true := beq_iff_eq.mpr c31
              have c31b1 : (t212 != a0) = false := bne_eq_false_iff_eq.mpr c31
              clear c31
              by_cases c32 : t213 = true
              · subst c32
                have H1 : (some (t193 == (wrap64 (a0 + a1)))) = some r := by rw [if_pos rfl] at H; exact H
                clear H
                have H := H1
                clear H1
                obtain rfl := Option.some.inj H
                go_wp2_with (first | ((with_reducible refine gate_callee (f := 26) rfl ?_); refine goesL_ (some 115) rfl rfl Try.func26 (by kernel_rfl) rfl #[.int .i64 t193, .int .i64 a1] rfl (by (try simp only [List.map_toArray, List.map_cons, List.map_nil]); first | done | rfl | (simp only [List.length_drop, List.length_take]; rfl)) ?_; (with_reducible refine (fixed_Sub.calls t193 a1 t212 true _ A30.out).mono ?_); rintro e w' ⟨rfl, ⟨nd, rfl⟩⟩; refine ⟨_, rfl, ?_⟩))
                go_ret
                exact ⟨by first | rfl | (simp [errW_none, errW_some] <;> rfl) | (simp [*, errW_none, errW_some] <;> rfl), by repeat (first | (with_reducible first | exact HB.out | apply below_alloc | apply pw_below_drewN | apply below_drew1) | exact HB.out)⟩
              · replace c32 := Bool.eq_false_iff.mpr c32
                subst c32
                have H1 : (some false) = some r := by rw [if_neg (show ¬ (false = true) by decide)] at H; exact H
                clear H
                have H := H1
                clear H1
                obtain rfl := Option.some.inj H
                go_wp2_with (first | ((with_reducible refine gate_callee (f := 26) rfl ?_); refine goesL_ (some 115) rfl rfl Try.func26 (by kernel_rfl) rfl #[.int .i64 t193, .int .i64 a1] rfl (by (try simp only [List.map_toArray, List.map_cons, List.map_nil]); first | done | rfl | (simp only [List.length_drop, List.length_take]; rfl)) ?_; (with_reducible refine (fixed_Sub.calls t193 a1 t212 false _ A30.out).mono ?_); rintro e w' ⟨rfl, ⟨nd, rfl⟩⟩; refine ⟨_, rfl, ?_⟩))
                go_ret
                exact ⟨by first | rfl | (simp [errW_none, errW_some] <;> rfl) | (simp [*, errW_none, errW_some] <;> rfl), by repeat (first | (with_reducible first | exact HB.out | apply below_alloc | apply pw_below_drewN | apply below_drew1) | exact HB.out)⟩
            · rw [if_neg c31] at H
              have c31b0 : (t212 == a0) = false := beq_eq_false_iff_ne.mpr c31
              have c31b1 : (t212 != a0) = true := bne_iff_ne.mpr c31
              obtain rfl := Option.some.inj H
              go_wp2_with (first | ((with_reducible refine gate_callee (f := 26) rfl ?_); refine goesL_ (some 115) rfl rfl Try.func26 (by kernel_rfl) rfl #[.int .i64 t193, .int .i64 a1] rfl (by (try simp only [List.map_toArray, List.map_cons, List.map_nil]); first | done | rfl | (simp only [List.length_drop, List.length_take]; rfl)) ?_; (with_reducible refine (fixed_Sub.calls t193 a1 t212 t213 _ A30.out).mono ?_); rintro e w' ⟨rfl, ⟨nd, rfl⟩⟩; refine ⟨_, rfl, ?_⟩))
              go_ret
              exact ⟨by first | rfl | (simp [errW_none, errW_some] <;> rfl) | (simp [*, errW_none, errW_some] <;> rfl), by repeat (first | (with_reducible first | exact HB.out | apply below_alloc | apply pw_below_drewN | apply below_drew1) | exact HB.out)⟩
          · replace c29 := Bool.eq_false_iff.mpr c29
            subst c29
            have H1 : (some true) = some r := by rw [if_neg (show ¬ (false = true) by decide)] at H; exact H
            clear H
            have H := H1
            clear H1
            obtain rfl := Option.some.inj H
            go_wp2
            go_ret
            exact ⟨by first | rfl | (simp [errW_none, errW_some] <;> rfl) | (simp [*, errW_none, errW_some] <;> rfl), by repeat (first | (with_reducible first | exact HB.out | apply below_alloc | apply pw_below_drewN | apply below_drew1) | exact HB.out)⟩
  · replace c5 := Bool.eq_false_iff.mpr c5
    subst c5
    have H1 : (some false) = some r := by rw [if_neg (show ¬ (false = true) by decide)] at H; exact H
    clear H
    have H := H1
    clear H1
    obtain rfl := Option.some.inj H
    go_enter Try.func7, Try.ntmps7
    go_wp2_with (first | ((with_reducible refine gate_callee (f := 21) rfl ?_); refine goesL_ (some 23) rfl rfl Try.func21 (by kernel_rfl) rfl #[] rfl (by (try simp only [List.map_toArray, List.map_cons, List.map_nil]); first | done | rfl | (simp only [List.length_drop, List.length_take]; rfl)) ?_; (with_reducible refine (scrimlaw01_awake.calls k  false _ A4.out).mono ?_); rintro e w33 ⟨rfl, hb⟩; refine ⟨_, rfl, ?_⟩; have n0_ := Aside0.mk (below_step (by repeat (first | (with_reducible first | exact HB.out | apply below_alloc | apply pw_below_drewN | apply below_drew1) | exact HB.out)) hb); clear HB; have HB := n0_; clear n0_; (try clear hb); (try clear hb2); (try clear hk); (try clear hi)))
    go_ret
    exact ⟨by first | rfl | (simp [errW_none, errW_some] <;> rfl) | (simp [*, errW_none, errW_some] <;> rfl), by repeat (first | (with_reducible first | exact HB.out | apply below_alloc | apply pw_below_drewN | apply below_drew1) | exact HB.out)⟩

/-- THE ONE PURE STATEMENT of scrimlaw01_FixedWithin: yours. -/
def scrimlaw01_FixedWithin.Pure : Prop := ∀ (a0 : Int) (a1 : Int) (a2 : Int), (Lit.int .i64 a0).wf = true → (Lit.int .i64 a1).wf = true → (Lit.int .i64 a2).wf = true → ∃ k, scrimlaw01_FixedWithin.f k a0 a1 a2 = some true
theorem scrimlaw01_FixedWithin.walk (P : scrimlaw01_FixedWithin.Pure) (a0 : Int) (a1 : Int) (a2 : Int) (w : World) (w0 : (Lit.int .i64 a0).wf = true) (w1 : (Lit.int .i64 a1).wf = true) (w2 : (Lit.int .i64 a2).wf = true) :
    Calls Try.prog 7 #[.int .i64 a0, .int .i64 a1, .int .i64 a2] w fun e w' => e = .returned (.bool true) ∧ Below w.heap.size w w' := by
  obtain ⟨k, h⟩ := P a0 a1 a2 w0 w1 w2
  refine (scrimlaw01_FixedWithin.calls k a0 a1 a2 true w h).mono ?_
  rintro e w' ⟨rfl, hd⟩
  exact ⟨rfl, hd⟩

end Go.Proofs.Ytgppemaekgnnfaa.Q
