/- Written by a program of this session (wip/xprint.py): plain Lean functions, and that the Go functions compute them. -/
import Derived.Test.YtkjgnkmnngaioaaQx0
import Derived.Test.YtkjgnkmnngaioaaQxW
import Derived.Test.YtkjgnkmnngaioaaTkG
import Derived.Test.YtkjgnkmnngaioaaTkA
namespace Go.Proofs.Ytkjgnkmnngaioaa.Q
open Go.RowKit Go.Proofs.YtkjgnkmnngaioaaW.PrintWords Go.Proofs.YtkjgnkmnngaioaaW.PrintLast Go.Proofs.YtkjgnkmnngaioaaW.PrintMore
attribute [local go_sem] max2_int min2_int max_two min_two max_three min_three max_four min_four   -- for this text's walks alone
set_option linter.unusedVariables false
set_option linter.unusedSimpArgs false

/-! ### scrimlaw04_TokenSigned: function 3 -/
mutual
def scrimlaw04_TokenSigned.l0 : Nat → ByteArray → Bool → ByteArray → Int → Option (Bool)
  | 0, _, _, _, _ => none
  | k + 1, x0, x1, x5, x6 => if x6 < (x5.size : Int) then (if 0 ≤ x6 then (if (bt x5 x6) = 60 then (some false) else (if (bt x5 x6) = 62 then (some false) else (if x1 = true then (if (bt x5 x6) = 34 then (some false) else (scrimlaw04_TokenSigned.l0 k x0 x1 x5 (wrap64 (x6 + 1)))) else (scrimlaw04_TokenSigned.l0 k x0 x1 x5 (wrap64 (x6 + 1)))))) else (none)) else ((token_Read.f x5).bind fun bt142 => ((token_Tell.f x5).bind fun t146 => (if t146.toList = x0.toList then (scrimlaw04_TokenSigned.j1 k x0 bt142.1 (bt142.2 != 0)) else (scrimlaw04_TokenSigned.j1 k x0 bt142.1 true))))
def scrimlaw04_TokenSigned.j1 : Nat → ByteArray → List (S31) → Bool → Option (Bool)
  | 0, _, _, _ => none
  | k + 1, x0, x7, x54 => if x54 = true then (some false) else (if x0.toList = ([] : List UInt8) then (some ((x7.length : Int) == 0)) else (if (x7.length : Int) = 1 then (if 0 < (x7.length : Int) then (if ((rd_T31 x7 0).f0) = 3 then (some (((rd_T31 x7 0).f2).toList == x0.toList)) else (some false)) else (none)) else (some false)))
end
def scrimlaw04_TokenSigned.f (k : Nat) (a0 : ByteArray) (a1 : Bool) : Option (Bool) := (scrimlaw04_awake.f).bind fun t140 => (if t140 = true then (if (a0.size : Int) > 600 then (some true) else ((token_Sign.f a0 a1).bind fun t141 => (scrimlaw04_TokenSigned.l0 k a0 a1 t141 0))) else (some false))
theorem scrimlaw04_TokenSigned.mono_l : ∀ k, (∀ y0 y1 y2 y3, LeO (scrimlaw04_TokenSigned.l0 k y0 y1 y2 y3) (scrimlaw04_TokenSigned.l0 (k + 1) y0 y1 y2 y3)) ∧ (∀ y0 y1 y2, LeO (scrimlaw04_TokenSigned.j1 k y0 y1 y2) (scrimlaw04_TokenSigned.j1 (k + 1) y0 y1 y2))
  | 0 => ⟨fun _ _ _ _ r h => by simp [scrimlaw04_TokenSigned.l0] at h, fun _ _ _ r h => by simp [scrimlaw04_TokenSigned.j1] at h⟩
  | k + 1 => by
    obtain ⟨ih0, ih1⟩ := scrimlaw04_TokenSigned.mono_l k
    refine ⟨?_, ?_⟩
    · intro y0 y1 y2 y3
      unfold scrimlaw04_TokenSigned.l0
      repeat' first
      | (with_reducible exact ih0 _ _ _ _)
      | (with_reducible exact ih1 _ _ _)
      | (with_reducible exact LeO.refl _)
      | (with_reducible exact LeO.none _)
      | (with_reducible refine LeO.ite ?_ ?_)
      | (with_reducible refine LeO.bind ?_ (fun _ => ?_))
      | exact ih0 _ _ _ _
      | exact ih1 _ _ _
      | exact LeO.none _
      | refine LeO.ite ?_ ?_
      | refine LeO.bind ?_ (fun _ => ?_)
    · intro y0 y1 y2
      unfold scrimlaw04_TokenSigned.j1
      repeat' first
      | (with_reducible exact ih0 _ _ _ _)
      | (with_reducible exact ih1 _ _ _)
      | (with_reducible exact LeO.refl _)
      | (with_reducible exact LeO.none _)
      | (with_reducible refine LeO.ite ?_ ?_)
      | (with_reducible refine LeO.bind ?_ (fun _ => ?_))
      | exact ih0 _ _ _ _
      | exact ih1 _ _ _
      | exact LeO.none _
      | refine LeO.ite ?_ ?_
      | refine LeO.bind ?_ (fun _ => ?_)
theorem scrimlaw04_TokenSigned.mono : ∀ a0 a1 k, LeO (scrimlaw04_TokenSigned.f k a0 a1) (scrimlaw04_TokenSigned.f (k + 1) a0 a1) := by
  intro a0 a1 k
  obtain ⟨ih0, ih1⟩ := scrimlaw04_TokenSigned.mono_l k
  unfold scrimlaw04_TokenSigned.f
  repeat' first
      | (with_reducible exact ih0 _ _ _ _)
      | (with_reducible exact ih1 _ _ _)
      | (with_reducible exact LeO.refl _)
      | (with_reducible exact LeO.none _)
      | (with_reducible refine LeO.ite ?_ ?_)
      | (with_reducible refine LeO.bind ?_ (fun _ => ?_))
      | exact ih0 _ _ _ _
      | exact ih1 _ _ _
      | exact LeO.none _
      | refine LeO.ite ?_ ?_
      | refine LeO.bind ?_ (fun _ => ?_)
set_option maxHeartbeats 8000000 in
set_option maxRecDepth 100000 in
theorem scrimlaw04_TokenSigned.calls (k : Nat) (a0 : ByteArray) (a1 : Bool) (r : Bool) (w : World) (h : scrimlaw04_TokenSigned.f k a0 a1 = some r) :
    Calls Try.prog 3 #[.string a0, .bool a1] w fun e w' => e = .returned (.bool r) ∧ Below w.heap.size w w' := by
  have HB := Aside0.mk (Below.refl w.heap.size w)
  have H : ((scrimlaw04_awake.f).bind fun t140 => (if t140 = true then (if (a0.size : Int) > 600 then (some true) else ((token_Sign.f a0 a1).bind fun t141 => (scrimlaw04_TokenSigned.l0 k a0 a1 t141 0))) else (some false))) = some r := h
  clear h
  replace H := Option.bind_eq_some_iff.mp H
  obtain ⟨t140, A30, H⟩ := H
  replace H : (if t140 = true then (if (a0.size : Int) > 600 then (some true) else ((token_Sign.f a0 a1).bind fun t141 => (scrimlaw04_TokenSigned.l0 k a0 a1 t141 0))) else (some false)) = some r := H
  have A3 := Aside0.mk A30
  clear A30
  by_cases c4 : t140 = true
  · subst c4
    have H1 : (if (a0.size : Int) > 600 then (some true) else ((token_Sign.f a0 a1).bind fun t141 => (scrimlaw04_TokenSigned.l0 k a0 a1 t141 0))) = some r := by rw [if_pos rfl] at H; exact H
    clear H
    have H := H1
    clear H1
    by_cases c5 : (a0.size : Int) > 600
    · rw [if_pos c5] at H
      have c5b0 : decide (600 < (a0.size : Int)) = true := decide_eq_true c5
      have c5b1 : decide (600 < a0.size) = true := decide_eq_true (by omega)
      clear c5
      obtain rfl := Option.some.inj H
      go_enter Try.func3, Try.ntmps3
      go_wp2_with (first | ((with_reducible refine gate_callee (f := 6) rfl ?_); refine goesL_ (some 9) rfl rfl Try.func6 (by kernel_rfl) rfl #[] rfl (by (try simp only [List.map_toArray, List.map_cons, List.map_nil]); first | done | rfl | (simp only [List.length_drop, List.length_take]; rfl)) ?_; (with_reducible refine (scrimlaw04_awake.calls  true _ A3.out).mono ?_); rintro e w6 ⟨rfl, hb⟩; refine ⟨_, rfl, ?_⟩; have n0_ := Aside0.mk (below_step (by repeat (first | (with_reducible first | exact HB.out | apply below_alloc | apply pw_below_drewN | apply below_drew1) | exact HB.out)) hb); clear HB; have HB := n0_; clear n0_; (try clear hb); (try clear hb2); (try clear hk); (try clear hi)))
      go_ret
      exact ⟨by first | rfl | (simp [errW_none, errW_some] <;> rfl) | (simp [*, errW_none, errW_some] <;> rfl), by repeat (first | (with_reducible first | exact HB.out | apply below_alloc | apply pw_below_drewN | apply below_drew1) | exact HB.out)⟩
    · rw [if_neg c5] at H
      have c5b0 : decide (600 < (a0.size : Int)) = false := decide_eq_false c5
      have c5b1 : decide (600 < a0.size) = false := decide_eq_false (by omega)
      clear c5
      replace H := Option.bind_eq_some_iff.mp H
      obtain ⟨t141, A70, H⟩ := H
      replace H : (scrimlaw04_TokenSigned.l0 k a0 a1 t141 0) = some r := H
      have A7 := Aside0.mk A70
      clear A70
      have H' := Aside0.mk H
      clear H
      go_enter Try.func3, Try.ntmps3
      go_wp2_with (first | ((with_reducible refine gate_callee (f := 6) rfl ?_); refine goesL_ (some 9) rfl rfl Try.func6 (by kernel_rfl) rfl #[] rfl (by (try simp only [List.map_toArray, List.map_cons, List.map_nil]); first | done | rfl | (simp only [List.length_drop, List.length_take]; rfl)) ?_; (with_reducible refine (scrimlaw04_awake.calls  true _ A3.out).mono ?_); rintro e w8 ⟨rfl, hb⟩; refine ⟨_, rfl, ?_⟩; have n0_ := Aside0.mk (below_step (by repeat (first | (with_reducible first | exact HB.out | apply below_alloc | apply pw_below_drewN | apply below_drew1) | exact HB.out)) hb); clear HB; have HB := n0_; clear n0_; (try clear hb); (try clear hb2); (try clear hk); (try clear hi)) | ((with_reducible refine gate_callee (f := 7) rfl ?_); refine goesL_ (some 16) rfl rfl Try.func7 (by kernel_rfl) rfl #[.string a0, .bool a1] rfl (by (try simp only [List.map_toArray, List.map_cons, List.map_nil]); first | done | rfl | (simp only [List.length_drop, List.length_take]; rfl)) ?_; (with_reducible refine (token_Sign.calls a0 a1 t141 _ A7.out).mono ?_); rintro e w9 ⟨rfl, hb⟩; refine ⟨_, rfl, ?_⟩; have n0_ := Aside0.mk (below_step (by repeat (first | (with_reducible first | exact HB.out | apply below_alloc | apply pw_below_drewN | apply below_drew1) | exact HB.out)) hb); clear HB; have HB := n0_; clear n0_; (try clear hb); (try clear hb2); (try clear hk); (try clear hi)))
      go_loopg [6] k (fun kq v6 w' => ∃ (x6_1 : Int), v6 = .int .i64 x6_1 ∧ Aside0 (scrimlaw04_TokenSigned.l0 kq a0 a1 t141 x6_1 = some r) ∧ Aside0 (kq ≤ k) ∧ Aside0 (Below w.heap.size w w'))
      case atStart => exact ⟨(0), (by first | rfl | (simp; done) | (simp [*]; done)), H', ⟨Nat.le_refl _⟩, ⟨by repeat (first | (with_reducible first | exact HB.out | apply below_alloc | apply pw_below_drewN | apply below_drew1) | exact HB.out)⟩⟩
      case round =>
        clear H'
        try clear p2
        try clear c3
        try clear c4
        try clear c5
        try clear c5b0
        try clear c5b1
        try clear c6
        try clear c7
        obtain ⟨x6_1, rfl, HA, HK1, HB⟩ := hrel
        cases gk with
        | zero => exact absurd HA.out (by simp [scrimlaw04_TokenSigned.l0])
        | succ k1 =>
          have H := HA.out
          clear HA
          simp only [scrimlaw04_TokenSigned.l0] at H
          by_cases c10 : x6_1 < (t141.size : Int)
          · rw [if_pos c10] at H
            have c10b0 : decide (x6_1 < (t141.size : Int)) = true := decide_eq_true c10
            clear c10
            by_cases c11 : 0 ≤ x6_1
            · rw [if_pos c11] at H
              have c11b0 : decide (0 ≤ x6_1) = true := decide_eq_true c11
              clear c11
              by_cases c13 : (bt t141 x6_1) = 60
              · rw [if_pos c13] at H
                have c13b0 : ((bt t141 x6_1) == 60) = true := beq_iff_eq.mpr c13
                have c13b1 : ((bt t141 x6_1) != 60) = false := bne_eq_false_iff_eq.mpr c13
                clear c13
                obtain rfl := Option.some.inj H
                have p12 : 0 ≤ (x6_1 : Int) := of_decide_eq_true (by first | (with_reducible assumption) | assumption)
                have q12 : x6_1 < (t141.size : Int) := of_decide_eq_true (by first | (with_reducible assumption) | assumption)
                have hx12 := bt_at t141 x6_1
                replace p12 := eq_true p12
                replace q12 := eq_true q12
                go_wp2
                go_ret
                exact ⟨by first | rfl | (simp [errW_none, errW_some] <;> rfl) | (simp [*, errW_none, errW_some] <;> rfl), by repeat (first | (with_reducible first | exact HB.out | apply below_alloc | apply pw_below_drewN | apply below_drew1) | exact HB.out)⟩
              · rw [if_neg c13] at H
                have c13b0 : ((bt t141 x6_1) == 60) = false := beq_eq_false_iff_ne.mpr c13
                have c13b1 : ((bt t141 x6_1) != 60) = true := bne_iff_ne.mpr c13
                by_cases c15 : (bt t141 x6_1) = 62
                · rw [if_pos c15] at H
                  have c15b0 : ((bt t141 x6_1) == 62) = true := beq_iff_eq.mpr c15
                  have c15b1 : ((bt t141 x6_1) != 62) = false := bne_eq_false_iff_eq.mpr c15
                  clear c15
                  obtain rfl := Option.some.inj H
                  have p12 : 0 ≤ (x6_1 : Int) := of_decide_eq_true (by first | (with_reducible assumption) | assumption)
                  have q12 : x6_1 < (t141.size : Int) := of_decide_eq_true (by first | (with_reducible assumption) | assumption)
                  have hx12 := bt_at t141 x6_1
                  replace p12 := eq_true p12
                  replace q12 := eq_true q12
                  have p14 : 0 ≤ (x6_1 : Int) := of_decide_eq_true (by first | (with_reducible assumption) | assumption)
                  have q14 : x6_1 < (t141.size : Int) := of_decide_eq_true (by first | (with_reducible assumption) | assumption)
                  have hx14 := bt_at t141 x6_1
                  replace p14 := eq_true p14
                  replace q14 := eq_true q14
                  go_wp2
                  go_ret
                  exact ⟨by first | rfl | (simp [errW_none, errW_some] <;> rfl) | (simp [*, errW_none, errW_some] <;> rfl), by repeat (first | (with_reducible first | exact HB.out | apply below_alloc | apply pw_below_drewN | apply below_drew1) | exact HB.out)⟩
                · rw [if_neg c15] at H
                  have c15b0 : ((bt t141 x6_1) == 62) = false := beq_eq_false_iff_ne.mpr c15
                  have c15b1 : ((bt t141 x6_1) != 62) = true := bne_iff_ne.mpr c15
                  by_cases c16 : a1 = true
                  · subst c16
                    have H1 : (if (bt t141 x6_1) = 34 then (some false) else (scrimlaw04_TokenSigned.l0 k1 a0 true t141 (wrap64 (x6_1 + 1)))) = some r := by rw [if_pos rfl] at H; exact H
                    clear H
                    have H := H1
                    clear H1
                    by_cases c18 : (bt t141 x6_1) = 34
                    · rw [if_pos c18] at H
                      have c18b0 : ((bt t141 x6_1) == 34) = true := beq_iff_eq.mpr c18
                      have c18b1 : ((bt t141 x6_1) != 34) = false := bne_eq_false_iff_eq.mpr c18
                      clear c18
                      obtain rfl := Option.some.inj H
                      have p12 : 0 ≤ (x6_1 : Int) := of_decide_eq_true (by first | (with_reducible assumption) | assumption)
                      have q12 : x6_1 < (t141.size : Int) := of_decide_eq_true (by first | (with_reducible assumption) | assumption)
                      have hx12 := bt_at t141 x6_1
                      replace p12 := eq_true p12
                      replace q12 := eq_true q12
                      have p14 : 0 ≤ (x6_1 : Int) := of_decide_eq_true (by first | (with_reducible assumption) | assumption)
                      have q14 : x6_1 < (t141.size : Int) := of_decide_eq_true (by first | (with_reducible assumption) | assumption)
                      have hx14 := bt_at t141 x6_1
                      replace p14 := eq_true p14
                      replace q14 := eq_true q14
                      have p17 : 0 ≤ (x6_1 : Int) := of_decide_eq_true (by first | (with_reducible assumption) | assumption)
                      have q17 : x6_1 < (t141.size : Int) := of_decide_eq_true (by first | (with_reducible assumption) | assumption)
                      have hx17 := bt_at t141 x6_1
                      replace p17 := eq_true p17
                      replace q17 := eq_true q17
                      go_wp2
                      go_ret
                      exact ⟨by first | rfl | (simp [errW_none, errW_some] <;> rfl) | (simp [*, errW_none, errW_some] <;> rfl), by repeat (first | (with_reducible first | exact HB.out | apply below_alloc | apply pw_below_drewN | apply below_drew1) | exact HB.out)⟩
                    · rw [if_neg c18] at H
                      have c18b0 : ((bt t141 x6_1) == 34) = false := beq_eq_false_iff_ne.mpr c18
                      have c18b1 : ((bt t141 x6_1) != 34) = true := bne_iff_ne.mpr c18
                      have H' := Aside0.mk H
                      clear H
                      have p12 : 0 ≤ (x6_1 : Int) := of_decide_eq_true (by first | (with_reducible assumption) | assumption)
                      have q12 : x6_1 < (t141.size : Int) := of_decide_eq_true (by first | (with_reducible assumption) | assumption)
                      have hx12 := bt_at t141 x6_1
                      replace p12 := eq_true p12
                      replace q12 := eq_true q12
                      have p14 : 0 ≤ (x6_1 : Int) := of_decide_eq_true (by first | (with_reducible assumption) | assumption)
                      have q14 : x6_1 < (t141.size : Int) := of_decide_eq_true (by first | (with_reducible assumption) | assumption)
                      have hx14 := bt_at t141 x6_1
                      replace p14 := eq_true p14
                      replace q14 := eq_true q14
                      have p17 : 0 ≤ (x6_1 : Int) := of_decide_eq_true (by first | (with_reducible assumption) | assumption)
                      have q17 : x6_1 < (t141.size : Int) := of_decide_eq_true (by first | (with_reducible assumption) | assumption)
                      have hx17 := bt_at t141 x6_1
                      replace p17 := eq_true p17
                      replace q17 := eq_true q17
                      go_wp2
                      go_roundg k1
                      case measure => have := HK1.out; omega
                      case rel => exact ⟨(wrap64 (x6_1 + 1)), (by first | rfl | (simp; done) | (simp [*]; done)), H', ⟨by have := HK1.out; omega⟩, ⟨by repeat (first | (with_reducible first | exact HB.out | apply below_alloc | apply pw_below_drewN | apply below_drew1) | exact HB.out)⟩⟩
                  · replace c16 := Bool.eq_false_iff.mpr c16
                    subst c16
                    have H1 : (scrimlaw04_TokenSigned.l0 k1 a0 false t141 (wrap64 (x6_1 + 1))) = some r := by rw [if_neg (show ¬ (false = true) by decide)] at H; exact H
                    clear H
                    have H := H1
                    clear H1
                    have H' := Aside0.mk H
                    clear H
                    have p12 : 0 ≤ (x6_1 : Int) := of_decide_eq_true (by first | (with_reducible assumption) | assumption)
                    have q12 : x6_1 < (t141.size : Int) := of_decide_eq_true (by first | (with_reducible assumption) | assumption)
                    have hx12 := bt_at t141 x6_1
                    replace p12 := eq_true p12
                    replace q12 := eq_true q12
                    have p14 : 0 ≤ (x6_1 : Int) := of_decide_eq_true (by first | (with_reducible assumption) | assumption)
                    have q14 : x6_1 < (t141.size : Int) := of_decide_eq_true (by first | (with_reducible assumption) | assumption)
                    have hx14 := bt_at t141 x6_1
                    replace p14 := eq_true p14
                    replace q14 := eq_true q14
                    go_wp2
                    go_roundg k1
                    case measure => have := HK1.out; omega
                    case rel => exact ⟨(wrap64 (x6_1 + 1)), (by first | rfl | (simp; done) | (simp [*]; done)), H', ⟨by have := HK1.out; omega⟩, ⟨by repeat (first | (with_reducible first | exact HB.out | apply below_alloc | apply pw_below_drewN | apply below_drew1) | exact HB.out)⟩⟩
            · rw [if_neg c11] at H
              exact absurd H (by simp)
          · rw [if_neg c10] at H
            have c10b0 : decide (x6_1 < (t141.size : Int)) = false := decide_eq_false c10
            clear c10
            replace H := Option.bind_eq_some_iff.mp H
            obtain ⟨⟨t142, t143⟩, A190, H⟩ := H
            replace H : ((token_Tell.f t141).bind fun t146 => (if t146.toList = a0.toList then (scrimlaw04_TokenSigned.j1 k1 a0 t142 (t143 != 0)) else (scrimlaw04_TokenSigned.j1 k1 a0 t142 true))) = some r := H
            have A19 := Aside0.mk A190
            clear A190
            have HC20 := Aside0.mk H
            clear H
            go_upto_region 12 with (first | ((with_reducible refine gate_callee (f := 8) rfl ?_); refine goesL_ (some 44) rfl rfl Try.func8 (by kernel_rfl) rfl #[.string t141] rfl (by (try simp only [List.map_toArray, List.map_cons, List.map_nil]); first | done | rfl | (simp only [List.length_drop, List.length_take]; rfl)) ?_; (with_reducible refine (token_Read.calls t141 t142 t143 _ A19.out).mono ?_); rintro e w21 ⟨v144, rfl, ho0, hb⟩; refine ⟨_, rfl, ?_⟩; have n0_ := Aside0.mk (Kd.S_lower ho0 (below_size (by repeat (first | (with_reducible first | exact HB.out | apply below_alloc | apply pw_below_drewN | apply below_drew1) | exact HB.out)))); have n1_ := Aside0.mk (below_step (by repeat (first | (with_reducible first | exact HB.out | apply below_alloc | apply pw_below_drewN | apply below_drew1) | exact HB.out)) hb); clear HB; have HO145 := n0_; have HB := n1_; clear n0_ n1_; (try clear hb); (try clear hb2); (try clear hk); (try clear hi); (try clear ho0)))
            (try simp only [Act.put, List.setIfInBounds_toArray, List.set_cons_zero, List.set_cons_succ])
            go_cut [54] (fun v54 wc => ∃ (kq : Nat) (x54_19 : Bool), v54 = .bool x54_19 ∧ Aside0 (scrimlaw04_TokenSigned.j1 kq a0 t142 x54_19 = some r) ∧ Aside0 (kq ≤ k1) ∧ Aside0 (Kd.S k31 31 wc w.heap.size (fun _ => True) v144 t142) ∧ Aside0 (Below w.heap.size w wc))
            case first =>
              have H := HC20.out
              clear HC20
              replace H := Option.bind_eq_some_iff.mp H
              obtain ⟨t146, A220, H⟩ := H
              replace H : (if t146.toList = a0.toList then (scrimlaw04_TokenSigned.j1 k1 a0 t142 (t143 != 0)) else (scrimlaw04_TokenSigned.j1 k1 a0 t142 true)) = some r := H
              have A22 := Aside0.mk A220
              clear A220
              by_cases c23 : t146.toList = a0.toList
              · rw [if_pos c23] at H
                have c23b0 : (t146.toList == a0.toList) = true := beq_iff_eq.mpr c23
                have c23b1 : (t146.toList != a0.toList) = false := bne_eq_false_iff_eq.mpr c23
                clear c23
                (first | rw [c23b0] | (simp only [i64_w, i32_w]; rw [c23b0]) | skip)
                have H' := Aside0.mk H
                clear H
                go_wp2_with (first | ((with_reducible refine gate_callee (f := 9) rfl ?_); refine goesL_ (some 48) rfl rfl Try.func9 (by kernel_rfl) rfl #[.string t141] rfl (by (try simp only [List.map_toArray, List.map_cons, List.map_nil]); first | done | rfl | (simp only [List.length_drop, List.length_take]; rfl)) ?_; (with_reducible refine (token_Tell.calls t141 t146 _ A22.out).mono ?_); rintro e w24 ⟨rfl, hb⟩; refine ⟨_, rfl, ?_⟩; have n0_ := Aside0.mk (Kd.S_below (by (with_reducible repeat (first | apply Kd.S_alloc | apply Kd.S_drewN | apply Kd.S_drew)); exact HO145.out) hb); have n1_ := Aside0.mk (below_step (by repeat (first | (with_reducible first | exact HB.out | apply below_alloc | apply pw_below_drewN | apply below_drew1) | exact HB.out)) hb); clear HO145; clear HB; have HO145 := n0_; have HB := n1_; clear n0_ n1_; (try clear hb); (try clear hb2); (try clear hk); (try clear hi)))
                go_meet
                case rel => exact ⟨_, ((t143 != 0)), (by first | rfl | (simp; done) | (simp [*]; done)), H', ⟨by have := HK1.out; first | omega | exact Nat.le_refl _⟩, ⟨by (with_reducible repeat (first | apply Kd.S_alloc | apply Kd.S_drewN | apply Kd.S_drew)); exact HO145.out⟩, ⟨by repeat (first | (with_reducible first | exact HB.out | apply below_alloc | apply pw_below_drewN | apply below_drew1) | exact HB.out)⟩⟩
              · rw [if_neg c23] at H
                have c23b0 : (t146.toList == a0.toList) = false := beq_eq_false_iff_ne.mpr c23
                have c23b1 : (t146.toList != a0.toList) = true := bne_iff_ne.mpr c23
                (first | rw [c23b0] | (simp only [i64_w, i32_w]; rw [c23b0]) | skip)
                have H' := Aside0.mk H
                clear H
                go_wp2_with (first | ((with_reducible refine gate_callee (f := 9) rfl ?_); refine goesL_ (some 48) rfl rfl Try.func9 (by kernel_rfl) rfl #[.string t141] rfl (by (try simp only [List.map_toArray, List.map_cons, List.map_nil]); first | done | rfl | (simp only [List.length_drop, List.length_take]; rfl)) ?_; (with_reducible refine (token_Tell.calls t141 t146 _ A22.out).mono ?_); rintro e w25 ⟨rfl, hb⟩; refine ⟨_, rfl, ?_⟩; have n0_ := Aside0.mk (Kd.S_below (by (with_reducible repeat (first | apply Kd.S_alloc | apply Kd.S_drewN | apply Kd.S_drew)); exact HO145.out) hb); have n1_ := Aside0.mk (below_step (by repeat (first | (with_reducible first | exact HB.out | apply below_alloc | apply pw_below_drewN | apply below_drew1) | exact HB.out)) hb); clear HO145; clear HB; have HO145 := n0_; have HB := n1_; clear n0_ n1_; (try clear hb); (try clear hb2); (try clear hk); (try clear hi)))
                go_meet
                case rel => exact ⟨_, (true), (by first | rfl | (simp; done) | (simp [*]; done)), H', ⟨by have := HK1.out; first | omega | exact Nat.le_refl _⟩, ⟨by (with_reducible repeat (first | apply Kd.S_alloc | apply Kd.S_drewN | apply Kd.S_drew)); exact HO145.out⟩, ⟨by repeat (first | (with_reducible first | exact HB.out | apply below_alloc | apply pw_below_drewN | apply below_drew1) | exact HB.out)⟩⟩
            case rest =>
              clear HC20
              try clear c1
              try clear p1
              try clear q1
              try clear hx1
              try clear c2
              try clear p2
              try clear c3
              try clear c4
              try clear c5
              try clear c5b0
              try clear c5b1
              try clear c6
              try clear p6
              try clear c7
              try clear c8
              try clear c9
              try clear c10
              try clear c10b0
              try clear c11
              try clear c11b0
              try clear p12
              try clear q12
              try clear hx12
              try clear c13
              try clear c13b0
              try clear c13b1
              try clear p14
              try clear q14
              try clear hx14
              try clear c15
              try clear c15b0
              try clear c15b1
              try clear c16
              try clear p17
              try clear q17
              try clear hx17
              try clear c18
              try clear c18b0
              try clear c18b1
              try clear c23
              try clear c23b0
              try clear c23b1
              try clear p12
              try clear p14
              try clear p17
              try clear p2
              try clear q12
              try clear q14
              try clear q17
              obtain ⟨kq, x54_19, rfl, HA, HJ19, HO_7, HB⟩ := hcut
              cases kq with
              | zero => exact absurd HA.out (by simp [scrimlaw04_TokenSigned.j1])
              | succ kj19 =>
                have H := HA.out
                clear HA
                simp only [scrimlaw04_TokenSigned.j1] at H
                by_cases c26 : x54_19 = true
                · subst c26
                  have H1 : (some false) = some r := by rw [if_pos rfl] at H; exact H
                  clear H
                  have H := H1
                  clear H1
                  obtain rfl := Option.some.inj H
                  go_wp2
                  go_ret
                  exact ⟨by first | rfl | (simp [errW_none, errW_some] <;> rfl) | (simp [*, errW_none, errW_some] <;> rfl), by repeat (first | (with_reducible first | exact HB.out | apply below_alloc | apply pw_below_drewN | apply below_drew1) | exact HB.out)⟩
                · replace c26 := Bool.eq_false_iff.mpr c26
                  subst c26
                  have H1 : (if a0.toList = ([] : List UInt8) then (some ((t142.length : Int) == 0)) else (if (t142.length : Int) = 1 then (if 0 < (t142.length : Int) then (if ((rd_T31 t142 0).f0) = 3 then (some (((rd_T31 t142 0).f2).toList == a0.toList)) else (some false)) else (none)) else (some false))) = some r := by rw [if_neg (show ¬ (false = true) by decide)] at H; exact H
                  clear H
                  have H := H1
                  clear H1
                  by_cases c27 : a0.toList = ([] : List UInt8)
                  · rw [if_pos c27] at H
                    have c27b0 : (a0.toList == ([] : List UInt8)) = true := beq_iff_eq.mpr c27
                    have c27b1 : (a0.toList != ([] : List UInt8)) = false := bne_eq_false_iff_eq.mpr c27
                    clear c27
                    obtain rfl := Option.some.inj H
                    obtain ⟨Ao28, co28, eo28⟩ := Kd.S_slice HO_7.out
                    subst eo28
                    go_wp2
                    go_ret
                    exact ⟨by first | rfl | (simp [errW_none, errW_some] <;> rfl) | (simp [*, errW_none, errW_some] <;> rfl), by repeat (first | (with_reducible first | exact HB.out | apply below_alloc | apply pw_below_drewN | apply below_drew1) | exact HB.out)⟩
                  · rw [if_neg c27] at H
                    have c27b0 : (a0.toList == ([] : List UInt8)) = false := beq_eq_false_iff_ne.mpr c27
                    have c27b1 : (a0.toList != ([] : List UInt8)) = true := bne_iff_ne.mpr c27
                    by_cases c29 : (t142.length : Int) = 1
                    · rw [if_pos c29] at H
                      have c29b0 : ((t142.length : Int) == 1) = true := beq_iff_eq.mpr c29
                      have c29b1 : ((t142.length : Int) != 1) = false := bne_eq_false_iff_eq.mpr c29
                      clear c29
                      by_cases c30 : 0 < (t142.length : Int)
                      · rw [if_pos c30] at H
                        have c30b0 : decide (0 < (t142.length : Int)) = true := decide_eq_true c30
                        have c30b1 : decide (0 < t142.length) = true := decide_eq_true (by omega)
                        clear c30
                        by_cases c31 : ((rd_T31 t142 0).f0) = 3
                        · rw [if_pos c31] at H
                          have c31b0 : (((rd_T31 t142 0).f0) == 3) = true := beq_iff_eq.mpr c31
                          have c31b1 : (((rd_T31 t142 0).f0) != 3) = false := bne_eq_false_iff_eq.mpr c31
                          clear c31
                          obtain rfl := Option.some.inj H
                          obtain ⟨Ao32, co32, eo32⟩ := Kd.S_slice HO_7.out
                          subst eo32
                          have p147 : 0 ≤ (0 : Int) := (by omega)
                          have q147 : 0 < (t142.length : Int) := of_decide_eq_true (by first | (with_reducible assumption) | assumption)
                          obtain ⟨ad147, A147_3, c147_3, e147, hx147_0, hx147_1, hx147_2, hx147_3, hl147_3, hi147_3⟩ := at_T31 (Kd.S_reads' HO_7.out).2.2 0 p147 q147
                          cases e147
                          obtain ⟨ce147, hce147, hMe147, hcc147⟩ := Kd.S_get HO_7.out z31 0 p147 (by first | exact q147 | exact of_decide_eq_true (by first | (with_reducible assumption) | assumption) | (have e_ := (Kd.S_reads' HO_7.out).1; omega))
                          obtain ⟨ve147_3, rfl, ge147_3⟩ := k31_openM hMe147
                          have hv147_3 := hcc147 3 _ rfl
                          rw [add_field _ _ 3 (by omega)] at hv147_3
                          replace hv147_3 := Option.some.inj (hv147_3.symm.trans hx147_3)
                          rw [hv147_3] at ge147_3
                          have HL147_3 := Aside0.mk (show Kd.R k36 36 _ _ _ _ ((rd_T31 t142 0).f3) from ge147_3)
                          clear hv147_3 ge147_3
                          clear hcc147 hce147
                          have qi147 : (0 < t142.length) = True := eq_true (by omega)
                          (try rw [show ((0 : Int)).toNat = 0 from rfl] at hx147_0)
                          (try rw [show 0 * 4 = 0 from rfl] at hx147_0)
                          (try rw [Addr.add_zero'] at hx147_0)
                          (try rw [show ((0 : Int)).toNat = 0 from rfl] at hx147_1)
                          (try rw [show 0 * 4 = 0 from rfl] at hx147_1)
                          (try rw [Addr.add_zero'] at hx147_1)
                          (try rw [show ((0 : Int)).toNat = 0 from rfl] at hx147_2)
                          (try rw [show 0 * 4 = 0 from rfl] at hx147_2)
                          (try rw [Addr.add_zero'] at hx147_2)
                          (try rw [show ((0 : Int)).toNat = 0 from rfl] at hx147_3)
                          (try rw [show 0 * 4 = 0 from rfl] at hx147_3)
                          (try rw [Addr.add_zero'] at hx147_3)
                          have HR147_3 := Aside0.mk hi147_3
                          have HC147_3 := Aside0.mk hl147_3
                          clear hi147_3 hl147_3
                          replace p147 := eq_true p147
                          replace q147 := eq_true q147
                          have p148 : 0 ≤ (0 : Int) := (by omega)
                          have q148 : 0 < (t142.length : Int) := of_decide_eq_true (by first | (with_reducible assumption) | assumption)
                          obtain ⟨ad148, A148_3, c148_3, e148, hx148_0, hx148_1, hx148_2, hx148_3, hl148_3, hi148_3⟩ := at_T31 (Kd.S_reads' HO_7.out).2.2 0 p148 q148
                          obtain rfl : ad147 = ad148 := (by injection e148)
                          obtain ⟨ce148, hce148, hMe148, hcc148⟩ := Kd.S_get HO_7.out z31 0 p148 (by first | exact q148 | exact of_decide_eq_true (by first | (with_reducible assumption) | assumption) | (have e_ := (Kd.S_reads' HO_7.out).1; omega))
                          obtain ⟨ve148_3, rfl, ge148_3⟩ := k31_openM hMe148
                          have hv148_3 := hcc148 3 _ rfl
                          rw [add_field _ _ 3 (by omega)] at hv148_3
                          replace hv148_3 := Option.some.inj (hv148_3.symm.trans hx148_3)
                          rw [hv148_3] at ge148_3
                          have HL148_3 := Aside0.mk (show Kd.R k36 36 _ _ _ _ ((rd_T31 t142 0).f3) from ge148_3)
                          clear hv148_3 ge148_3
                          clear hcc148 hce148
                          have qi148 : (0 < t142.length) = True := eq_true (by omega)
                          (try rw [show ((0 : Int)).toNat = 0 from rfl] at hx148_0)
                          (try rw [show 0 * 4 = 0 from rfl] at hx148_0)
                          (try rw [Addr.add_zero'] at hx148_0)
                          (try rw [show ((0 : Int)).toNat = 0 from rfl] at hx148_1)
                          (try rw [show 0 * 4 = 0 from rfl] at hx148_1)
                          (try rw [Addr.add_zero'] at hx148_1)
                          (try rw [show ((0 : Int)).toNat = 0 from rfl] at hx148_2)
                          (try rw [show 0 * 4 = 0 from rfl] at hx148_2)
                          (try rw [Addr.add_zero'] at hx148_2)
                          (try rw [show ((0 : Int)).toNat = 0 from rfl] at hx148_3)
                          (try rw [show 0 * 4 = 0 from rfl] at hx148_3)
                          (try rw [Addr.add_zero'] at hx148_3)
                          have HR148_3 := Aside0.mk hi148_3
                          have HC148_3 := Aside0.mk hl148_3
                          clear hi148_3 hl148_3
                          replace p148 := eq_true p148
                          replace q148 := eq_true q148
                          have ea_ := Option.some.inj (hx147_3.symm.trans hx148_3)
                          injection ea_ with ea_ en_ ec_
                          subst ea_
                          subst ec_
                          clear en_
                          go_wp2
                          go_ret
                          exact ⟨by first | rfl | (simp [errW_none, errW_some] <;> rfl) | (simp [*, errW_none, errW_some] <;> rfl), by repeat (first | (with_reducible first | exact HB.out | apply below_alloc | apply pw_below_drewN | apply below_drew1) | exact HB.out)⟩
                        · rw [if_neg c31] at H
                          have c31b0 : (((rd_T31 t142 0).f0) == 3) = false := beq_eq_false_iff_ne.mpr c31
                          have c31b1 : (((rd_T31 t142 0).f0) != 3) = true := bne_iff_ne.mpr c31
                          obtain rfl := Option.some.inj H
                          obtain ⟨Ao33, co33, eo33⟩ := Kd.S_slice HO_7.out
                          subst eo33
                          have p147 : 0 ≤ (0 : Int) := (by omega)
                          have q147 : 0 < (t142.length : Int) := of_decide_eq_true (by first | (with_reducible assumption) | assumption)
                          obtain ⟨ad147, A147_3, c147_3, e147, hx147_0, hx147_1, hx147_2, hx147_3, hl147_3, hi147_3⟩ := at_T31 (Kd.S_reads' HO_7.out).2.2 0 p147 q147
                          cases e147
                          obtain ⟨ce147, hce147, hMe147, hcc147⟩ := Kd.S_get HO_7.out z31 0 p147 (by first | exact q147 | exact of_decide_eq_true (by first | (with_reducible assumption) | assumption) | (have e_ := (Kd.S_reads' HO_7.out).1; omega))
                          obtain ⟨ve147_3, rfl, ge147_3⟩ := k31_openM hMe147
                          have hv147_3 := hcc147 3 _ rfl
                          rw [add_field _ _ 3 (by omega)] at hv147_3
                          replace hv147_3 := Option.some.inj (hv147_3.symm.trans hx147_3)
                          rw [hv147_3] at ge147_3
                          have HL147_3 := Aside0.mk (show Kd.R k36 36 _ _ _ _ ((rd_T31 t142 0).f3) from ge147_3)
                          clear hv147_3 ge147_3
                          clear hcc147 hce147
                          have qi147 : (0 < t142.length) = True := eq_true (by omega)
                          (try rw [show ((0 : Int)).toNat = 0 from rfl] at hx147_0)
                          (try rw [show 0 * 4 = 0 from rfl] at hx147_0)
                          (try rw [Addr.add_zero'] at hx147_0)
                          (try rw [show ((0 : Int)).toNat = 0 from rfl] at hx147_1)
                          (try rw [show 0 * 4 = 0 from rfl] at hx147_1)
                          (try rw [Addr.add_zero'] at hx147_1)
                          (try rw [show ((0 : Int)).toNat = 0 from rfl] at hx147_2)
                          (try rw [show 0 * 4 = 0 from rfl] at hx147_2)
                          (try rw [Addr.add_zero'] at hx147_2)
                          (try rw [show ((0 : Int)).toNat = 0 from rfl] at hx147_3)
                          (try rw [show 0 * 4 = 0 from rfl] at hx147_3)
                          (try rw [Addr.add_zero'] at hx147_3)
                          have HR147_3 := Aside0.mk hi147_3
                          have HC147_3 := Aside0.mk hl147_3
                          clear hi147_3 hl147_3
                          replace p147 := eq_true p147
                          replace q147 := eq_true q147
                          go_wp2
                          go_ret
                          exact ⟨by first | rfl | (simp [errW_none, errW_some] <;> rfl) | (simp [*, errW_none, errW_some] <;> rfl), by repeat (first | (with_reducible first | exact HB.out | apply below_alloc | apply pw_below_drewN | apply below_drew1) | exact HB.out)⟩
                      · rw [if_neg c30] at H
                        exact absurd H (by simp)
                    · rw [if_neg c29] at H
                      have c29b0 : ((t142.length : Int) == 1) = false := beq_eq_false_iff_ne.mpr c29
                      have c29b1 : ((t142.length : Int) != 1) = true := bne_iff_ne.mpr c29
                      obtain rfl := Option.some.inj H
                      obtain ⟨Ao34, co34, eo34⟩ := Kd.S_slice HO_7.out
                      subst eo34
                      go_wp2
                      go_ret
                      exact ⟨by first | rfl | (simp [errW_none, errW_some] <;> rfl) | (simp [*, errW_none, errW_some] <;> rfl), by repeat (first | (with_reducible first | exact HB.out | apply below_alloc | apply pw_below_drewN | apply below_drew1) | exact HB.out)⟩
  · replace c4 := Bool.eq_false_iff.mpr c4
    subst c4
    have H1 : (some false) = some r := by rw [if_neg (show ¬ (false = true) by decide)] at H; exact H
    clear H
    have H := H1
    clear H1
    obtain rfl := Option.some.inj H
    go_enter Try.func3, Try.ntmps3
    go_wp2_with (first | ((with_reducible refine gate_callee (f := 6) rfl ?_); refine goesL_ (some 9) rfl rfl Try.func6 (by kernel_rfl) rfl #[] rfl (by (try simp only [List.map_toArray, List.map_cons, List.map_nil]); first | done | rfl | (simp only [List.length_drop, List.length_take]; rfl)) ?_; (with_reducible refine (scrimlaw04_awake.calls  false _ A3.out).mono ?_); rintro e w35 ⟨rfl, hb⟩; refine ⟨_, rfl, ?_⟩; have n0_ := Aside0.mk (below_step (by repeat (first | (with_reducible first | exact HB.out | apply below_alloc | apply pw_below_drewN | apply below_drew1) | exact HB.out)) hb); clear HB; have HB := n0_; clear n0_; (try clear hb); (try clear hb2); (try clear hk); (try clear hi)))
    go_ret
    exact ⟨by first | rfl | (simp [errW_none, errW_some] <;> rfl) | (simp [*, errW_none, errW_some] <;> rfl), by repeat (first | (with_reducible first | exact HB.out | apply below_alloc | apply pw_below_drewN | apply below_drew1) | exact HB.out)⟩

/-- THE ONE PURE STATEMENT of scrimlaw04_TokenSigned: yours. -/
def scrimlaw04_TokenSigned.Pure : Prop := ∀ (a0 : ByteArray) (a1 : Bool), a0.size ≤ 140737488351232 → ∃ k, scrimlaw04_TokenSigned.f k a0 a1 = some true
theorem scrimlaw04_TokenSigned.walk (P : scrimlaw04_TokenSigned.Pure) (a0 : ByteArray) (a1 : Bool) (w : World) (w0 : a0.size ≤ 140737488351232) :
    Calls Try.prog 3 #[.string a0, .bool a1] w fun e w' => e = .returned (.bool true) ∧ Below w.heap.size w w' := by
  obtain ⟨k, h⟩ := P a0 a1 w0
  refine (scrimlaw04_TokenSigned.calls k a0 a1 true w h).mono ?_
  rintro e w' ⟨rfl, hd⟩
  exact ⟨rfl, hd⟩

-- NOT PRINTED: function 4 (scrimlaw04_TokenParts)

-- NOT PRINTED: function 5 (scrimlaw04_TokenWritten)


end Go.Proofs.Ytkjgnkmnngaioaa.Q
