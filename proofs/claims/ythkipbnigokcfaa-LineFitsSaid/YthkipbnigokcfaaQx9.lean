/- Written by a program of this session (wip/xprint.py): plain Lean functions, and that the Go functions compute them. -/
import Derived.Test.YthkipbnigokcfaaQx0
import Derived.Test.YthkipbnigokcfaaQx8
import Derived.Test.YthkipbnigokcfaaLnF
import Derived.Test.YthkipbnigokcfaaLnA
namespace Go.Proofs.Ythkipbnigokcfaa.Q
open Go.RowKit Go.Proofs.YthkipbnigokcfaaW.PrintWords Go.Proofs.YthkipbnigokcfaaW.PrintLast Go.Proofs.YthkipbnigokcfaaW.PrintMore
attribute [local go_sem] max2_int min2_int max_two min_two max_three min_three max_four min_four   -- for this text's walks alone
set_option linter.unusedVariables false
set_option linter.unusedSimpArgs false

/-! ### scrimlaw16_LineFits: function 7 -/
mutual
def scrimlaw16_LineFits.j0 : Nat → List (S32) → Int → List (S30) → Int → Int → Bool → Option (Bool)
  | 0, _, _, _, _, _, _ => none
  | k + 1, x0, x1, x5, x8, x10, x45 => if x45 = true then (some true) else (scrimlaw16_LineFits.l0 k x0 x1 x5 x8 x10 x5 (x5.length : Int) 0)
def scrimlaw16_LineFits.l0 : Nat → List (S32) → Int → List (S30) → Int → Int → List (S30) → Int → Int → Option (Bool)
  | 0, _, _, _, _, _, _, _, _ => none
  | k + 1, x0, x1, x5, x8, x10, x46, x47, x48 => if x48 < x47 then (if 0 ≤ x48 then (if x48 < (x46.length : Int) then (if x1 ≥ x10 then (if ((rd_T30 x46 x48).f1) > 0 then (some false) else (if x1 ≥ x8 then (if (wrap64 (((rd_T30 x46 x48).f2.f0) + ((rd_T30 x46 x48).f2.f2))) > x1 then (some false) else (scrimlaw16_LineFits.l0 k x0 x1 x5 x8 x10 x46 x47 (wrap64 (x48 + 1)))) else (scrimlaw16_LineFits.l0 k x0 x1 x5 x8 x10 x46 x47 (wrap64 (x48 + 1))))) else (if x1 ≥ x8 then (if (wrap64 (((rd_T30 x46 x48).f2.f0) + ((rd_T30 x46 x48).f2.f2))) > x1 then (some false) else (scrimlaw16_LineFits.l0 k x0 x1 x5 x8 x10 x46 x47 (wrap64 (x48 + 1)))) else (scrimlaw16_LineFits.l0 k x0 x1 x5 x8 x10 x46 x47 (wrap64 (x48 + 1))))) else (none)) else (none)) else (some ((x5.length : Int) == (x0.length : Int)))
end
def scrimlaw16_LineFits.f (k : Nat) (l0 : List (S32)) (a1 : Int) : Option (Bool) := (scrimlaw16_awake.f).bind fun t257 => (if t257 = true then (if (l0.length : Int) > 200 then (some true) else ((line_Fill.f l0 a1 0).bind fun bt258 => ((measure_Min.f k l0).bind fun bt263 => ((measure_Max.f k l0).bind fun bt265 => (if bt258.2.2 = true then (if bt263.2 = true then (scrimlaw16_LineFits.j0 k l0 a1 bt258.1 bt263.1 bt265.1 (!bt265.2)) else (scrimlaw16_LineFits.j0 k l0 a1 bt258.1 bt263.1 bt265.1 true)) else (scrimlaw16_LineFits.j0 k l0 a1 bt258.1 bt263.1 bt265.1 true)))))) else (some false))
theorem scrimlaw16_LineFits.mono_l : ∀ k, (∀ y0 y1 y2 y3 y4 y5, LeO (scrimlaw16_LineFits.j0 k y0 y1 y2 y3 y4 y5) (scrimlaw16_LineFits.j0 (k + 1) y0 y1 y2 y3 y4 y5)) ∧ (∀ y0 y1 y2 y3 y4 y5 y6 y7, LeO (scrimlaw16_LineFits.l0 k y0 y1 y2 y3 y4 y5 y6 y7) (scrimlaw16_LineFits.l0 (k + 1) y0 y1 y2 y3 y4 y5 y6 y7))
  | 0 => ⟨fun _ _ _ _ _ _ r h => by simp [scrimlaw16_LineFits.j0] at h, fun _ _ _ _ _ _ _ _ r h => by simp [scrimlaw16_LineFits.l0] at h⟩
  | k + 1 => by
    obtain ⟨ih0, ih1⟩ := scrimlaw16_LineFits.mono_l k
    refine ⟨?_, ?_⟩
    · intro y0 y1 y2 y3 y4 y5
      unfold scrimlaw16_LineFits.j0
      repeat' first
      | (with_reducible exact ih0 _ _ _ _ _ _)
      | (with_reducible exact ih1 _ _ _ _ _ _ _ _)
      | (with_reducible exact measure_Max.mono _ _)
      | (with_reducible exact measure_Min.mono _ _)
      | (with_reducible exact LeO.refl _)
      | (with_reducible exact LeO.none _)
      | (with_reducible refine LeO.ite ?_ ?_)
      | (with_reducible refine LeO.bind ?_ (fun _ => ?_))
      | exact ih0 _ _ _ _ _ _
      | exact ih1 _ _ _ _ _ _ _ _
      | exact measure_Max.mono _ _
      | exact measure_Min.mono _ _
      | exact LeO.none _
      | refine LeO.ite ?_ ?_
      | refine LeO.bind ?_ (fun _ => ?_)
    · intro y0 y1 y2 y3 y4 y5 y6 y7
      unfold scrimlaw16_LineFits.l0
      repeat' first
      | (with_reducible exact ih0 _ _ _ _ _ _)
      | (with_reducible exact ih1 _ _ _ _ _ _ _ _)
      | (with_reducible exact measure_Max.mono _ _)
      | (with_reducible exact measure_Min.mono _ _)
      | (with_reducible exact LeO.refl _)
      | (with_reducible exact LeO.none _)
      | (with_reducible refine LeO.ite ?_ ?_)
      | (with_reducible refine LeO.bind ?_ (fun _ => ?_))
      | exact ih0 _ _ _ _ _ _
      | exact ih1 _ _ _ _ _ _ _ _
      | exact measure_Max.mono _ _
      | exact measure_Min.mono _ _
      | exact LeO.none _
      | refine LeO.ite ?_ ?_
      | refine LeO.bind ?_ (fun _ => ?_)
theorem scrimlaw16_LineFits.mono : ∀ a0 a1 k, LeO (scrimlaw16_LineFits.f k a0 a1) (scrimlaw16_LineFits.f (k + 1) a0 a1) := by
  intro a0 a1 k
  obtain ⟨ih0, ih1⟩ := scrimlaw16_LineFits.mono_l k
  unfold scrimlaw16_LineFits.f
  repeat' first
      | (with_reducible exact ih0 _ _ _ _ _ _)
      | (with_reducible exact ih1 _ _ _ _ _ _ _ _)
      | (with_reducible exact measure_Max.mono _ _)
      | (with_reducible exact measure_Min.mono _ _)
      | (with_reducible exact LeO.refl _)
      | (with_reducible exact LeO.none _)
      | (with_reducible refine LeO.ite ?_ ?_)
      | (with_reducible refine LeO.bind ?_ (fun _ => ?_))
      | exact ih0 _ _ _ _ _ _
      | exact ih1 _ _ _ _ _ _ _ _
      | exact measure_Max.mono _ _
      | exact measure_Min.mono _ _
      | exact LeO.none _
      | refine LeO.ite ?_ ?_
      | refine LeO.bind ?_ (fun _ => ?_)
set_option maxHeartbeats 8000000 in
set_option maxRecDepth 100000 in
theorem scrimlaw16_LineFits.calls (k : Nat) (A0 : Option Addr) (c0 : Nat) (l0 : List (S32)) (a1 : Int) (r : Bool) (w : World) (hr0 : Kd.C k32 w A0 l0.length l0) (hc0 : l0.length ≤ c0) (h : scrimlaw16_LineFits.f k l0 a1 = some r) :
    Calls Try.prog 7 #[.slice A0 l0.length c0, .int .i64 a1] w fun e w' => e = .returned (.bool r) ∧ Below w.heap.size w w' := by
  have hu30 := Try.underlying30
  have HR0 := Aside0.mk hr0
  have HC0 := Aside0.mk hc0
  clear hr0 hc0
  have HB := Aside0.mk (Below.refl w.heap.size w)
  have H : ((scrimlaw16_awake.f).bind fun t257 => (if t257 = true then (if (l0.length : Int) > 200 then (some true) else ((line_Fill.f l0 a1 0).bind fun bt258 => ((measure_Min.f k l0).bind fun bt263 => ((measure_Max.f k l0).bind fun bt265 => (if bt258.2.2 = true then (if bt263.2 = true then (scrimlaw16_LineFits.j0 k l0 a1 bt258.1 bt263.1 bt265.1 (!bt265.2)) else (scrimlaw16_LineFits.j0 k l0 a1 bt258.1 bt263.1 bt265.1 true)) else (scrimlaw16_LineFits.j0 k l0 a1 bt258.1 bt263.1 bt265.1 true)))))) else (some false))) = some r := h
  clear h
  replace H := Option.bind_eq_some_iff.mp H
  obtain ⟨t257, A30, H⟩ := H
  replace H : (if t257 = true then (if (l0.length : Int) > 200 then (some true) else ((line_Fill.f l0 a1 0).bind fun bt258 => ((measure_Min.f k l0).bind fun bt263 => ((measure_Max.f k l0).bind fun bt265 => (if bt258.2.2 = true then (if bt263.2 = true then (scrimlaw16_LineFits.j0 k l0 a1 bt258.1 bt263.1 bt265.1 (!bt265.2)) else (scrimlaw16_LineFits.j0 k l0 a1 bt258.1 bt263.1 bt265.1 true)) else (scrimlaw16_LineFits.j0 k l0 a1 bt258.1 bt263.1 bt265.1 true)))))) else (some false)) = some r := H
  have A3 := Aside0.mk A30
  clear A30
  by_cases c4 : t257 = true
  · subst c4
    have H1 : (if (l0.length : Int) > 200 then (some true) else ((line_Fill.f l0 a1 0).bind fun bt258 => ((measure_Min.f k l0).bind fun bt263 => ((measure_Max.f k l0).bind fun bt265 => (if bt258.2.2 = true then (if bt263.2 = true then (scrimlaw16_LineFits.j0 k l0 a1 bt258.1 bt263.1 bt265.1 (!bt265.2)) else (scrimlaw16_LineFits.j0 k l0 a1 bt258.1 bt263.1 bt265.1 true)) else (scrimlaw16_LineFits.j0 k l0 a1 bt258.1 bt263.1 bt265.1 true)))))) = some r := by rw [if_pos rfl] at H; exact H
    clear H
    have H := H1
    clear H1
    by_cases c5 : (l0.length : Int) > 200
    · rw [if_pos c5] at H
      have c5b0 : decide (200 < (l0.length : Int)) = true := decide_eq_true c5
      have c5b1 : decide (200 < l0.length) = true := decide_eq_true (by omega)
      clear c5
      obtain rfl := Option.some.inj H
      go_enter Try.func7, Try.ntmps7
      go_wp2_with (first | ((with_reducible refine gate_callee (f := 8) rfl ?_); refine goesL_ (some 14) rfl rfl Try.func8 (by kernel_rfl) rfl #[] rfl (by (try simp only [List.map_toArray, List.map_cons, List.map_nil]); first | done | rfl | (simp only [List.length_drop, List.length_take]; rfl)) ?_; (with_reducible refine (scrimlaw16_awake.calls  true _ A3.out).mono ?_); rintro e w6 ⟨rfl, hb⟩; refine ⟨_, rfl, ?_⟩; have n0_ := Aside0.mk (below_step (by repeat (first | (with_reducible first | exact HB.out | apply below_alloc | apply pw_below_drewN | apply below_drew1) | exact HB.out)) hb); clear HB; have HB := n0_; clear n0_; (try clear hb); (try clear hb2); (try clear hk); (try clear hi)))
      go_ret
      exact ⟨by first | rfl | (simp [errW_none, errW_some] <;> rfl) | (simp [*, errW_none, errW_some] <;> rfl), by repeat (first | (with_reducible first | exact HB.out | apply below_alloc | apply pw_below_drewN | apply below_drew1) | exact HB.out)⟩
    · rw [if_neg c5] at H
      have c5b0 : decide (200 < (l0.length : Int)) = false := decide_eq_false c5
      have c5b1 : decide (200 < l0.length) = false := decide_eq_false (by omega)
      clear c5
      replace H := Option.bind_eq_some_iff.mp H
      obtain ⟨⟨t258, t259, t260⟩, A70, H⟩ := H
      replace H : ((measure_Min.f k l0).bind fun bt263 => ((measure_Max.f k l0).bind fun bt265 => (if t260 = true then (if bt263.2 = true then (scrimlaw16_LineFits.j0 k l0 a1 t258 bt263.1 bt265.1 (!bt265.2)) else (scrimlaw16_LineFits.j0 k l0 a1 t258 bt263.1 bt265.1 true)) else (scrimlaw16_LineFits.j0 k l0 a1 t258 bt263.1 bt265.1 true)))) = some r := H
      have A7 := Aside0.mk A70
      clear A70
      replace H := Option.bind_eq_some_iff.mp H
      obtain ⟨⟨t263, t264⟩, A80, H⟩ := H
      replace H : ((measure_Max.f k l0).bind fun bt265 => (if t260 = true then (if t264 = true then (scrimlaw16_LineFits.j0 k l0 a1 t258 t263 bt265.1 (!bt265.2)) else (scrimlaw16_LineFits.j0 k l0 a1 t258 t263 bt265.1 true)) else (scrimlaw16_LineFits.j0 k l0 a1 t258 t263 bt265.1 true))) = some r := H
      have A8 := Aside0.mk A80
      clear A80
      replace H := Option.bind_eq_some_iff.mp H
      obtain ⟨⟨t265, t266⟩, A90, H⟩ := H
      replace H : (if t260 = true then (if t264 = true then (scrimlaw16_LineFits.j0 k l0 a1 t258 t263 t265 (!t266)) else (scrimlaw16_LineFits.j0 k l0 a1 t258 t263 t265 true)) else (scrimlaw16_LineFits.j0 k l0 a1 t258 t263 t265 true)) = some r := H
      have A9 := Aside0.mk A90
      clear A90
      have HC10 := Aside0.mk H
      clear H
      go_enter Try.func7, Try.ntmps7
      go_upto_region 8 with (first | ((with_reducible refine gate_callee (f := 8) rfl ?_); refine goesL_ (some 14) rfl rfl Try.func8 (by kernel_rfl) rfl #[] rfl (by (try simp only [List.map_toArray, List.map_cons, List.map_nil]); first | done | rfl | (simp only [List.length_drop, List.length_take]; rfl)) ?_; (with_reducible refine (scrimlaw16_awake.calls  true _ A3.out).mono ?_); rintro e w11 ⟨rfl, hb⟩; refine ⟨_, rfl, ?_⟩; have n0_ := Aside0.mk (below_step (by repeat (first | (with_reducible first | exact HB.out | apply below_alloc | apply pw_below_drewN | apply below_drew1) | exact HB.out)) hb); clear HB; have HB := n0_; clear n0_; (try clear hb); (try clear hb2); (try clear hk); (try clear hi)) | ((with_reducible refine gate_callee (f := 9) rfl ?_); refine goesL_ (some 22) rfl rfl Try.func9 (by kernel_rfl) rfl #[.slice A0 l0.length c0, .int .i64 a1, .int .i64 0] rfl (by (try simp only [List.map_toArray, List.map_cons, List.map_nil]); first | done | rfl | (simp only [List.length_drop, List.length_take]; rfl)) ?_; (with_reducible refine (line_Fill.calls _ _ l0 a1 0 t258 t259 t260 _ ?side1 ?side2 A7.out).mono ?_); (case side1 => repeat (first | exact (Kd.C_below HR0.out HB.out) | (with_reducible refine Kd.C_alloc ?_ _) | (with_reducible refine Kd.C_drewN ?_ _) | (with_reducible refine Kd.C_drew ?_))); (case side2 => exact HC0.out); rintro e w12 ⟨v261, rfl, ho0, hb⟩; refine ⟨_, rfl, ?_⟩; have n0_ := Aside0.mk (Kd.R_lower ho0 (below_size (by repeat (first | (with_reducible first | exact HB.out | apply below_alloc | apply pw_below_drewN | apply below_drew1) | exact HB.out)))); have n1_ := Aside0.mk (below_step (by repeat (first | (with_reducible first | exact HB.out | apply below_alloc | apply pw_below_drewN | apply below_drew1) | exact HB.out)) hb); clear HB; have HO262 := n0_; have HB := n1_; clear n0_ n1_; (try clear hb); (try clear hb2); (try clear hk); (try clear hi); (try clear ho0)) | ((with_reducible refine gate_callee (f := 10) rfl ?_); refine goesL_ (some 28) rfl rfl Try.func10 (by kernel_rfl) rfl #[.slice A0 l0.length c0] rfl (by (try simp only [List.map_toArray, List.map_cons, List.map_nil]); first | done | rfl | (simp only [List.length_drop, List.length_take]; rfl)) ?_; (with_reducible refine (measure_Min.calls k _ _ l0 t263 t264 _ ?side1 ?side2 A8.out).mono ?_); (case side1 => repeat (first | exact (Kd.C_below HR0.out HB.out) | (with_reducible refine Kd.C_alloc ?_ _) | (with_reducible refine Kd.C_drewN ?_ _) | (with_reducible refine Kd.C_drew ?_))); (case side2 => exact HC0.out); rintro e w13 ⟨rfl, hb⟩; refine ⟨_, rfl, ?_⟩; have n0_ := Aside0.mk (Kd.R_below (by (with_reducible repeat (first | apply Kd.R_alloc | apply Kd.R_drewN | apply Kd.R_drew)); exact HO262.out) hb); have n1_ := Aside0.mk (below_step (by repeat (first | (with_reducible first | exact HB.out | apply below_alloc | apply pw_below_drewN | apply below_drew1) | exact HB.out)) hb); clear HO262; clear HB; have HO262 := n0_; have HB := n1_; clear n0_ n1_; (try clear hb); (try clear hb2); (try clear hk); (try clear hi)) | ((with_reducible refine gate_callee (f := 11) rfl ?_); refine goesL_ (some 33) rfl rfl Try.func11 (by kernel_rfl) rfl #[.slice A0 l0.length c0] rfl (by (try simp only [List.map_toArray, List.map_cons, List.map_nil]); first | done | rfl | (simp only [List.length_drop, List.length_take]; rfl)) ?_; (with_reducible refine (measure_Max.calls k _ _ l0 t265 t266 _ ?side1 ?side2 A9.out).mono ?_); (case side1 => repeat (first | exact (Kd.C_below HR0.out HB.out) | (with_reducible refine Kd.C_alloc ?_ _) | (with_reducible refine Kd.C_drewN ?_ _) | (with_reducible refine Kd.C_drew ?_))); (case side2 => exact HC0.out); rintro e w14 ⟨rfl, hb⟩; refine ⟨_, rfl, ?_⟩; have n0_ := Aside0.mk (Kd.R_below (by (with_reducible repeat (first | apply Kd.R_alloc | apply Kd.R_drewN | apply Kd.R_drew)); exact HO262.out) hb); have n1_ := Aside0.mk (below_step (by repeat (first | (with_reducible first | exact HB.out | apply below_alloc | apply pw_below_drewN | apply below_drew1) | exact HB.out)) hb); clear HO262; clear HB; have HO262 := n0_; have HB := n1_; clear n0_ n1_; (try clear hb); (try clear hb2); (try clear hk); (try clear hi)))
      (try simp only [Act.put, List.setIfInBounds_toArray, List.set_cons_zero, List.set_cons_succ])
      go_cut [45] (fun v45 wc => ∃ (kq : Nat) (x45_9 : Bool), v45 = .bool x45_9 ∧ Aside0 (scrimlaw16_LineFits.j0 kq l0 a1 t258 t263 t265 x45_9 = some r) ∧ Aside0 (kq ≤ k) ∧ Aside0 (Kd.R k30 30 wc w.heap.size (fun _ => True) v261 t258) ∧ Aside0 (Below w.heap.size w wc))
      case first =>
        have H := HC10.out
        clear HC10
        by_cases c15 : t260 = true
        · subst c15
          have H1 : (if t264 = true then (scrimlaw16_LineFits.j0 k l0 a1 t258 t263 t265 (!t266)) else (scrimlaw16_LineFits.j0 k l0 a1 t258 t263 t265 true)) = some r := by rw [if_pos rfl] at H; exact H
          clear H
          have H := H1
          clear H1
          by_cases c16 : t264 = true
          · subst c16
            have H1 : (scrimlaw16_LineFits.j0 k l0 a1 t258 t263 t265 (!t266)) = some r := by rw [if_pos rfl] at H; exact H
            clear H
            have H := H1
            clear H1
            have H' := Aside0.mk H
            clear H
            go_wp2
            go_meet
            case rel => exact ⟨_, (!t266), (by first | rfl | (simp; done) | (simp [*]; done)), H', ⟨by first | omega | exact Nat.le_refl _⟩, ⟨by (with_reducible repeat (first | apply Kd.R_alloc | apply Kd.R_drewN | apply Kd.R_drew)); exact HO262.out⟩, ⟨by repeat (first | (with_reducible first | exact HB.out | apply below_alloc | apply pw_below_drewN | apply below_drew1) | exact HB.out)⟩⟩
          · replace c16 := Bool.eq_false_iff.mpr c16
            subst c16
            have H1 : (scrimlaw16_LineFits.j0 k l0 a1 t258 t263 t265 true) = some r := by rw [if_neg (show ¬ (false = true) by decide)] at H; exact H
            clear H
            have H := H1
            clear H1
            have H' := Aside0.mk H
            clear H
            go_wp2
            go_meet
            case rel => exact ⟨_, (true), (by first | rfl | (simp; done) | (simp [*]; done)), H', ⟨by first | omega | exact Nat.le_refl _⟩, ⟨by (with_reducible repeat (first | apply Kd.R_alloc | apply Kd.R_drewN | apply Kd.R_drew)); exact HO262.out⟩, ⟨by repeat (first | (with_reducible first | exact HB.out | apply below_alloc | apply pw_below_drewN | apply below_drew1) | exact HB.out)⟩⟩
        · replace c15 := Bool.eq_false_iff.mpr c15
          subst c15
          have H1 : (scrimlaw16_LineFits.j0 k l0 a1 t258 t263 t265 true) = some r := by rw [if_neg (show ¬ (false = true) by decide)] at H; exact H
          clear H
          have H := H1
          clear H1
          have H' := Aside0.mk H
          clear H
          go_wp2
          go_meet
          case rel => exact ⟨_, (true), (by first | rfl | (simp; done) | (simp [*]; done)), H', ⟨by first | omega | exact Nat.le_refl _⟩, ⟨by (with_reducible repeat (first | apply Kd.R_alloc | apply Kd.R_drewN | apply Kd.R_drew)); exact HO262.out⟩, ⟨by repeat (first | (with_reducible first | exact HB.out | apply below_alloc | apply pw_below_drewN | apply below_drew1) | exact HB.out)⟩⟩
      case rest =>
        clear HC10
        try clear c1
        try clear p2
        try clear c4
        try clear c5
        try clear c5b0
        try clear c5b1
        try clear c7
        try clear c8
        try clear c9
        try clear c10
        try clear c11
        try clear c15
        try clear c16
        obtain ⟨kq, x45_9, rfl, HA, HJ9, HO_5, HB⟩ := hcut
        cases kq with
        | zero => exact absurd HA.out (by simp [scrimlaw16_LineFits.j0])
        | succ kj9 =>
          have H := HA.out
          clear HA
          simp only [scrimlaw16_LineFits.j0] at H
          by_cases c17 : x45_9 = true
          · subst c17
            have H1 : (some true) = some r := by rw [if_pos rfl] at H; exact H
            clear H
            have H := H1
            clear H1
            obtain rfl := Option.some.inj H
            go_wp2
            go_ret
            exact ⟨by first | rfl | (simp [errW_none, errW_some] <;> rfl) | (simp [*, errW_none, errW_some] <;> rfl), by repeat (first | (with_reducible first | exact HB.out | apply below_alloc | apply pw_below_drewN | apply below_drew1) | exact HB.out)⟩
          · replace c17 := Bool.eq_false_iff.mpr c17
            subst c17
            have H1 : (scrimlaw16_LineFits.l0 kj9 l0 a1 t258 t263 t265 t258 (t258.length : Int) 0) = some r := by rw [if_neg (show ¬ (false = true) by decide)] at H; exact H
            clear H
            have H := H1
            clear H1
            have H' := Aside0.mk H
            clear H
            obtain ⟨Ao18, co18, eo18⟩ := Kd.R_slice HO_5.out
            subst eo18
            go_wp2
            go_loopg [48] kj9 (fun kq v48 w' => ∃ (x48_2 : Int), v48 = .int .i64 x48_2 ∧ Aside0 (scrimlaw16_LineFits.l0 kq l0 a1 t258 t263 t265 t258 (t258.length : Int) x48_2 = some r) ∧ Aside0 (kq ≤ kj9) ∧ Aside0 (Kd.R k30 30 w' w.heap.size (fun _ => True) (.slice Ao18 t258.length co18) t258) ∧ Aside0 (Kd.R k30 30 w' w.heap.size (fun _ => True) (.slice Ao18 t258.length co18) t258) ∧ Aside0 (Below w.heap.size w w'))
            case atStart => exact ⟨(0), (by first | rfl | (simp; done) | (simp [*]; done)), H', ⟨Nat.le_refl _⟩, ⟨by (with_reducible repeat (first | apply Kd.R_alloc | apply Kd.R_drewN | apply Kd.R_drew)); exact HO_5.out⟩, ⟨by (with_reducible repeat (first | apply Kd.R_alloc | apply Kd.R_drewN | apply Kd.R_drew)); exact HO_5.out⟩, ⟨by repeat (first | (with_reducible first | exact HB.out | apply below_alloc | apply pw_below_drewN | apply below_drew1) | exact HB.out)⟩⟩
            case round =>
              clear H'
              try clear c1
              try clear p2
              try clear c4
              try clear c5
              try clear c5b0
              try clear c5b1
              try clear c7
              try clear c8
              try clear c9
              try clear c10
              try clear c11
              try clear c15
              try clear c16
              try clear c17
              try clear p2
              obtain ⟨x48_2, rfl, HA, HK2, HO_5, HO_46, HB⟩ := hrel
              cases gk with
              | zero => exact absurd HA.out (by simp [scrimlaw16_LineFits.l0])
              | succ k2 =>
                have H := HA.out
                clear HA
                simp only [scrimlaw16_LineFits.l0] at H
                by_cases c19 : x48_2 < (t258.length : Int)
                · rw [if_pos c19] at H
                  have c19b0 : decide (x48_2 < (t258.length : Int)) = true := decide_eq_true c19
                  clear c19
                  by_cases c20 : 0 ≤ x48_2
                  · rw [if_pos c20] at H
                    have c20b0 : decide (0 ≤ x48_2) = true := decide_eq_true c20
                    clear c20
                    by_cases c21 : x48_2 < (t258.length : Int)
                    · rw [if_pos c21] at H
                      have c21b0 : decide (x48_2 < (t258.length : Int)) = true := decide_eq_true c21
                      clear c21
                      by_cases c22 : a1 ≥ t265
                      · rw [if_pos c22] at H
                        have c22b0 : decide (t265 ≤ a1) = true := decide_eq_true c22
                        clear c22
                        by_cases c23 : ((rd_T30 t258 x48_2).f1) > 0
                        · rw [if_pos c23] at H
                          have c23b0 : decide (0 < ((rd_T30 t258 x48_2).f1)) = true := decide_eq_true c23
                          clear c23
                          obtain rfl := Option.some.inj H
                          have p267 : 0 ≤ (x48_2 : Int) := of_decide_eq_true (by first | (with_reducible assumption) | assumption)
                          have q267 : x48_2 < (t258.length : Int) := of_decide_eq_true (by first | (with_reducible assumption) | assumption)
                          obtain ⟨ad267, e267, hx267_0, hx267_1, hx267_2, hx267_3, hx267_4, hx267_5⟩ := at_T30 (Kd.R_reads' HO_46.out).2.2 x48_2 p267 q267
                          cases e267
                          replace p267 := eq_true p267
                          replace q267 := eq_true q267
                          go_wp2_with (first | ((with_reducible refine gate_dst (N := 13) rfl ?_); refine box_event ?hg (N := 13) ?hd (cs := #[.int .i64 0, .int .i64 0, .int .i64 0, .int .i64 0, .int .i64 0, .int .i64 0]) (t := 30) ?hr ?_; (case hd => rfl); (case hg => rfl); (case hr => first | (go_simp; done) | (go_simp; rfl)); intro gb268 hg w24 hbox hb; have n0_ := Aside0.mk (Kd.R_below (Kd.R_elderB (by (with_reducible repeat (first | apply Kd.R_alloc | apply Kd.R_drewN | apply Kd.R_drew)); exact HO_5.out) gb268 (Nat.le_of_eq hg.symm)) hb); have n1_ := Aside0.mk (Kd.R_below (Kd.R_elderB (by (with_reducible repeat (first | apply Kd.R_alloc | apply Kd.R_drewN | apply Kd.R_drew)); exact HO_46.out) gb268 (Nat.le_of_eq hg.symm)) hb); have n2_ := Aside0.mk (below_step (by repeat (first | (with_reducible first | exact HB.out | apply below_alloc | apply pw_below_drewN | apply below_drew1) | exact HB.out)) hb); have n3_ := Aside0.mk (hbox); have n4_ := Aside0.mk ((by rw [hg]; exact (below_size (by repeat (first | (with_reducible first | exact HB.out | apply below_alloc | apply pw_below_drewN | apply below_drew1) | exact HB.out))) : w.heap.size ≤ gb268)); have n5_ := Aside0.mk ((by rw [hg]; exact (below_size (by repeat (first | (with_reducible first | exact HB.out | apply below_alloc | apply pw_below_drewN | apply below_drew1) | exact HB.out))) : w.heap.size ≤ gb268)); clear HO_5; clear HO_46; clear HB; have HO_5 := n0_; have HO_46 := n1_; have HB := n2_; have BK268 := n3_; have GW268 := n4_; have GE268 := n5_; clear n0_ n1_ n2_ n3_ n4_ n5_; clear hb hbox hg; have hcz25_0 : w24.cell? ⟨gb268, 0, none⟩ = some (.int .i64 0) := (blk_cell BK268.out 0).trans rfl; have hcz25_1 : w24.cell? ⟨gb268, 1, none⟩ = some (.int .i64 0) := (blk_cell BK268.out 1).trans rfl; have hcz25_2 : w24.cell? ⟨gb268, 2, none⟩ = some (.int .i64 0) := (blk_cell BK268.out 2).trans rfl; have hcz25_3 : w24.cell? ⟨gb268, 3, none⟩ = some (.int .i64 0) := (blk_cell BK268.out 3).trans rfl; have hcz25_4 : w24.cell? ⟨gb268, 4, none⟩ = some (.int .i64 0) := (blk_cell BK268.out 4).trans rfl; have hcz25_5 : w24.cell? ⟨gb268, 5, none⟩ = some (.int .i64 0) := (blk_cell BK268.out 5).trans rfl; have hfz25_0 := blk_frozen BK268.out 0; have hfz25_1 := blk_frozen BK268.out 1; have hfz25_2 := blk_frozen BK268.out 2; have hfz25_3 := blk_frozen BK268.out 3; have hfz25_4 := blk_frozen BK268.out 4; have hfz25_5 := blk_frozen BK268.out 5))
                          go_ret
                          exact ⟨by first | rfl | (simp [errW_none, errW_some] <;> rfl) | (simp [*, errW_none, errW_some] <;> rfl), by repeat (first | (with_reducible first | exact HB.out | apply below_alloc | apply pw_below_drewN | apply below_drew1 | refine below_set ?_ GE268.out) | exact HB.out)⟩
                        · rw [if_neg c23] at H
                          have c23b0 : decide (0 < ((rd_T30 t258 x48_2).f1)) = false := decide_eq_false c23
                          clear c23
                          by_cases c26 : a1 ≥ t263
                          · rw [if_pos c26] at H
                            have c26b0 : decide (t263 ≤ a1) = true := decide_eq_true c26
                            clear c26
                            by_cases c27 : (wrap64 (((rd_T30 t258 x48_2).f2.f0) + ((rd_T30 t258 x48_2).f2.f2))) > a1
                            · rw [if_pos c27] at H
                              have c27b0 : decide (a1 < (wrap64 (((rd_T30 t258 x48_2).f2.f0) + ((rd_T30 t258 x48_2).f2.f2)))) = true := decide_eq_true c27
                              clear c27
                              obtain rfl := Option.some.inj H
                              have p267 : 0 ≤ (x48_2 : Int) := of_decide_eq_true (by first | (with_reducible assumption) | assumption)
                              have q267 : x48_2 < (t258.length : Int) := of_decide_eq_true (by first | (with_reducible assumption) | assumption)
                              obtain ⟨ad267, e267, hx267_0, hx267_1, hx267_2, hx267_3, hx267_4, hx267_5⟩ := at_T30 (Kd.R_reads' HO_46.out).2.2 x48_2 p267 q267
                              cases e267
                              replace p267 := eq_true p267
                              replace q267 := eq_true q267
                              go_wp2_with (first | ((with_reducible refine gate_dst (N := 13) rfl ?_); refine box_event ?hg (N := 13) ?hd (cs := #[.int .i64 0, .int .i64 0, .int .i64 0, .int .i64 0, .int .i64 0, .int .i64 0]) (t := 30) ?hr ?_; (case hd => rfl); (case hg => rfl); (case hr => first | (go_simp; done) | (go_simp; rfl)); intro gb268 hg w28 hbox hb; have n0_ := Aside0.mk (Kd.R_below (Kd.R_elderB (by (with_reducible repeat (first | apply Kd.R_alloc | apply Kd.R_drewN | apply Kd.R_drew)); exact HO_5.out) gb268 (Nat.le_of_eq hg.symm)) hb); have n1_ := Aside0.mk (Kd.R_below (Kd.R_elderB (by (with_reducible repeat (first | apply Kd.R_alloc | apply Kd.R_drewN | apply Kd.R_drew)); exact HO_46.out) gb268 (Nat.le_of_eq hg.symm)) hb); have n2_ := Aside0.mk (below_step (by repeat (first | (with_reducible first | exact HB.out | apply below_alloc | apply pw_below_drewN | apply below_drew1) | exact HB.out)) hb); have n3_ := Aside0.mk (hbox); have n4_ := Aside0.mk ((by rw [hg]; exact (below_size (by repeat (first | (with_reducible first | exact HB.out | apply below_alloc | apply pw_below_drewN | apply below_drew1) | exact HB.out))) : w.heap.size ≤ gb268)); have n5_ := Aside0.mk ((by rw [hg]; exact (below_size (by repeat (first | (with_reducible first | exact HB.out | apply below_alloc | apply pw_below_drewN | apply below_drew1) | exact HB.out))) : w.heap.size ≤ gb268)); clear HO_5; clear HO_46; clear HB; have HO_5 := n0_; have HO_46 := n1_; have HB := n2_; have BK268 := n3_; have GW268 := n4_; have GE268 := n5_; clear n0_ n1_ n2_ n3_ n4_ n5_; clear hb hbox hg; have hcz29_0 : w28.cell? ⟨gb268, 0, none⟩ = some (.int .i64 0) := (blk_cell BK268.out 0).trans rfl; have hcz29_1 : w28.cell? ⟨gb268, 1, none⟩ = some (.int .i64 0) := (blk_cell BK268.out 1).trans rfl; have hcz29_2 : w28.cell? ⟨gb268, 2, none⟩ = some (.int .i64 0) := (blk_cell BK268.out 2).trans rfl; have hcz29_3 : w28.cell? ⟨gb268, 3, none⟩ = some (.int .i64 0) := (blk_cell BK268.out 3).trans rfl; have hcz29_4 : w28.cell? ⟨gb268, 4, none⟩ = some (.int .i64 0) := (blk_cell BK268.out 4).trans rfl; have hcz29_5 : w28.cell? ⟨gb268, 5, none⟩ = some (.int .i64 0) := (blk_cell BK268.out 5).trans rfl; have hfz29_0 := blk_frozen BK268.out 0; have hfz29_1 := blk_frozen BK268.out 1; have hfz29_2 := blk_frozen BK268.out 2; have hfz29_3 := blk_frozen BK268.out 3; have hfz29_4 := blk_frozen BK268.out 4; have hfz29_5 := blk_frozen BK268.out 5))
                              go_ret
                              exact ⟨by first | rfl | (simp [errW_none, errW_some] <;> rfl) | (simp [*, errW_none, errW_some] <;> rfl), by repeat (first | (with_reducible first | exact HB.out | apply below_alloc | apply pw_below_drewN | apply below_drew1 | refine below_set ?_ GE268.out) | exact HB.out)⟩
                            · rw [if_neg c27] at H
                              have c27b0 : decide (a1 < (wrap64 (((rd_T30 t258 x48_2).f2.f0) + ((rd_T30 t258 x48_2).f2.f2)))) = false := decide_eq_false c27
                              clear c27
                              have H' := Aside0.mk H
                              clear H
                              have p267 : 0 ≤ (x48_2 : Int) := of_decide_eq_true (by first | (with_reducible assumption) | assumption)
                              have q267 : x48_2 < (t258.length : Int) := of_decide_eq_true (by first | (with_reducible assumption) | assumption)
                              obtain ⟨ad267, e267, hx267_0, hx267_1, hx267_2, hx267_3, hx267_4, hx267_5⟩ := at_T30 (Kd.R_reads' HO_46.out).2.2 x48_2 p267 q267
                              cases e267
                              replace p267 := eq_true p267
                              replace q267 := eq_true q267
                              go_wp2_with (first | ((with_reducible refine gate_dst (N := 13) rfl ?_); refine box_event ?hg (N := 13) ?hd (cs := #[.int .i64 0, .int .i64 0, .int .i64 0, .int .i64 0, .int .i64 0, .int .i64 0]) (t := 30) ?hr ?_; (case hd => rfl); (case hg => rfl); (case hr => first | (go_simp; done) | (go_simp; rfl)); intro gb268 hg w30 hbox hb; have n0_ := Aside0.mk (Kd.R_below (Kd.R_elderB (by (with_reducible repeat (first | apply Kd.R_alloc | apply Kd.R_drewN | apply Kd.R_drew)); exact HO_5.out) gb268 (Nat.le_of_eq hg.symm)) hb); have n1_ := Aside0.mk (Kd.R_below (Kd.R_elderB (by (with_reducible repeat (first | apply Kd.R_alloc | apply Kd.R_drewN | apply Kd.R_drew)); exact HO_46.out) gb268 (Nat.le_of_eq hg.symm)) hb); have n2_ := Aside0.mk (below_step (by repeat (first | (with_reducible first | exact HB.out | apply below_alloc | apply pw_below_drewN | apply below_drew1) | exact HB.out)) hb); have n3_ := Aside0.mk (hbox); have n4_ := Aside0.mk ((by rw [hg]; exact (below_size (by repeat (first | (with_reducible first | exact HB.out | apply below_alloc | apply pw_below_drewN | apply below_drew1) | exact HB.out))) : w.heap.size ≤ gb268)); have n5_ := Aside0.mk ((by rw [hg]; exact (below_size (by repeat (first | (with_reducible first | exact HB.out | apply below_alloc | apply pw_below_drewN | apply below_drew1) | exact HB.out))) : w.heap.size ≤ gb268)); clear HO_5; clear HO_46; clear HB; have HO_5 := n0_; have HO_46 := n1_; have HB := n2_; have BK268 := n3_; have GW268 := n4_; have GE268 := n5_; clear n0_ n1_ n2_ n3_ n4_ n5_; clear hb hbox hg; have hcz31_0 : w30.cell? ⟨gb268, 0, none⟩ = some (.int .i64 0) := (blk_cell BK268.out 0).trans rfl; have hcz31_1 : w30.cell? ⟨gb268, 1, none⟩ = some (.int .i64 0) := (blk_cell BK268.out 1).trans rfl; have hcz31_2 : w30.cell? ⟨gb268, 2, none⟩ = some (.int .i64 0) := (blk_cell BK268.out 2).trans rfl; have hcz31_3 : w30.cell? ⟨gb268, 3, none⟩ = some (.int .i64 0) := (blk_cell BK268.out 3).trans rfl; have hcz31_4 : w30.cell? ⟨gb268, 4, none⟩ = some (.int .i64 0) := (blk_cell BK268.out 4).trans rfl; have hcz31_5 : w30.cell? ⟨gb268, 5, none⟩ = some (.int .i64 0) := (blk_cell BK268.out 5).trans rfl; have hfz31_0 := blk_frozen BK268.out 0; have hfz31_1 := blk_frozen BK268.out 1; have hfz31_2 := blk_frozen BK268.out 2; have hfz31_3 := blk_frozen BK268.out 3; have hfz31_4 := blk_frozen BK268.out 4; have hfz31_5 := blk_frozen BK268.out 5))
                              go_roundg k2
                              case measure => have := HJ9.out; have := HK2.out; omega
                              case rel => exact ⟨(wrap64 (x48_2 + 1)), (by first | rfl | (simp; done) | (simp [*]; done)), H', ⟨by have := HJ9.out; have := HK2.out; omega⟩, ⟨by (with_reducible repeat (first | apply Kd.R_alloc | apply Kd.R_drewN | apply Kd.R_drew)); exact Kd.R_mono (Kd.R_far (p := ⟨gb268, 5, none⟩) (Kd.R_far (p := ⟨gb268, 4, none⟩) (Kd.R_far (p := ⟨gb268, 3, none⟩) (Kd.R_far (p := ⟨gb268, 2, none⟩) (Kd.R_far (p := ⟨gb268, 1, none⟩) (Kd.R_far (p := ⟨gb268, 0, none⟩) (Kd.R_mono HO_5.out (fun k_ hk => (⟨hk, hk.2⟩ : _ ∧ k_ ≠ gb268))) (fun _ hk => hk.2) (.int .i64 ((rd_T30 t258 x48_2).f0))) (fun _ hk => hk.2) (.int .i64 ((rd_T30 t258 x48_2).f1))) (fun _ hk => hk.2) (.int .i64 ((rd_T30 t258 x48_2).f2.f0))) (fun _ hk => hk.2) (.int .i64 ((rd_T30 t258 x48_2).f2.f1))) (fun _ hk => hk.2) (.int .i64 ((rd_T30 t258 x48_2).f2.f2))) (fun _ hk => hk.2) (.int .i64 ((rd_T30 t258 x48_2).f2.f3))) (fun _ hk => trivial)⟩, ⟨by (with_reducible repeat (first | apply Kd.R_alloc | apply Kd.R_drewN | apply Kd.R_drew)); exact Kd.R_mono (Kd.R_far (p := ⟨gb268, 5, none⟩) (Kd.R_far (p := ⟨gb268, 4, none⟩) (Kd.R_far (p := ⟨gb268, 3, none⟩) (Kd.R_far (p := ⟨gb268, 2, none⟩) (Kd.R_far (p := ⟨gb268, 1, none⟩) (Kd.R_far (p := ⟨gb268, 0, none⟩) (Kd.R_mono HO_46.out (fun k_ hk => (⟨hk, hk.2⟩ : _ ∧ k_ ≠ gb268))) (fun _ hk => hk.2) (.int .i64 ((rd_T30 t258 x48_2).f0))) (fun _ hk => hk.2) (.int .i64 ((rd_T30 t258 x48_2).f1))) (fun _ hk => hk.2) (.int .i64 ((rd_T30 t258 x48_2).f2.f0))) (fun _ hk => hk.2) (.int .i64 ((rd_T30 t258 x48_2).f2.f1))) (fun _ hk => hk.2) (.int .i64 ((rd_T30 t258 x48_2).f2.f2))) (fun _ hk => hk.2) (.int .i64 ((rd_T30 t258 x48_2).f2.f3))) (fun _ hk => trivial)⟩, ⟨by repeat (first | (with_reducible first | exact HB.out | apply below_alloc | apply pw_below_drewN | apply below_drew1 | refine below_set ?_ GE268.out) | exact HB.out)⟩⟩
                          · rw [if_neg c26] at H
                            have c26b0 : decide (t263 ≤ a1) = false := decide_eq_false c26
                            clear c26
                            have H' := Aside0.mk H
                            clear H
                            have p267 : 0 ≤ (x48_2 : Int) := of_decide_eq_true (by first | (with_reducible assumption) | assumption)
                            have q267 : x48_2 < (t258.length : Int) := of_decide_eq_true (by first | (with_reducible assumption) | assumption)
                            obtain ⟨ad267, e267, hx267_0, hx267_1, hx267_2, hx267_3, hx267_4, hx267_5⟩ := at_T30 (Kd.R_reads' HO_46.out).2.2 x48_2 p267 q267
                            cases e267
                            replace p267 := eq_true p267
                            replace q267 := eq_true q267
                            go_wp2_with (first | ((with_reducible refine gate_dst (N := 13) rfl ?_); refine box_event ?hg (N := 13) ?hd (cs := #[.int .i64 0, .int .i64 0, .int .i64 0, .int .i64 0, .int .i64 0, .int .i64 0]) (t := 30) ?hr ?_; (case hd => rfl); (case hg => rfl); (case hr => first | (go_simp; done) | (go_simp; rfl)); intro gb268 hg w32 hbox hb; have n0_ := Aside0.mk (Kd.R_below (Kd.R_elderB (by (with_reducible repeat (first | apply Kd.R_alloc | apply Kd.R_drewN | apply Kd.R_drew)); exact HO_5.out) gb268 (Nat.le_of_eq hg.symm)) hb); have n1_ := Aside0.mk (Kd.R_below (Kd.R_elderB (by (with_reducible repeat (first | apply Kd.R_alloc | apply Kd.R_drewN | apply Kd.R_drew)); exact HO_46.out) gb268 (Nat.le_of_eq hg.symm)) hb); have n2_ := Aside0.mk (below_step (by repeat (first | (with_reducible first | exact HB.out | apply below_alloc | apply pw_below_drewN | apply below_drew1) | exact HB.out)) hb); have n3_ := Aside0.mk (hbox); have n4_ := Aside0.mk ((by rw [hg]; exact (below_size (by repeat (first | (with_reducible first | exact HB.out | apply below_alloc | apply pw_below_drewN | apply below_drew1) | exact HB.out))) : w.heap.size ≤ gb268)); have n5_ := Aside0.mk ((by rw [hg]; exact (below_size (by repeat (first | (with_reducible first | exact HB.out | apply below_alloc | apply pw_below_drewN | apply below_drew1) | exact HB.out))) : w.heap.size ≤ gb268)); clear HO_5; clear HO_46; clear HB; have HO_5 := n0_; have HO_46 := n1_; have HB := n2_; have BK268 := n3_; have GW268 := n4_; have GE268 := n5_; clear n0_ n1_ n2_ n3_ n4_ n5_; clear hb hbox hg; have hcz33_0 : w32.cell? ⟨gb268, 0, none⟩ = some (.int .i64 0) := (blk_cell BK268.out 0).trans rfl; have hcz33_1 : w32.cell? ⟨gb268, 1, none⟩ = some (.int .i64 0) := (blk_cell BK268.out 1).trans rfl; have hcz33_2 : w32.cell? ⟨gb268, 2, none⟩ = some (.int .i64 0) := (blk_cell BK268.out 2).trans rfl; have hcz33_3 : w32.cell? ⟨gb268, 3, none⟩ = some (.int .i64 0) := (blk_cell BK268.out 3).trans rfl; have hcz33_4 : w32.cell? ⟨gb268, 4, none⟩ = some (.int .i64 0) := (blk_cell BK268.out 4).trans rfl; have hcz33_5 : w32.cell? ⟨gb268, 5, none⟩ = some (.int .i64 0) := (blk_cell BK268.out 5).trans rfl; have hfz33_0 := blk_frozen BK268.out 0; have hfz33_1 := blk_frozen BK268.out 1; have hfz33_2 := blk_frozen BK268.out 2; have hfz33_3 := blk_frozen BK268.out 3; have hfz33_4 := blk_frozen BK268.out 4; have hfz33_5 := blk_frozen BK268.out 5))
                            go_roundg k2
                            case measure => have := HJ9.out; have := HK2.out; omega
                            case rel => exact ⟨(wrap64 (x48_2 + 1)), (by first | rfl | (simp; done) | (simp [*]; done)), H', ⟨by have := HJ9.out; have := HK2.out; omega⟩, ⟨by (with_reducible repeat (first | apply Kd.R_alloc | apply Kd.R_drewN | apply Kd.R_drew)); exact Kd.R_mono (Kd.R_far (p := ⟨gb268, 5, none⟩) (Kd.R_far (p := ⟨gb268, 4, none⟩) (Kd.R_far (p := ⟨gb268, 3, none⟩) (Kd.R_far (p := ⟨gb268, 2, none⟩) (Kd.R_far (p := ⟨gb268, 1, none⟩) (Kd.R_far (p := ⟨gb268, 0, none⟩) (Kd.R_mono HO_5.out (fun k_ hk => (⟨hk, hk.2⟩ : _ ∧ k_ ≠ gb268))) (fun _ hk => hk.2) (.int .i64 ((rd_T30 t258 x48_2).f0))) (fun _ hk => hk.2) (.int .i64 ((rd_T30 t258 x48_2).f1))) (fun _ hk => hk.2) (.int .i64 ((rd_T30 t258 x48_2).f2.f0))) (fun _ hk => hk.2) (.int .i64 ((rd_T30 t258 x48_2).f2.f1))) (fun _ hk => hk.2) (.int .i64 ((rd_T30 t258 x48_2).f2.f2))) (fun _ hk => hk.2) (.int .i64 ((rd_T30 t258 x48_2).f2.f3))) (fun _ hk => trivial)⟩, ⟨by (with_reducible repeat (first | apply Kd.R_alloc | apply Kd.R_drewN | apply Kd.R_drew)); exact Kd.R_mono (Kd.R_far (p := ⟨gb268, 5, none⟩) (Kd.R_far (p := ⟨gb268, 4, none⟩) (Kd.R_far (p := ⟨gb268, 3, none⟩) (Kd.R_far (p := ⟨gb268, 2, none⟩) (Kd.R_far (p := ⟨gb268, 1, none⟩) (Kd.R_far (p := ⟨gb268, 0, none⟩) (Kd.R_mono HO_46.out (fun k_ hk => (⟨hk, hk.2⟩ : _ ∧ k_ ≠ gb268))) (fun _ hk => hk.2) (.int .i64 ((rd_T30 t258 x48_2).f0))) (fun _ hk => hk.2) (.int .i64 ((rd_T30 t258 x48_2).f1))) (fun _ hk => hk.2) (.int .i64 ((rd_T30 t258 x48_2).f2.f0))) (fun _ hk => hk.2) (.int .i64 ((rd_T30 t258 x48_2).f2.f1))) (fun _ hk => hk.2) (.int .i64 ((rd_T30 t258 x48_2).f2.f2))) (fun _ hk => hk.2) (.int .i64 ((rd_T30 t258 x48_2).f2.f3))) (fun _ hk => trivial)⟩, ⟨by repeat (first | (with_reducible first | exact HB.out | apply below_alloc | apply pw_below_drewN | apply below_drew1 | refine below_set ?_ GE268.out) | exact HB.out)⟩⟩
                      · rw [if_neg c22] at H
                        have c22b0 : decide (t265 ≤ a1) = false := decide_eq_false c22
                        clear c22
                        by_cases c34 : a1 ≥ t263
                        · rw [if_pos c34] at H
                          have c34b0 : decide (t263 ≤ a1) = true := decide_eq_true c34
                          clear c34
                          by_cases c35 : (wrap64 (((rd_T30 t258 x48_2).f2.f0) + ((rd_T30 t258 x48_2).f2.f2))) > a1
                          · rw [if_pos c35] at H
                            have c35b0 : decide (a1 < (wrap64 (((rd_T30 t258 x48_2).f2.f0) + ((rd_T30 t258 x48_2).f2.f2)))) = true := decide_eq_true c35
                            clear c35
                            obtain rfl := Option.some.inj H
                            have p267 : 0 ≤ (x48_2 : Int) := of_decide_eq_true (by first | (with_reducible assumption) | assumption)
                            have q267 : x48_2 < (t258.length : Int) := of_decide_eq_true (by first | (with_reducible assumption) | assumption)
                            obtain ⟨ad267, e267, hx267_0, hx267_1, hx267_2, hx267_3, hx267_4, hx267_5⟩ := at_T30 (Kd.R_reads' HO_46.out).2.2 x48_2 p267 q267
                            cases e267
                            replace p267 := eq_true p267
                            replace q267 := eq_true q267
                            go_wp2_with (first | ((with_reducible refine gate_dst (N := 13) rfl ?_); refine box_event ?hg (N := 13) ?hd (cs := #[.int .i64 0, .int .i64 0, .int .i64 0, .int .i64 0, .int .i64 0, .int .i64 0]) (t := 30) ?hr ?_; (case hd => rfl); (case hg => rfl); (case hr => first | (go_simp; done) | (go_simp; rfl)); intro gb268 hg w36 hbox hb; have n0_ := Aside0.mk (Kd.R_below (Kd.R_elderB (by (with_reducible repeat (first | apply Kd.R_alloc | apply Kd.R_drewN | apply Kd.R_drew)); exact HO_5.out) gb268 (Nat.le_of_eq hg.symm)) hb); have n1_ := Aside0.mk (Kd.R_below (Kd.R_elderB (by (with_reducible repeat (first | apply Kd.R_alloc | apply Kd.R_drewN | apply Kd.R_drew)); exact HO_46.out) gb268 (Nat.le_of_eq hg.symm)) hb); have n2_ := Aside0.mk (below_step (by repeat (first | (with_reducible first | exact HB.out | apply below_alloc | apply pw_below_drewN | apply below_drew1) | exact HB.out)) hb); have n3_ := Aside0.mk (hbox); have n4_ := Aside0.mk ((by rw [hg]; exact (below_size (by repeat (first | (with_reducible first | exact HB.out | apply below_alloc | apply pw_below_drewN | apply below_drew1) | exact HB.out))) : w.heap.size ≤ gb268)); have n5_ := Aside0.mk ((by rw [hg]; exact (below_size (by repeat (first | (with_reducible first | exact HB.out | apply below_alloc | apply pw_below_drewN | apply below_drew1) | exact HB.out))) : w.heap.size ≤ gb268)); clear HO_5; clear HO_46; clear HB; have HO_5 := n0_; have HO_46 := n1_; have HB := n2_; have BK268 := n3_; have GW268 := n4_; have GE268 := n5_; clear n0_ n1_ n2_ n3_ n4_ n5_; clear hb hbox hg; have hcz37_0 : w36.cell? ⟨gb268, 0, none⟩ = some (.int .i64 0) := (blk_cell BK268.out 0).trans rfl; have hcz37_1 : w36.cell? ⟨gb268, 1, none⟩ = some (.int .i64 0) := (blk_cell BK268.out 1).trans rfl; have hcz37_2 : w36.cell? ⟨gb268, 2, none⟩ = some (.int .i64 0) := (blk_cell BK268.out 2).trans rfl; have hcz37_3 : w36.cell? ⟨gb268, 3, none⟩ = some (.int .i64 0) := (blk_cell BK268.out 3).trans rfl; have hcz37_4 : w36.cell? ⟨gb268, 4, none⟩ = some (.int .i64 0) := (blk_cell BK268.out 4).trans rfl; have hcz37_5 : w36.cell? ⟨gb268, 5, none⟩ = some (.int .i64 0) := (blk_cell BK268.out 5).trans rfl; have hfz37_0 := blk_frozen BK268.out 0; have hfz37_1 := blk_frozen BK268.out 1; have hfz37_2 := blk_frozen BK268.out 2; have hfz37_3 := blk_frozen BK268.out 3; have hfz37_4 := blk_frozen BK268.out 4; have hfz37_5 := blk_frozen BK268.out 5))
                            go_ret
                            exact ⟨by first | rfl | (simp [errW_none, errW_some] <;> rfl) | (simp [*, errW_none, errW_some] <;> rfl), by repeat (first | (with_reducible first | exact HB.out | apply below_alloc | apply pw_below_drewN | apply below_drew1 | refine below_set ?_ GE268.out) | exact HB.out)⟩
                          · rw [if_neg c35] at H
                            have c35b0 : decide (a1 < (wrap64 (((rd_T30 t258 x48_2).f2.f0) + ((rd_T30 t258 x48_2).f2.f2)))) = false := decide_eq_false c35
                            clear c35
                            have H' := Aside0.mk H
                            clear H
                            have p267 : 0 ≤ (x48_2 : Int) := of_decide_eq_true (by first | (with_reducible assumption) | assumption)
                            have q267 : x48_2 < (t258.length : Int) := of_decide_eq_true (by first | (with_reducible assumption) | assumption)
                            obtain ⟨ad267, e267, hx267_0, hx267_1, hx267_2, hx267_3, hx267_4, hx267_5⟩ := at_T30 (Kd.R_reads' HO_46.out).2.2 x48_2 p267 q267
                            cases e267
                            replace p267 := eq_true p267
                            replace q267 := eq_true q267
                            go_wp2_with (first | ((with_reducible refine gate_dst (N := 13) rfl ?_); refine box_event ?hg (N := 13) ?hd (cs := #[.int .i64 0, .int .i64 0, .int .i64 0, .int .i64 0, .int .i64 0, .int .i64 0]) (t := 30) ?hr ?_; (case hd => rfl); (case hg => rfl); (case hr => first | (go_simp; done) | (go_simp; rfl)); intro gb268 hg w38 hbox hb; have n0_ := Aside0.mk (Kd.R_below (Kd.R_elderB (by (with_reducible repeat (first | apply Kd.R_alloc | apply Kd.R_drewN | apply Kd.R_drew)); exact HO_5.out) gb268 (Nat.le_of_eq hg.symm)) hb); have n1_ := Aside0.mk (Kd.R_below (Kd.R_elderB (by (with_reducible repeat (first | apply Kd.R_alloc | apply Kd.R_drewN | apply Kd.R_drew)); exact HO_46.out) gb268 (Nat.le_of_eq hg.symm)) hb); have n2_ := Aside0.mk (below_step (by repeat (first | (with_reducible first | exact HB.out | apply below_alloc | apply pw_below_drewN | apply below_drew1) | exact HB.out)) hb); have n3_ := Aside0.mk (hbox); have n4_ := Aside0.mk ((by rw [hg]; exact (below_size (by repeat (first | (with_reducible first | exact HB.out | apply below_alloc | apply pw_below_drewN | apply below_drew1) | exact HB.out))) : w.heap.size ≤ gb268)); have n5_ := Aside0.mk ((by rw [hg]; exact (below_size (by repeat (first | (with_reducible first | exact HB.out | apply below_alloc | apply pw_below_drewN | apply below_drew1) | exact HB.out))) : w.heap.size ≤ gb268)); clear HO_5; clear HO_46; clear HB; have HO_5 := n0_; have HO_46 := n1_; have HB := n2_; have BK268 := n3_; have GW268 := n4_; have GE268 := n5_; clear n0_ n1_ n2_ n3_ n4_ n5_; clear hb hbox hg; have hcz39_0 : w38.cell? ⟨gb268, 0, none⟩ = some (.int .i64 0) := (blk_cell BK268.out 0).trans rfl; have hcz39_1 : w38.cell? ⟨gb268, 1, none⟩ = some (.int .i64 0) := (blk_cell BK268.out 1).trans rfl; have hcz39_2 : w38.cell? ⟨gb268, 2, none⟩ = some (.int .i64 0) := (blk_cell BK268.out 2).trans rfl; have hcz39_3 : w38.cell? ⟨gb268, 3, none⟩ = some (.int .i64 0) := (blk_cell BK268.out 3).trans rfl; have hcz39_4 : w38.cell? ⟨gb268, 4, none⟩ = some (.int .i64 0) := (blk_cell BK268.out 4).trans rfl; have hcz39_5 : w38.cell? ⟨gb268, 5, none⟩ = some (.int .i64 0) := (blk_cell BK268.out 5).trans rfl; have hfz39_0 := blk_frozen BK268.out 0; have hfz39_1 := blk_frozen BK268.out 1; have hfz39_2 := blk_frozen BK268.out 2; have hfz39_3 := blk_frozen BK268.out 3; have hfz39_4 := blk_frozen BK268.out 4; have hfz39_5 := blk_frozen BK268.out 5))
                            go_roundg k2
                            case measure => have := HJ9.out; have := HK2.out; omega
                            case rel => exact ⟨(wrap64 (x48_2 + 1)), (by first | rfl | (simp; done) | (simp [*]; done)), H', ⟨by have := HJ9.out; have := HK2.out; omega⟩, ⟨by (with_reducible repeat (first | apply Kd.R_alloc | apply Kd.R_drewN | apply Kd.R_drew)); exact Kd.R_mono (Kd.R_far (p := ⟨gb268, 5, none⟩) (Kd.R_far (p := ⟨gb268, 4, none⟩) (Kd.R_far (p := ⟨gb268, 3, none⟩) (Kd.R_far (p := ⟨gb268, 2, none⟩) (Kd.R_far (p := ⟨gb268, 1, none⟩) (Kd.R_far (p := ⟨gb268, 0, none⟩) (Kd.R_mono HO_5.out (fun k_ hk => (⟨hk, hk.2⟩ : _ ∧ k_ ≠ gb268))) (fun _ hk => hk.2) (.int .i64 ((rd_T30 t258 x48_2).f0))) (fun _ hk => hk.2) (.int .i64 ((rd_T30 t258 x48_2).f1))) (fun _ hk => hk.2) (.int .i64 ((rd_T30 t258 x48_2).f2.f0))) (fun _ hk => hk.2) (.int .i64 ((rd_T30 t258 x48_2).f2.f1))) (fun _ hk => hk.2) (.int .i64 ((rd_T30 t258 x48_2).f2.f2))) (fun _ hk => hk.2) (.int .i64 ((rd_T30 t258 x48_2).f2.f3))) (fun _ hk => trivial)⟩, ⟨by (with_reducible repeat (first | apply Kd.R_alloc | apply Kd.R_drewN | apply Kd.R_drew)); exact Kd.R_mono (Kd.R_far (p := ⟨gb268, 5, none⟩) (Kd.R_far (p := ⟨gb268, 4, none⟩) (Kd.R_far (p := ⟨gb268, 3, none⟩) (Kd.R_far (p := ⟨gb268, 2, none⟩) (Kd.R_far (p := ⟨gb268, 1, none⟩) (Kd.R_far (p := ⟨gb268, 0, none⟩) (Kd.R_mono HO_46.out (fun k_ hk => (⟨hk, hk.2⟩ : _ ∧ k_ ≠ gb268))) (fun _ hk => hk.2) (.int .i64 ((rd_T30 t258 x48_2).f0))) (fun _ hk => hk.2) (.int .i64 ((rd_T30 t258 x48_2).f1))) (fun _ hk => hk.2) (.int .i64 ((rd_T30 t258 x48_2).f2.f0))) (fun _ hk => hk.2) (.int .i64 ((rd_T30 t258 x48_2).f2.f1))) (fun _ hk => hk.2) (.int .i64 ((rd_T30 t258 x48_2).f2.f2))) (fun _ hk => hk.2) (.int .i64 ((rd_T30 t258 x48_2).f2.f3))) (fun _ hk => trivial)⟩, ⟨by repeat (first | (with_reducible first | exact HB.out | apply below_alloc | apply pw_below_drewN | apply below_drew1 | refine below_set ?_ GE268.out) | exact HB.out)⟩⟩
                        · rw [if_neg c34] at H
                          have c34b0 : decide (t263 ≤ a1) = false := decide_eq_false c34
                          clear c34
                          have H' := Aside0.mk H
                          clear H
                          have p267 : 0 ≤ (x48_2 : Int) := of_decide_eq_true (by first | (with_reducible assumption) | assumption)
                          have q267 : x48_2 < (t258.length : Int) := of_decide_eq_true (by first | (with_reducible assumption) | assumption)
                          obtain ⟨ad267, e267, hx267_0, hx267_1, hx267_2, hx267_3, hx267_4, hx267_5⟩ := at_T30 (Kd.R_reads' HO_46.out).2.2 x48_2 p267 q267
                          cases e267
                          replace p267 := eq_true p267
                          replace q267 := eq_true q267
                          go_wp2_with (first | ((with_reducible refine gate_dst (N := 13) rfl ?_); refine box_event ?hg (N := 13) ?hd (cs := #[.int .i64 0, .int .i64 0, .int .i64 0, .int .i64 0, .int .i64 0, .int .i64 0]) (t := 30) ?hr ?_; (case hd => rfl); (case hg => rfl); (case hr => first | (go_simp; done) | (go_simp; rfl)); intro gb268 hg w40 hbox hb; have n0_ := Aside0.mk (Kd.R_below (Kd.R_elderB (by (with_reducible repeat (first | apply Kd.R_alloc | apply Kd.R_drewN | apply Kd.R_drew)); exact HO_5.out) gb268 (Nat.le_of_eq hg.symm)) hb); have n1_ := Aside0.mk (Kd.R_below (Kd.R_elderB (by (with_reducible repeat (first | apply Kd.R_alloc | apply Kd.R_drewN | apply Kd.R_drew)); exact HO_46.out) gb268 (Nat.le_of_eq hg.symm)) hb); have n2_ := Aside0.mk (below_step (by repeat (first | (with_reducible first | exact HB.out | apply below_alloc | apply pw_below_drewN | apply below_drew1) | exact HB.out)) hb); have n3_ := Aside0.mk (hbox); have n4_ := Aside0.mk ((by rw [hg]; exact (below_size (by repeat (first | (with_reducible first | exact HB.out | apply below_alloc | apply pw_below_drewN | apply below_drew1) | exact HB.out))) : w.heap.size ≤ gb268)); have n5_ := Aside0.mk ((by rw [hg]; exact (below_size (by repeat (first | (with_reducible first | exact HB.out | apply below_alloc | apply pw_below_drewN | apply below_drew1) | exact HB.out))) : w.heap.size ≤ gb268)); clear HO_5; clear HO_46; clear HB; have HO_5 := n0_; have HO_46 := n1_; have HB := n2_; have BK268 := n3_; have GW268 := n4_; have GE268 := n5_; clear n0_ n1_ n2_ n3_ n4_ n5_; clear hb hbox hg; have hcz41_0 : w40.cell? ⟨gb268, 0, none⟩ = some (.int .i64 0) := (blk_cell BK268.out 0).trans rfl; have hcz41_1 : w40.cell? ⟨gb268, 1, none⟩ = some (.int .i64 0) := (blk_cell BK268.out 1).trans rfl; have hcz41_2 : w40.cell? ⟨gb268, 2, none⟩ = some (.int .i64 0) := (blk_cell BK268.out 2).trans rfl; have hcz41_3 : w40.cell? ⟨gb268, 3, none⟩ = some (.int .i64 0) := (blk_cell BK268.out 3).trans rfl; have hcz41_4 : w40.cell? ⟨gb268, 4, none⟩ = some (.int .i64 0) := (blk_cell BK268.out 4).trans rfl; have hcz41_5 : w40.cell? ⟨gb268, 5, none⟩ = some (.int .i64 0) := (blk_cell BK268.out 5).trans rfl; have hfz41_0 := blk_frozen BK268.out 0; have hfz41_1 := blk_frozen BK268.out 1; have hfz41_2 := blk_frozen BK268.out 2; have hfz41_3 := blk_frozen BK268.out 3; have hfz41_4 := blk_frozen BK268.out 4; have hfz41_5 := blk_frozen BK268.out 5))
                          go_roundg k2
                          case measure => have := HJ9.out; have := HK2.out; omega
                          case rel => exact ⟨(wrap64 (x48_2 + 1)), (by first | rfl | (simp; done) | (simp [*]; done)), H', ⟨by have := HJ9.out; have := HK2.out; omega⟩, ⟨by (with_reducible repeat (first | apply Kd.R_alloc | apply Kd.R_drewN | apply Kd.R_drew)); exact Kd.R_mono (Kd.R_far (p := ⟨gb268, 5, none⟩) (Kd.R_far (p := ⟨gb268, 4, none⟩) (Kd.R_far (p := ⟨gb268, 3, none⟩) (Kd.R_far (p := ⟨gb268, 2, none⟩) (Kd.R_far (p := ⟨gb268, 1, none⟩) (Kd.R_far (p := ⟨gb268, 0, none⟩) (Kd.R_mono HO_5.out (fun k_ hk => (⟨hk, hk.2⟩ : _ ∧ k_ ≠ gb268))) (fun _ hk => hk.2) (.int .i64 ((rd_T30 t258 x48_2).f0))) (fun _ hk => hk.2) (.int .i64 ((rd_T30 t258 x48_2).f1))) (fun _ hk => hk.2) (.int .i64 ((rd_T30 t258 x48_2).f2.f0))) (fun _ hk => hk.2) (.int .i64 ((rd_T30 t258 x48_2).f2.f1))) (fun _ hk => hk.2) (.int .i64 ((rd_T30 t258 x48_2).f2.f2))) (fun _ hk => hk.2) (.int .i64 ((rd_T30 t258 x48_2).f2.f3))) (fun _ hk => trivial)⟩, ⟨by (with_reducible repeat (first | apply Kd.R_alloc | apply Kd.R_drewN | apply Kd.R_drew)); exact Kd.R_mono (Kd.R_far (p := ⟨gb268, 5, none⟩) (Kd.R_far (p := ⟨gb268, 4, none⟩) (Kd.R_far (p := ⟨gb268, 3, none⟩) (Kd.R_far (p := ⟨gb268, 2, none⟩) (Kd.R_far (p := ⟨gb268, 1, none⟩) (Kd.R_far (p := ⟨gb268, 0, none⟩) (Kd.R_mono HO_46.out (fun k_ hk => (⟨hk, hk.2⟩ : _ ∧ k_ ≠ gb268))) (fun _ hk => hk.2) (.int .i64 ((rd_T30 t258 x48_2).f0))) (fun _ hk => hk.2) (.int .i64 ((rd_T30 t258 x48_2).f1))) (fun _ hk => hk.2) (.int .i64 ((rd_T30 t258 x48_2).f2.f0))) (fun _ hk => hk.2) (.int .i64 ((rd_T30 t258 x48_2).f2.f1))) (fun _ hk => hk.2) (.int .i64 ((rd_T30 t258 x48_2).f2.f2))) (fun _ hk => hk.2) (.int .i64 ((rd_T30 t258 x48_2).f2.f3))) (fun _ hk => trivial)⟩, ⟨by repeat (first | (with_reducible first | exact HB.out | apply below_alloc | apply pw_below_drewN | apply below_drew1 | refine below_set ?_ GE268.out) | exact HB.out)⟩⟩
                    · rw [if_neg c21] at H
                      exact absurd H (by simp)
                  · rw [if_neg c20] at H
                    exact absurd H (by simp)
                · rw [if_neg c19] at H
                  have c19b0 : decide (x48_2 < (t258.length : Int)) = false := decide_eq_false c19
                  clear c19
                  obtain rfl := Option.some.inj H
                  go_wp2
                  go_ret
                  exact ⟨by first | rfl | (simp [errW_none, errW_some] <;> rfl) | (simp [*, errW_none, errW_some] <;> rfl), by repeat (first | (with_reducible first | exact HB.out | apply below_alloc | apply pw_below_drewN | apply below_drew1) | exact HB.out)⟩
  · replace c4 := Bool.eq_false_iff.mpr c4
    subst c4
    have H1 : (some false) = some r := by rw [if_neg (show ¬ (false = true) by decide)] at H; exact H
    clear H
    have H := H1
    clear H1
    obtain rfl := Option.some.inj H
    go_enter Try.func7, Try.ntmps7
    go_wp2_with (first | ((with_reducible refine gate_callee (f := 8) rfl ?_); refine goesL_ (some 14) rfl rfl Try.func8 (by kernel_rfl) rfl #[] rfl (by (try simp only [List.map_toArray, List.map_cons, List.map_nil]); first | done | rfl | (simp only [List.length_drop, List.length_take]; rfl)) ?_; (with_reducible refine (scrimlaw16_awake.calls  false _ A3.out).mono ?_); rintro e w42 ⟨rfl, hb⟩; refine ⟨_, rfl, ?_⟩; have n0_ := Aside0.mk (below_step (by repeat (first | (with_reducible first | exact HB.out | apply below_alloc | apply pw_below_drewN | apply below_drew1) | exact HB.out)) hb); clear HB; have HB := n0_; clear n0_; (try clear hb); (try clear hb2); (try clear hk); (try clear hi)))
    go_ret
    exact ⟨by first | rfl | (simp [errW_none, errW_some] <;> rfl) | (simp [*, errW_none, errW_some] <;> rfl), by repeat (first | (with_reducible first | exact HB.out | apply below_alloc | apply pw_below_drewN | apply below_drew1) | exact HB.out)⟩

end Go.Proofs.Ythkipbnigokcfaa.Q
