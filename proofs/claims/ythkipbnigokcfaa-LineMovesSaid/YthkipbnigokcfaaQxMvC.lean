/- Written by a program of this session (wip/xprint.py): plain Lean functions, and that the Go functions compute them. -/
import Derived.Test.YthkipbnigokcfaaQx0
import Derived.Test.YthkipbnigokcfaaLnF
import Derived.Test.YthkipbnigokcfaaLnA
import Derived.Test.YthkipbnigokcfaaQxMvA
namespace Go.Proofs.Ythkipbnigokcfaa.Q
open Go.RowKit Go.Proofs.YthkipbnigokcfaaW.PrintWords Go.Proofs.YthkipbnigokcfaaW.PrintLast Go.Proofs.YthkipbnigokcfaaW.PrintMore
attribute [local go_sem] max2_int min2_int max_two min_two max_three min_three max_four min_four   -- for this text's walks alone
set_option linter.unusedVariables false
set_option linter.unusedSimpArgs false

theorem kill_j1 : ∀ {k : Nat} {x0 : Int} {x1 : List (S30)} {x2 : List (S30)} {x3 : List (S30)}, scrimlaw16_LineMoves.j1 k x0 x1 x2 x3 true ≠ some true := by
  intro k x0 x1 x2 x3
  cases k <;> simp [scrimlaw16_LineMoves.j1]
theorem kill_j4 : ∀ {k : Nat} {x0 : Int} {x1 : List (S30)} {x2 : List (S30)} {x3 : List (S30)} {x4 : Int} {x5 : Int} {x6 : Int} {x7 : Int} {x8 : Int}, scrimlaw16_LineMoves.j4 k x0 x1 x2 x3 x4 x5 x6 x7 x8 true ≠ some true := by
  intro k x0 x1 x2 x3 x4 x5 x6 x7 x8
  cases k <;> simp [scrimlaw16_LineMoves.j4]
set_option maxHeartbeats 8000000 in
set_option maxRecDepth 100000 in
theorem scrimlaw16_LineMoves.calls (k : Nat) (A0 : Option Addr) (c0 : Nat) (l0 : List (S32)) (a1 : Int) (r : Bool) (w : World) (hr0 : Kd.C k32 w A0 l0.length l0) (hc0 : l0.length ≤ c0) (h : scrimlaw16_LineMoves.f k l0 a1 = some r) (hrt : r = true) :
  Calls Try.prog 5 #[.slice A0 l0.length c0, .int .i64 a1] w fun e w' => e = .returned (.bool r) ∧ Below w.heap.size w w' := by
 have HRT := Lib.hid hrt
 clear hrt
 have HR0 := Aside0.mk hr0
 have HC0 := Aside0.mk hc0
 clear hr0 hc0
 have HB := Aside0.mk (Below.refl w.heap.size w)
 have H : ((scrimlaw16_awake.f).bind fun t175 => (if t175 = true then (if (l0.length : Int) > 200 then (some true) else ((line_Fill.f l0 a1 0).bind fun bt176 => ((line_Fill.f l0 a1 1).bind fun bt181 => ((line_Fill.f l0 a1 2).bind fun bt186 => (if bt176.2.2 = true then (if bt181.2.2 = true then (scrimlaw16_LineMoves.j0 k a1 bt176.1 bt176.2.1 bt181.1 bt181.2.1 bt186.1 bt186.2.1 (!bt186.2.2)) else (scrimlaw16_LineMoves.j0 k a1 bt176.1 bt176.2.1 bt181.1 bt181.2.1 bt186.1 bt186.2.1 true)) else (scrimlaw16_LineMoves.j0 k a1 bt176.1 bt176.2.1 bt181.1 bt181.2.1 bt186.1 bt186.2.1 true)))))) else (some false))) = some r := h
 clear h
 replace H := Option.bind_eq_some_iff.mp H
 obtain ⟨t175, A30, H⟩ := H
 replace H : (if t175 = true then (if (l0.length : Int) > 200 then (some true) else ((line_Fill.f l0 a1 0).bind fun bt176 => ((line_Fill.f l0 a1 1).bind fun bt181 => ((line_Fill.f l0 a1 2).bind fun bt186 => (if bt176.2.2 = true then (if bt181.2.2 = true then (scrimlaw16_LineMoves.j0 k a1 bt176.1 bt176.2.1 bt181.1 bt181.2.1 bt186.1 bt186.2.1 (!bt186.2.2)) else (scrimlaw16_LineMoves.j0 k a1 bt176.1 bt176.2.1 bt181.1 bt181.2.1 bt186.1 bt186.2.1 true)) else (scrimlaw16_LineMoves.j0 k a1 bt176.1 bt176.2.1 bt181.1 bt181.2.1 bt186.1 bt186.2.1 true)))))) else (some false)) = some r := H
 have A3 := Aside0.mk A30
 clear A30
 by_cases c4 : t175 = true
 ·
  subst c4
  have H1 : (if (l0.length : Int) > 200 then (some true) else ((line_Fill.f l0 a1 0).bind fun bt176 => ((line_Fill.f l0 a1 1).bind fun bt181 => ((line_Fill.f l0 a1 2).bind fun bt186 => (if bt176.2.2 = true then (if bt181.2.2 = true then (scrimlaw16_LineMoves.j0 k a1 bt176.1 bt176.2.1 bt181.1 bt181.2.1 bt186.1 bt186.2.1 (!bt186.2.2)) else (scrimlaw16_LineMoves.j0 k a1 bt176.1 bt176.2.1 bt181.1 bt181.2.1 bt186.1 bt186.2.1 true)) else (scrimlaw16_LineMoves.j0 k a1 bt176.1 bt176.2.1 bt181.1 bt181.2.1 bt186.1 bt186.2.1 true)))))) = some r := by rw [if_pos rfl] at H; exact H
  clear H
  have H := H1
  clear H1
  by_cases c5 : (l0.length : Int) > 200
  ·
   rw [if_pos c5] at H
   have c5b0 : decide (200 < (l0.length : Int)) = true := decide_eq_true c5
   have c5b1 : decide (200 < l0.length) = true := decide_eq_true (by omega)
   clear c5
   obtain rfl := Option.some.inj H
   go_enter Try.func5, Try.ntmps5
   go_wp2_with (first | (go_at_call 8; (with_reducible refine (scrimlaw16_awake.calls  true _ A3.out).mono ?_); rintro e w6 ⟨rfl, hb⟩; have n0_ := Aside0.mk (below_step (by repeat (first | (with_reducible first | exact HB.out | apply below_alloc | apply pw_below_drewN | apply below_drew1) | exact HB.out)) hb); clear HB; have HB := n0_; clear n0_; (try clear hb); (try clear hb2); (try clear hk); (try clear hi)))
   repeat (go_quiet (first | (go_at_call 8; (with_reducible refine (scrimlaw16_awake.calls  true _ A3.out).mono ?_); rintro e w6 ⟨rfl, hb⟩; have n0_ := Aside0.mk (below_step (by repeat (first | (with_reducible first | exact HB.out | apply below_alloc | apply pw_below_drewN | apply below_drew1) | exact HB.out)) hb); clear HB; have HB := n0_; clear n0_; (try clear hb); (try clear hb2); (try clear hk); (try clear hi))); try go_wp2_with (first | (go_at_call 8; (with_reducible refine (scrimlaw16_awake.calls  true _ A3.out).mono ?_); rintro e w6 ⟨rfl, hb⟩; have n0_ := Aside0.mk (below_step (by repeat (first | (with_reducible first | exact HB.out | apply below_alloc | apply pw_below_drewN | apply below_drew1) | exact HB.out)) hb); clear HB; have HB := n0_; clear n0_; (try clear hb); (try clear hb2); (try clear hk); (try clear hi))))
   go_ret
   exact ⟨by first | rfl | (simp [errW_none, errW_some] <;> rfl) | (simp [*, errW_none, errW_some] <;> rfl), by repeat (first | (with_reducible first | exact HB.out | apply below_alloc | apply pw_below_drewN | apply below_drew1) | exact HB.out)⟩
  ·
   rw [if_neg c5] at H
   have c5b0 : decide (200 < (l0.length : Int)) = false := decide_eq_false c5
   have c5b1 : decide (200 < l0.length) = false := decide_eq_false (by omega)
   clear c5
   replace H := Option.bind_eq_some_iff.mp H
   obtain ⟨⟨t176, t177, t178⟩, A70, H⟩ := H
   replace H : ((line_Fill.f l0 a1 1).bind fun bt181 => ((line_Fill.f l0 a1 2).bind fun bt186 => (if t178 = true then (if bt181.2.2 = true then (scrimlaw16_LineMoves.j0 k a1 t176 t177 bt181.1 bt181.2.1 bt186.1 bt186.2.1 (!bt186.2.2)) else (scrimlaw16_LineMoves.j0 k a1 t176 t177 bt181.1 bt181.2.1 bt186.1 bt186.2.1 true)) else (scrimlaw16_LineMoves.j0 k a1 t176 t177 bt181.1 bt181.2.1 bt186.1 bt186.2.1 true)))) = some r := H
   have A7 := Aside0.mk A70
   clear A70
   replace H := Option.bind_eq_some_iff.mp H
   obtain ⟨⟨t181, t182, t183⟩, A80, H⟩ := H
   replace H : ((line_Fill.f l0 a1 2).bind fun bt186 => (if t178 = true then (if t183 = true then (scrimlaw16_LineMoves.j0 k a1 t176 t177 t181 t182 bt186.1 bt186.2.1 (!bt186.2.2)) else (scrimlaw16_LineMoves.j0 k a1 t176 t177 t181 t182 bt186.1 bt186.2.1 true)) else (scrimlaw16_LineMoves.j0 k a1 t176 t177 t181 t182 bt186.1 bt186.2.1 true))) = some r := H
   have A8 := Aside0.mk A80
   clear A80
   replace H := Option.bind_eq_some_iff.mp H
   obtain ⟨⟨t186, t187, t188⟩, A90, H⟩ := H
   replace H : (if t178 = true then (if t183 = true then (scrimlaw16_LineMoves.j0 k a1 t176 t177 t181 t182 t186 t187 (!t188)) else (scrimlaw16_LineMoves.j0 k a1 t176 t177 t181 t182 t186 t187 true)) else (scrimlaw16_LineMoves.j0 k a1 t176 t177 t181 t182 t186 t187 true)) = some r := H
   have A9 := Aside0.mk A90
   clear A90
   have HC10 := Aside0.mk H
   clear H
   go_enter Try.func5, Try.ntmps5
   go_upto_region 8 with (first | (go_at_call 8; (with_reducible refine (scrimlaw16_awake.calls  true _ A3.out).mono ?_); rintro e w11 ⟨rfl, hb⟩; have n0_ := Aside0.mk (below_step (by repeat (first | (with_reducible first | exact HB.out | apply below_alloc | apply pw_below_drewN | apply below_drew1) | exact HB.out)) hb); clear HB; have HB := n0_; clear n0_; (try clear hb); (try clear hb2); (try clear hk); (try clear hi)) | (go_at_call 9; (with_reducible refine (line_Fill.calls _ _ l0 a1 0 t176 t177 t178 _ ?side1 ?side2 A7.out).mono ?_); (case side1 => repeat (first | exact (Kd.C_below HR0.out HB.out) | (with_reducible refine Kd.C_alloc ?_ _) | (with_reducible refine Kd.C_drewN ?_ _) | (with_reducible refine Kd.C_drew ?_))); (case side2 => exact HC0.out); rintro e w12 ⟨v179, rfl, ho0, hb⟩; have n0_ := Aside0.mk (Kd.R_lower ho0 (below_size (by repeat (first | (with_reducible first | exact HB.out | apply below_alloc | apply pw_below_drewN | apply below_drew1) | exact HB.out)))); have n1_ := Aside0.mk (below_step (by repeat (first | (with_reducible first | exact HB.out | apply below_alloc | apply pw_below_drewN | apply below_drew1) | exact HB.out)) hb); clear HB; have HO180 := n0_; have HB := n1_; clear n0_ n1_; (try clear hb); (try clear hb2); (try clear hk); (try clear hi); (try clear ho0)) | (go_at_call 9; (with_reducible refine (line_Fill.calls _ _ l0 a1 1 t181 t182 t183 _ ?side1 ?side2 A8.out).mono ?_); (case side1 => repeat (first | exact (Kd.C_below HR0.out HB.out) | (with_reducible refine Kd.C_alloc ?_ _) | (with_reducible refine Kd.C_drewN ?_ _) | (with_reducible refine Kd.C_drew ?_))); (case side2 => exact HC0.out); rintro e w13 ⟨v184, rfl, ho0, hb⟩; have n0_ := Aside0.mk (Kd.R_elder' (by (with_reducible repeat (first | apply Kd.R_alloc | apply Kd.R_drewN | apply Kd.R_drew)); exact HO180.out) (Kd.R_base ho0) hb); have n1_ := Aside0.mk (Kd.R_lower (Kd.R_new' ho0 (Kd.R_lt (by (with_reducible repeat (first | apply Kd.R_alloc | apply Kd.R_drewN | apply Kd.R_drew)); exact HO180.out))) (below_size (by repeat (first | (with_reducible first | exact HB.out | apply below_alloc | apply pw_below_drewN | apply below_drew1) | exact HB.out)))); have n2_ := Aside0.mk (below_step (by repeat (first | (with_reducible first | exact HB.out | apply below_alloc | apply pw_below_drewN | apply below_drew1) | exact HB.out)) hb); clear HO180; clear HB; have HO180 := n0_; have HO185 := n1_; have HB := n2_; clear n0_ n1_ n2_; (try clear hb); (try clear hb2); (try clear hk); (try clear hi); (try clear ho0)) | (go_at_call 9; (with_reducible refine (line_Fill.calls _ _ l0 a1 2 t186 t187 t188 _ ?side1 ?side2 A9.out).mono ?_); (case side1 => repeat (first | exact (Kd.C_below HR0.out HB.out) | (with_reducible refine Kd.C_alloc ?_ _) | (with_reducible refine Kd.C_drewN ?_ _) | (with_reducible refine Kd.C_drew ?_))); (case side2 => exact HC0.out); rintro e w14 ⟨v189, rfl, ho0, hb⟩; have n0_ := Aside0.mk (Kd.R_elder' (by (with_reducible repeat (first | apply Kd.R_alloc | apply Kd.R_drewN | apply Kd.R_drew)); exact HO180.out) (Kd.R_base ho0) hb); have n1_ := Aside0.mk (Kd.R_elder' (by (with_reducible repeat (first | apply Kd.R_alloc | apply Kd.R_drewN | apply Kd.R_drew)); exact HO185.out) (Kd.R_base ho0) hb); have n2_ := Aside0.mk (Kd.R_lower (Kd.R_new' (Kd.R_new' ho0 (Kd.R_lt (by (with_reducible repeat (first | apply Kd.R_alloc | apply Kd.R_drewN | apply Kd.R_drew)); exact HO180.out))) (Kd.R_lt (by (with_reducible repeat (first | apply Kd.R_alloc | apply Kd.R_drewN | apply Kd.R_drew)); exact HO185.out))) (below_size (by repeat (first | (with_reducible first | exact HB.out | apply below_alloc | apply pw_below_drewN | apply below_drew1) | exact HB.out)))); have n3_ := Aside0.mk (below_step (by repeat (first | (with_reducible first | exact HB.out | apply below_alloc | apply pw_below_drewN | apply below_drew1) | exact HB.out)) hb); clear HO180; clear HO185; clear HB; have HO180 := n0_; have HO185 := n1_; have HO190 := n2_; have HB := n3_; clear n0_ n1_ n2_ n3_; (try clear hb); (try clear hb2); (try clear hk); (try clear hi); (try clear ho0)))
   repeat (go_quiet (first | (go_at_call 8; (with_reducible refine (scrimlaw16_awake.calls  true _ A3.out).mono ?_); rintro e w11 ⟨rfl, hb⟩; have n0_ := Aside0.mk (below_step (by repeat (first | (with_reducible first | exact HB.out | apply below_alloc | apply pw_below_drewN | apply below_drew1) | exact HB.out)) hb); clear HB; have HB := n0_; clear n0_; (try clear hb); (try clear hb2); (try clear hk); (try clear hi)) | (go_at_call 9; (with_reducible refine (line_Fill.calls _ _ l0 a1 0 t176 t177 t178 _ ?side1 ?side2 A7.out).mono ?_); (case side1 => repeat (first | exact (Kd.C_below HR0.out HB.out) | (with_reducible refine Kd.C_alloc ?_ _) | (with_reducible refine Kd.C_drewN ?_ _) | (with_reducible refine Kd.C_drew ?_))); (case side2 => exact HC0.out); rintro e w12 ⟨v179, rfl, ho0, hb⟩; have n0_ := Aside0.mk (Kd.R_lower ho0 (below_size (by repeat (first | (with_reducible first | exact HB.out | apply below_alloc | apply pw_below_drewN | apply below_drew1) | exact HB.out)))); have n1_ := Aside0.mk (below_step (by repeat (first | (with_reducible first | exact HB.out | apply below_alloc | apply pw_below_drewN | apply below_drew1) | exact HB.out)) hb); clear HB; have HO180 := n0_; have HB := n1_; clear n0_ n1_; (try clear hb); (try clear hb2); (try clear hk); (try clear hi); (try clear ho0)) | (go_at_call 9; (with_reducible refine (line_Fill.calls _ _ l0 a1 1 t181 t182 t183 _ ?side1 ?side2 A8.out).mono ?_); (case side1 => repeat (first | exact (Kd.C_below HR0.out HB.out) | (with_reducible refine Kd.C_alloc ?_ _) | (with_reducible refine Kd.C_drewN ?_ _) | (with_reducible refine Kd.C_drew ?_))); (case side2 => exact HC0.out); rintro e w13 ⟨v184, rfl, ho0, hb⟩; have n0_ := Aside0.mk (Kd.R_elder' (by (with_reducible repeat (first | apply Kd.R_alloc | apply Kd.R_drewN | apply Kd.R_drew)); exact HO180.out) (Kd.R_base ho0) hb); have n1_ := Aside0.mk (Kd.R_lower (Kd.R_new' ho0 (Kd.R_lt (by (with_reducible repeat (first | apply Kd.R_alloc | apply Kd.R_drewN | apply Kd.R_drew)); exact HO180.out))) (below_size (by repeat (first | (with_reducible first | exact HB.out | apply below_alloc | apply pw_below_drewN | apply below_drew1) | exact HB.out)))); have n2_ := Aside0.mk (below_step (by repeat (first | (with_reducible first | exact HB.out | apply below_alloc | apply pw_below_drewN | apply below_drew1) | exact HB.out)) hb); clear HO180; clear HB; have HO180 := n0_; have HO185 := n1_; have HB := n2_; clear n0_ n1_ n2_; (try clear hb); (try clear hb2); (try clear hk); (try clear hi); (try clear ho0)) | (go_at_call 9; (with_reducible refine (line_Fill.calls _ _ l0 a1 2 t186 t187 t188 _ ?side1 ?side2 A9.out).mono ?_); (case side1 => repeat (first | exact (Kd.C_below HR0.out HB.out) | (with_reducible refine Kd.C_alloc ?_ _) | (with_reducible refine Kd.C_drewN ?_ _) | (with_reducible refine Kd.C_drew ?_))); (case side2 => exact HC0.out); rintro e w14 ⟨v189, rfl, ho0, hb⟩; have n0_ := Aside0.mk (Kd.R_elder' (by (with_reducible repeat (first | apply Kd.R_alloc | apply Kd.R_drewN | apply Kd.R_drew)); exact HO180.out) (Kd.R_base ho0) hb); have n1_ := Aside0.mk (Kd.R_elder' (by (with_reducible repeat (first | apply Kd.R_alloc | apply Kd.R_drewN | apply Kd.R_drew)); exact HO185.out) (Kd.R_base ho0) hb); have n2_ := Aside0.mk (Kd.R_lower (Kd.R_new' (Kd.R_new' ho0 (Kd.R_lt (by (with_reducible repeat (first | apply Kd.R_alloc | apply Kd.R_drewN | apply Kd.R_drew)); exact HO180.out))) (Kd.R_lt (by (with_reducible repeat (first | apply Kd.R_alloc | apply Kd.R_drewN | apply Kd.R_drew)); exact HO185.out))) (below_size (by repeat (first | (with_reducible first | exact HB.out | apply below_alloc | apply pw_below_drewN | apply below_drew1) | exact HB.out)))); have n3_ := Aside0.mk (below_step (by repeat (first | (with_reducible first | exact HB.out | apply below_alloc | apply pw_below_drewN | apply below_drew1) | exact HB.out)) hb); clear HO180; clear HO185; clear HB; have HO180 := n0_; have HO185 := n1_; have HO190 := n2_; have HB := n3_; clear n0_ n1_ n2_ n3_; (try clear hb); (try clear hb2); (try clear hk); (try clear hi); (try clear ho0))); go_upto_region 8 with (first | (go_at_call 8; (with_reducible refine (scrimlaw16_awake.calls  true _ A3.out).mono ?_); rintro e w11 ⟨rfl, hb⟩; have n0_ := Aside0.mk (below_step (by repeat (first | (with_reducible first | exact HB.out | apply below_alloc | apply pw_below_drewN | apply below_drew1) | exact HB.out)) hb); clear HB; have HB := n0_; clear n0_; (try clear hb); (try clear hb2); (try clear hk); (try clear hi)) | (go_at_call 9; (with_reducible refine (line_Fill.calls _ _ l0 a1 0 t176 t177 t178 _ ?side1 ?side2 A7.out).mono ?_); (case side1 => repeat (first | exact (Kd.C_below HR0.out HB.out) | (with_reducible refine Kd.C_alloc ?_ _) | (with_reducible refine Kd.C_drewN ?_ _) | (with_reducible refine Kd.C_drew ?_))); (case side2 => exact HC0.out); rintro e w12 ⟨v179, rfl, ho0, hb⟩; have n0_ := Aside0.mk (Kd.R_lower ho0 (below_size (by repeat (first | (with_reducible first | exact HB.out | apply below_alloc | apply pw_below_drewN | apply below_drew1) | exact HB.out)))); have n1_ := Aside0.mk (below_step (by repeat (first | (with_reducible first | exact HB.out | apply below_alloc | apply pw_below_drewN | apply below_drew1) | exact HB.out)) hb); clear HB; have HO180 := n0_; have HB := n1_; clear n0_ n1_; (try clear hb); (try clear hb2); (try clear hk); (try clear hi); (try clear ho0)) | (go_at_call 9; (with_reducible refine (line_Fill.calls _ _ l0 a1 1 t181 t182 t183 _ ?side1 ?side2 A8.out).mono ?_); (case side1 => repeat (first | exact (Kd.C_below HR0.out HB.out) | (with_reducible refine Kd.C_alloc ?_ _) | (with_reducible refine Kd.C_drewN ?_ _) | (with_reducible refine Kd.C_drew ?_))); (case side2 => exact HC0.out); rintro e w13 ⟨v184, rfl, ho0, hb⟩; have n0_ := Aside0.mk (Kd.R_elder' (by (with_reducible repeat (first | apply Kd.R_alloc | apply Kd.R_drewN | apply Kd.R_drew)); exact HO180.out) (Kd.R_base ho0) hb); have n1_ := Aside0.mk (Kd.R_lower (Kd.R_new' ho0 (Kd.R_lt (by (with_reducible repeat (first | apply Kd.R_alloc | apply Kd.R_drewN | apply Kd.R_drew)); exact HO180.out))) (below_size (by repeat (first | (with_reducible first | exact HB.out | apply below_alloc | apply pw_below_drewN | apply below_drew1) | exact HB.out)))); have n2_ := Aside0.mk (below_step (by repeat (first | (with_reducible first | exact HB.out | apply below_alloc | apply pw_below_drewN | apply below_drew1) | exact HB.out)) hb); clear HO180; clear HB; have HO180 := n0_; have HO185 := n1_; have HB := n2_; clear n0_ n1_ n2_; (try clear hb); (try clear hb2); (try clear hk); (try clear hi); (try clear ho0)) | (go_at_call 9; (with_reducible refine (line_Fill.calls _ _ l0 a1 2 t186 t187 t188 _ ?side1 ?side2 A9.out).mono ?_); (case side1 => repeat (first | exact (Kd.C_below HR0.out HB.out) | (with_reducible refine Kd.C_alloc ?_ _) | (with_reducible refine Kd.C_drewN ?_ _) | (with_reducible refine Kd.C_drew ?_))); (case side2 => exact HC0.out); rintro e w14 ⟨v189, rfl, ho0, hb⟩; have n0_ := Aside0.mk (Kd.R_elder' (by (with_reducible repeat (first | apply Kd.R_alloc | apply Kd.R_drewN | apply Kd.R_drew)); exact HO180.out) (Kd.R_base ho0) hb); have n1_ := Aside0.mk (Kd.R_elder' (by (with_reducible repeat (first | apply Kd.R_alloc | apply Kd.R_drewN | apply Kd.R_drew)); exact HO185.out) (Kd.R_base ho0) hb); have n2_ := Aside0.mk (Kd.R_lower (Kd.R_new' (Kd.R_new' ho0 (Kd.R_lt (by (with_reducible repeat (first | apply Kd.R_alloc | apply Kd.R_drewN | apply Kd.R_drew)); exact HO180.out))) (Kd.R_lt (by (with_reducible repeat (first | apply Kd.R_alloc | apply Kd.R_drewN | apply Kd.R_drew)); exact HO185.out))) (below_size (by repeat (first | (with_reducible first | exact HB.out | apply below_alloc | apply pw_below_drewN | apply below_drew1) | exact HB.out)))); have n3_ := Aside0.mk (below_step (by repeat (first | (with_reducible first | exact HB.out | apply below_alloc | apply pw_below_drewN | apply below_drew1) | exact HB.out)) hb); clear HO180; clear HO185; clear HB; have HO180 := n0_; have HO185 := n1_; have HO190 := n2_; have HB := n3_; clear n0_ n1_ n2_ n3_; (try clear hb); (try clear hb2); (try clear hk); (try clear hi); (try clear ho0))))
   (try simp only [Act.put, List.setIfInBounds_toArray, List.set_cons_zero, List.set_cons_succ])
   go_cut [53] (fun v53 wc => ∃ (kq : Nat) (x53_9 : Bool), v53 = .bool x53_9 ∧ Aside0 (scrimlaw16_LineMoves.j0 kq a1 t176 t177 t181 t182 t186 t187 x53_9 = some r) ∧ Aside0 (kq ≤ k) ∧ Aside0 (Kd.R k30 30 wc w.heap.size (fun k_ => some k_ ≠ (v184 : Value).ownBlock ∧ some k_ ≠ (v189 : Value).ownBlock) v179 t176) ∧ Aside0 (Kd.R k30 30 wc w.heap.size (fun k_ => some k_ ≠ (v179 : Value).ownBlock ∧ some k_ ≠ (v189 : Value).ownBlock) v184 t181) ∧ Aside0 (Kd.R k30 30 wc w.heap.size (fun k_ => some k_ ≠ (v179 : Value).ownBlock ∧ some k_ ≠ (v184 : Value).ownBlock) v189 t186) ∧ Aside0 (Below w.heap.size w wc))
   case first => as_aux_lemma =>
    have H := HC10.out
    clear HC10
    by_cases c15 : t178 = true
    ·
     subst c15
     have H1 : (if t183 = true then (scrimlaw16_LineMoves.j0 k a1 t176 t177 t181 t182 t186 t187 (!t188)) else (scrimlaw16_LineMoves.j0 k a1 t176 t177 t181 t182 t186 t187 true)) = some r := by rw [if_pos rfl] at H; exact H
     clear H
     have H := H1
     clear H1
     by_cases c16 : t183 = true
     ·
      subst c16
      have H1 : (scrimlaw16_LineMoves.j0 k a1 t176 t177 t181 t182 t186 t187 (!t188)) = some r := by rw [if_pos rfl] at H; exact H
      clear H
      have H := H1
      clear H1
      have H' := Aside0.mk H
      clear H
      go_wp2
      repeat (go_quiet (fail); try go_wp2)
      go_meet
      case rel => exact ⟨_, (!t188), (by first | rfl | (simp; done) | (simp [*]; done)), H', ⟨by first | omega | exact Nat.le_refl _⟩, ⟨by (with_reducible repeat (first | apply Kd.R_alloc | apply Kd.R_drewN | apply Kd.R_drew)); exact Kd.R_mono HO180.out (fun _ hk => ⟨hk.1.2, hk.2⟩)⟩, ⟨by (with_reducible repeat (first | apply Kd.R_alloc | apply Kd.R_drewN | apply Kd.R_drew)); exact Kd.R_mono HO185.out (fun _ hk => ⟨hk.1.2, hk.2⟩)⟩, ⟨by (with_reducible repeat (first | apply Kd.R_alloc | apply Kd.R_drewN | apply Kd.R_drew)); exact Kd.R_mono HO190.out (fun _ hk => ⟨hk.1.2, hk.2⟩)⟩, ⟨by repeat (first | (with_reducible first | exact HB.out | apply below_alloc | apply pw_below_drewN | apply below_drew1) | exact HB.out)⟩⟩
     ·
      replace c16 := Bool.eq_false_iff.mpr c16
      subst c16
      have H1 : (scrimlaw16_LineMoves.j0 k a1 t176 t177 t181 t182 t186 t187 true) = some r := by rw [if_neg (show ¬ (false = true) by decide)] at H; exact H
      clear H
      have H := H1
      clear H1
      have H' := Aside0.mk H
      clear H
      go_wp2
      repeat (go_quiet (fail); try go_wp2)
      go_meet
      case rel => exact ⟨_, (true), (by first | rfl | (simp; done) | (simp [*]; done)), H', ⟨by first | omega | exact Nat.le_refl _⟩, ⟨by (with_reducible repeat (first | apply Kd.R_alloc | apply Kd.R_drewN | apply Kd.R_drew)); exact Kd.R_mono HO180.out (fun _ hk => ⟨hk.1.2, hk.2⟩)⟩, ⟨by (with_reducible repeat (first | apply Kd.R_alloc | apply Kd.R_drewN | apply Kd.R_drew)); exact Kd.R_mono HO185.out (fun _ hk => ⟨hk.1.2, hk.2⟩)⟩, ⟨by (with_reducible repeat (first | apply Kd.R_alloc | apply Kd.R_drewN | apply Kd.R_drew)); exact Kd.R_mono HO190.out (fun _ hk => ⟨hk.1.2, hk.2⟩)⟩, ⟨by repeat (first | (with_reducible first | exact HB.out | apply below_alloc | apply pw_below_drewN | apply below_drew1) | exact HB.out)⟩⟩
    ·
     replace c15 := Bool.eq_false_iff.mpr c15
     subst c15
     have H1 : (scrimlaw16_LineMoves.j0 k a1 t176 t177 t181 t182 t186 t187 true) = some r := by rw [if_neg (show ¬ (false = true) by decide)] at H; exact H
     clear H
     have H := H1
     clear H1
     have H' := Aside0.mk H
     clear H
     go_wp2
     repeat (go_quiet (fail); try go_wp2)
     go_meet
     case rel => exact ⟨_, (true), (by first | rfl | (simp; done) | (simp [*]; done)), H', ⟨by first | omega | exact Nat.le_refl _⟩, ⟨by (with_reducible repeat (first | apply Kd.R_alloc | apply Kd.R_drewN | apply Kd.R_drew)); exact Kd.R_mono HO180.out (fun _ hk => ⟨hk.1.2, hk.2⟩)⟩, ⟨by (with_reducible repeat (first | apply Kd.R_alloc | apply Kd.R_drewN | apply Kd.R_drew)); exact Kd.R_mono HO185.out (fun _ hk => ⟨hk.1.2, hk.2⟩)⟩, ⟨by (with_reducible repeat (first | apply Kd.R_alloc | apply Kd.R_drewN | apply Kd.R_drew)); exact Kd.R_mono HO190.out (fun _ hk => ⟨hk.1.2, hk.2⟩)⟩, ⟨by repeat (first | (with_reducible first | exact HB.out | apply below_alloc | apply pw_below_drewN | apply below_drew1) | exact HB.out)⟩⟩
   case rest => as_aux_lemma =>
    clear HC10
    try clear c4; try clear c5; try clear c5b0; try clear c5b1; try clear c15; try clear c16
    obtain ⟨kq, x53_9, rfl, HA, HJ9, HO_5, HO_8, HO_11, HB⟩ := hcut
    cases kq with
    | zero => exact absurd HA.out (by simp [scrimlaw16_LineMoves.j0])
    | succ kj9 =>
     have H := HA.out
     clear HA
     simp only [scrimlaw16_LineMoves.j0] at H
     by_cases c17 : x53_9 = true
     ·
      subst c17
      have H1 : (some true) = some r := by rw [if_pos rfl] at H; exact H
      clear H
      have H := H1
      clear H1
      obtain rfl := Option.some.inj H
      go_wp2
      repeat (go_quiet (fail); try go_wp2)
      go_ret
      exact ⟨by first | rfl | (simp [errW_none, errW_some] <;> rfl) | (simp [*, errW_none, errW_some] <;> rfl), by repeat (first | (with_reducible first | exact HB.out | apply below_alloc | apply pw_below_drewN | apply below_drew1) | exact HB.out)⟩
     ·
      replace c17 := Bool.eq_false_iff.mpr c17
      subst c17
      have H1 : (if t177 = t182 then (if t177 = t187 then (if (t176.length : Int) = (t181.length : Int) then (scrimlaw16_LineMoves.j1 kj9 a1 t176 t181 t186 ((t176.length : Int) != (t186.length : Int))) else (scrimlaw16_LineMoves.j1 kj9 a1 t176 t181 t186 true)) else (scrimlaw16_LineMoves.j1 kj9 a1 t176 t181 t186 true)) else (scrimlaw16_LineMoves.j1 kj9 a1 t176 t181 t186 true)) = some r := by rw [if_neg (show ¬ (false = true) by decide)] at H; exact H
      clear H
      have H := H1
      clear H1
      have HC18 := Aside0.mk H
      clear H
      go_upto_region 10 with (fail)
      repeat (go_quiet (fail); go_upto_region 10 with (fail))
      go_cut [75] (fun v75 wc => ∃ (kq : Nat) (x75_17 : Bool), v75 = .bool x75_17 ∧ Aside0 (scrimlaw16_LineMoves.j1 kq a1 t176 t181 t186 x75_17 = some r) ∧ Aside0 (kq ≤ kj9) ∧ Aside0 (Kd.R k30 30 wc w.heap.size (fun k_ => some k_ ≠ (v184 : Value).ownBlock ∧ some k_ ≠ (v189 : Value).ownBlock) v179 t176) ∧ Aside0 (Kd.R k30 30 wc w.heap.size (fun k_ => some k_ ≠ (v179 : Value).ownBlock ∧ some k_ ≠ (v189 : Value).ownBlock) v184 t181) ∧ Aside0 (Kd.R k30 30 wc w.heap.size (fun k_ => some k_ ≠ (v179 : Value).ownBlock ∧ some k_ ≠ (v184 : Value).ownBlock) v189 t186) ∧ Aside0 (Below w.heap.size w wc))
      case first => as_aux_lemma =>
       have H := HC18.out
       clear HC18
       by_cases c19 : t177 = t182
       ·
        rw [if_pos c19] at H
        have c19b0 : (t177 == t182) = true := beq_iff_eq.mpr c19
        have c19b1 : (t177 != t182) = false := bne_eq_false_iff_eq.mpr c19
        clear c19
        (first | rw [c19b0] | (simp only [i64_w, i32_w]; rw [c19b0]) | skip)
        by_cases c20 : t177 = t187
        ·
         rw [if_pos c20] at H
         have c20b0 : (t177 == t187) = true := beq_iff_eq.mpr c20
         have c20b1 : (t177 != t187) = false := bne_eq_false_iff_eq.mpr c20
         clear c20
         by_cases c21 : (t176.length : Int) = (t181.length : Int)
         ·
          rw [if_pos c21] at H
          have c21b0 : ((t176.length : Int) == (t181.length : Int)) = true := beq_iff_eq.mpr c21
          have c21b1 : ((t176.length : Int) != (t181.length : Int)) = false := bne_eq_false_iff_eq.mpr c21
          have c21b2 : (t176.length == t181.length) = true := by first | simpa using c21 | (simp at c21 ⊢; omega)
          clear c21
          have H' := Aside0.mk H
          clear H
          obtain ⟨Ao22, co22, eo22⟩ := Kd.R_slice HO_5.out
          subst eo22
          obtain ⟨Ao23, co23, eo23⟩ := Kd.R_slice HO_8.out
          subst eo23
          obtain ⟨Ao24, co24, eo24⟩ := Kd.R_slice HO_11.out
          subst eo24
          go_wp2
          repeat (go_quiet (fail); try go_wp2)
          go_meet
          case rel => exact ⟨_, (((t176.length : Int) != (t186.length : Int))), (by first | rfl | (simp; done) | (simp [*]; done)), H', ⟨by have := HJ9.out; first | omega | exact Nat.le_refl _⟩, ⟨by (with_reducible repeat (first | apply Kd.R_alloc | apply Kd.R_drewN | apply Kd.R_drew)); exact HO_5.out⟩, ⟨by (with_reducible repeat (first | apply Kd.R_alloc | apply Kd.R_drewN | apply Kd.R_drew)); exact HO_8.out⟩, ⟨by (with_reducible repeat (first | apply Kd.R_alloc | apply Kd.R_drewN | apply Kd.R_drew)); exact HO_11.out⟩, ⟨by repeat (first | (with_reducible first | exact HB.out | apply below_alloc | apply pw_below_drewN | apply below_drew1) | exact HB.out)⟩⟩
         ·
          rw [if_neg c21] at H
          have c21b0 : ((t176.length : Int) == (t181.length : Int)) = false := beq_eq_false_iff_ne.mpr c21
          have c21b1 : ((t176.length : Int) != (t181.length : Int)) = true := bne_iff_ne.mpr c21
          have c21b2 : (t176.length == t181.length) = false := by first | simpa using c21 | (simp at c21 ⊢; omega)
          exact (kill_j1 (H.trans (congrArg some HRT.out))).elim
        ·
         rw [if_neg c20] at H
         have c20b0 : (t177 == t187) = false := beq_eq_false_iff_ne.mpr c20
         have c20b1 : (t177 != t187) = true := bne_iff_ne.mpr c20
         exact (kill_j1 (H.trans (congrArg some HRT.out))).elim
       ·
        rw [if_neg c19] at H
        have c19b0 : (t177 == t182) = false := beq_eq_false_iff_ne.mpr c19
        have c19b1 : (t177 != t182) = true := bne_iff_ne.mpr c19
        (first | rw [c19b0] | (simp only [i64_w, i32_w]; rw [c19b0]) | skip)
        exact (kill_j1 (H.trans (congrArg some HRT.out))).elim
      case rest => as_aux_lemma =>
       clear HC18
       try clear c4; try clear c5; try clear c5b0; try clear c5b1; try clear c15; try clear c16; try clear c17; try clear c19; try clear c19b0; try clear c19b1; try clear c20; try clear c20b0; try clear c20b1; try clear c21; try clear c21b0; try clear c21b1; try clear c21b2
       obtain ⟨kq, x75_17, rfl, HA, HJ17, HO_5, HO_8, HO_11, HB⟩ := hcut
       cases kq with
       | zero => exact absurd HA.out (by simp [scrimlaw16_LineMoves.j1])
       | succ kj17 =>
        have H := HA.out
        clear HA
        simp only [scrimlaw16_LineMoves.j1] at H
        by_cases c27 : x75_17 = true
        ·
         subst c27
         have H1 : (some false) = some r := by rw [if_pos rfl] at H; exact H
         exact absurd (H1.trans (congrArg some HRT.out)) (by simp)
        ·
         replace c27 := Bool.eq_false_iff.mpr c27
         subst c27
         have H1 : (scrimlaw16_LineMoves.l0 kj17 a1 t176 t181 t186 0 (t176.length : Int) 0) = some r := by rw [if_neg (show ¬ (false = true) by decide)] at H; exact H
         clear H
         have H := H1
         clear H1
         have H' := Aside0.mk H
         clear H
         obtain ⟨Ao28, co28, eo28⟩ := Kd.R_slice HO_5.out
         subst eo28
         go_wp2
         repeat (go_quiet (fail); try go_wp2)
         go_loopg [14, 78] kj17 (fun kq v14 v78 w' => ∃ (x14_3 : Int) (x78_3 : Int), v14 = .int .i64 x14_3 ∧ v78 = .int .i64 x78_3 ∧ Aside0 (scrimlaw16_LineMoves.l0 kq a1 t176 t181 t186 x14_3 (t176.length : Int) x78_3 = some r) ∧ Aside0 (kq ≤ kj17) ∧ Aside0 (Kd.R k30 30 w' w.heap.size (fun k_ => some k_ ≠ (v184 : Value).ownBlock ∧ some k_ ≠ (v189 : Value).ownBlock) (.slice Ao28 t176.length co28) t176) ∧ Aside0 (Kd.R k30 30 w' w.heap.size (fun k_ => some k_ ≠ ((.slice Ao28 t176.length co28) : Value).ownBlock ∧ some k_ ≠ (v189 : Value).ownBlock) v184 t181) ∧ Aside0 (Kd.R k30 30 w' w.heap.size (fun k_ => some k_ ≠ ((.slice Ao28 t176.length co28) : Value).ownBlock ∧ some k_ ≠ (v184 : Value).ownBlock) v189 t186) ∧ Aside0 (Below w.heap.size w w'))
         case atStart => exact ⟨(0), (0), (by first | rfl | (simp; done) | (simp [*]; done)), (by first | rfl | (simp; done) | (simp [*]; done)), H', ⟨Nat.le_refl _⟩, ⟨by (with_reducible repeat (first | apply Kd.R_alloc | apply Kd.R_drewN | apply Kd.R_drew)); exact HO_5.out⟩, ⟨by (with_reducible repeat (first | apply Kd.R_alloc | apply Kd.R_drewN | apply Kd.R_drew)); exact HO_8.out⟩, ⟨by (with_reducible repeat (first | apply Kd.R_alloc | apply Kd.R_drewN | apply Kd.R_drew)); exact HO_11.out⟩, ⟨by repeat (first | (with_reducible first | exact HB.out | apply below_alloc | apply pw_below_drewN | apply below_drew1) | exact HB.out)⟩⟩
         case round => as_aux_lemma =>
          clear H'
          try clear c4; try clear c5; try clear c5b0; try clear c5b1; try clear c15; try clear c16; try clear c17; try clear c19; try clear c19b0; try clear c19b1; try clear c20; try clear c20b0; try clear c20b1; try clear c21; try clear c21b0; try clear c21b1; try clear c21b2; try clear c27
          obtain ⟨x14_3, x78_3, rfl, rfl, HA, HK3, HO_5, HO_8, HO_11, HB⟩ := hrel
          cases gk with
          | zero => exact absurd HA.out (by simp [scrimlaw16_LineMoves.l0])
          | succ k3 =>
           have H := HA.out
           clear HA
           simp only [scrimlaw16_LineMoves.l0] at H
           by_cases c29 : x78_3 < (t176.length : Int)
           ·
            rw [if_pos c29] at H
            have c29b0 : decide (x78_3 < (t176.length : Int)) = true := decide_eq_true c29
            clear c29
            by_cases c30 : 0 ≤ x78_3
            ·
             rw [if_pos c30] at H
             have c30b0 : decide (0 ≤ x78_3) = true := decide_eq_true c30
             clear c30
             by_cases c31 : x78_3 < (t176.length : Int)
             ·
              rw [if_pos c31] at H
              have c31b0 : decide (x78_3 < (t176.length : Int)) = true := decide_eq_true c31
              clear c31
              by_cases c32 : 0 ≤ x14_3
              ·
               rw [if_pos c32] at H
               have c32b0 : decide (0 ≤ x14_3) = true := decide_eq_true c32
               clear c32
               by_cases c33 : x14_3 < (t176.length : Int)
               ·
                rw [if_pos c33] at H
                have c33b0 : decide (x14_3 < (t176.length : Int)) = true := decide_eq_true c33
                clear c33
                have HC34 := Aside0.mk H
                clear H
                have p191 : 0 ≤ (x78_3 : Int) := of_decide_eq_true (by first | (with_reducible assumption) | assumption)
                have q191 : x78_3 < (t176.length : Int) := of_decide_eq_true (by first | (with_reducible assumption) | assumption)
                obtain ⟨ad191, e191, hx191_0, hx191_1, hx191_2, hx191_3, hx191_4, hx191_5⟩ := at_T30 (Kd.R_reads' HO_5.out).2.2 x78_3 p191 q191
                cases e191
                replace p191 := eq_true p191
                replace q191 := eq_true q191
                have p192 : 0 ≤ (x14_3 : Int) := of_decide_eq_true (by first | (with_reducible assumption) | assumption)
                have q192 : x14_3 < (t176.length : Int) := of_decide_eq_true (by first | (with_reducible assumption) | assumption)
                obtain ⟨ad192, e192, hx192_0, hx192_1, hx192_2, hx192_3, hx192_4, hx192_5⟩ := at_T30 (Kd.R_reads' HO_5.out).2.2 x14_3 p192 q192
                obtain rfl : ad191 = ad192 := (by injection e192)
                replace p192 := eq_true p192
                replace q192 := eq_true q192
                go_upto_if 91 with (fail)
                repeat (go_quiet (fail); go_upto_if 91 with (fail))
                go_cut [14] (fun v14 wc => ∃ (kq : Nat) (x14_33 : Int), v14 = .int .i64 x14_33 ∧ Aside0 (scrimlaw16_LineMoves.j3 kq a1 t176 t181 t186 x14_33 x78_3 (t176.length : Int) x78_3 = some r) ∧ Aside0 (kq ≤ k3) ∧ Aside0 (Kd.R k30 30 wc w.heap.size (fun k_ => some k_ ≠ (v184 : Value).ownBlock ∧ some k_ ≠ (v189 : Value).ownBlock) (.slice (some ad191) t176.length co28) t176) ∧ Aside0 (Kd.R k30 30 wc w.heap.size (fun k_ => some k_ ≠ ((.slice (some ad191) t176.length co28) : Value).ownBlock ∧ some k_ ≠ (v189 : Value).ownBlock) v184 t181) ∧ Aside0 (Kd.R k30 30 wc w.heap.size (fun k_ => some k_ ≠ ((.slice (some ad191) t176.length co28) : Value).ownBlock ∧ some k_ ≠ (v184 : Value).ownBlock) v189 t186) ∧ Aside0 (Below w.heap.size w wc))
                case first => as_aux_lemma =>
                 have H := HC34.out
                 clear HC34
                 by_cases c35 : ((rd_T30 t176 x78_3).f1) = ((rd_T30 t176 x14_3).f1)
                 ·
                  rw [if_pos c35] at H
                  have c35b0 : (((rd_T30 t176 x78_3).f1) == ((rd_T30 t176 x14_3).f1)) = true := beq_iff_eq.mpr c35
                  have c35b1 : (((rd_T30 t176 x78_3).f1) != ((rd_T30 t176 x14_3).f1)) = false := bne_eq_false_iff_eq.mpr c35
                  clear c35
                  (first | rw [c35b0] | (simp only [i64_w, i32_w]; rw [c35b0]) | skip)
                  have H' := Aside0.mk H
                  clear H
                  go_wp2
                  repeat (go_quiet (fail); try go_wp2)
                  go_meet
                  case rel => exact ⟨_, (x14_3), (by first | rfl | (simp; done) | (simp [*]; done)), H', ⟨by have := HJ9.out; have := HJ17.out; have := HK3.out; first | omega | exact Nat.le_refl _⟩, ⟨by (with_reducible repeat (first | apply Kd.R_alloc | apply Kd.R_drewN | apply Kd.R_drew)); exact HO_5.out⟩, ⟨by (with_reducible repeat (first | apply Kd.R_alloc | apply Kd.R_drewN | apply Kd.R_drew)); exact HO_8.out⟩, ⟨by (with_reducible repeat (first | apply Kd.R_alloc | apply Kd.R_drewN | apply Kd.R_drew)); exact HO_11.out⟩, ⟨by repeat (first | (with_reducible first | exact HB.out | apply below_alloc | apply pw_below_drewN | apply below_drew1) | exact HB.out)⟩⟩
                 ·
                  rw [if_neg c35] at H
                  have c35b0 : (((rd_T30 t176 x78_3).f1) == ((rd_T30 t176 x14_3).f1)) = false := beq_eq_false_iff_ne.mpr c35
                  have c35b1 : (((rd_T30 t176 x78_3).f1) != ((rd_T30 t176 x14_3).f1)) = true := bne_iff_ne.mpr c35
                  (first | rw [c35b0] | (simp only [i64_w, i32_w]; rw [c35b0]) | skip)
                  have H' := Aside0.mk H
                  clear H
                  go_wp2
                  repeat (go_quiet (fail); try go_wp2)
                  go_meet
                  case rel => exact ⟨_, (x78_3), (by first | rfl | (simp; done) | (simp [*]; done)), H', ⟨by have := HJ9.out; have := HJ17.out; have := HK3.out; first | omega | exact Nat.le_refl _⟩, ⟨by (with_reducible repeat (first | apply Kd.R_alloc | apply Kd.R_drewN | apply Kd.R_drew)); exact HO_5.out⟩, ⟨by (with_reducible repeat (first | apply Kd.R_alloc | apply Kd.R_drewN | apply Kd.R_drew)); exact HO_8.out⟩, ⟨by (with_reducible repeat (first | apply Kd.R_alloc | apply Kd.R_drewN | apply Kd.R_drew)); exact HO_11.out⟩, ⟨by repeat (first | (with_reducible first | exact HB.out | apply below_alloc | apply pw_below_drewN | apply below_drew1) | exact HB.out)⟩⟩
                case rest => as_aux_lemma =>
                 clear HC34
                 try clear c4; try clear c5; try clear c5b0; try clear c5b1; try clear c15; try clear c16; try clear c17; try clear c19; try clear c19b0; try clear c19b1; try clear c20; try clear c20b0; try clear c20b1; try clear c21; try clear c21b0; try clear c21b1; try clear c21b2; try clear c27; try clear c29; try clear c29b0; try clear c30; try clear c30b0; try clear c31; try clear c31b0; try clear c32; try clear c32b0; try clear c33; try clear c33b0; try clear c35; try clear c35b0; try clear c35b1; try clear hx191_0; try clear hx191_1; try clear hx191_2; try clear hx191_3; try clear hx191_4; try clear hx191_5; try clear hx192_0; try clear hx192_1; try clear hx192_2; try clear hx192_3; try clear hx192_4; try clear hx192_5; try clear p191; try clear p192; try clear q191; try clear q192
                 obtain ⟨kq, x14_33, rfl, HA, HJ33, HO_5, HO_8, HO_11, HB⟩ := hcut
                 cases kq with
                 | zero => exact absurd HA.out (by simp [scrimlaw16_LineMoves.j3])
                 | succ kj33 =>
                  have H := HA.out
                  clear HA
                  simp only [scrimlaw16_LineMoves.j3] at H
                  by_cases c36 : 0 ≤ x78_3
                  ·
                   rw [if_pos c36] at H
                   have c36b0 : decide (0 ≤ x78_3) = true := decide_eq_true c36
                   clear c36
                   by_cases c37 : x78_3 < (t186.length : Int)
                   ·
                    rw [if_pos c37] at H
                    have c37b0 : decide (x78_3 < (t186.length : Int)) = true := decide_eq_true c37
                    clear c37
                    by_cases c38 : x78_3 < (t176.length : Int)
                    ·
                     rw [if_pos c38] at H
                     have c38b0 : decide (x78_3 < (t176.length : Int)) = true := decide_eq_true c38
                     clear c38
                     have HC39 := Aside0.mk H
                     clear H
                     obtain ⟨Ao40, co40, eo40⟩ := Kd.R_slice HO_11.out
                     subst eo40
                     have p193 : 0 ≤ (x78_3 : Int) := of_decide_eq_true (by first | (with_reducible assumption) | assumption)
                     have q193 : x78_3 < (t186.length : Int) := of_decide_eq_true (by first | (with_reducible assumption) | assumption)
                     obtain ⟨ad193, e193, hx193_0, hx193_1, hx193_2, hx193_3, hx193_4, hx193_5⟩ := at_T30 (Kd.R_reads' HO_11.out).2.2 x78_3 p193 q193
                     cases e193
                     replace p193 := eq_true p193
                     replace q193 := eq_true q193
                     have p194 : 0 ≤ (x78_3 : Int) := of_decide_eq_true (by first | (with_reducible assumption) | assumption)
                     have q194 : x78_3 < (t176.length : Int) := of_decide_eq_true (by first | (with_reducible assumption) | assumption)
                     obtain ⟨ad194, e194, hx194_0, hx194_1, hx194_2, hx194_3, hx194_4, hx194_5⟩ := at_T30 (Kd.R_reads' HO_5.out).2.2 x78_3 p194 q194
                     obtain rfl : ad191 = ad194 := (by injection e194)
                     replace p194 := eq_true p194
                     replace q194 := eq_true q194
                     go_upto_region 19 with (fail)
                     repeat (go_quiet (fail); go_upto_region 19 with (fail))
                     go_cut [190] (fun v190 wc => ∃ (kq : Nat) (x190_38 : Bool), v190 = .bool x190_38 ∧ Aside0 (scrimlaw16_LineMoves.j4 kq a1 t176 t181 t186 x14_33 x78_3 (wrap64 (((rd_T30 t186 x78_3).f2.f0) - ((rd_T30 t176 x78_3).f2.f0))) (t176.length : Int) x78_3 x190_38 = some r) ∧ Aside0 (kq ≤ kj33) ∧ Aside0 (Kd.R k30 30 wc w.heap.size (fun k_ => some k_ ≠ (v184 : Value).ownBlock ∧ some k_ ≠ ((.slice (some ad193) t186.length co40) : Value).ownBlock) (.slice (some ad191) t176.length co28) t176) ∧ Aside0 (Kd.R k30 30 wc w.heap.size (fun k_ => some k_ ≠ ((.slice (some ad191) t176.length co28) : Value).ownBlock ∧ some k_ ≠ ((.slice (some ad193) t186.length co40) : Value).ownBlock) v184 t181) ∧ Aside0 (Kd.R k30 30 wc w.heap.size (fun k_ => some k_ ≠ ((.slice (some ad191) t176.length co28) : Value).ownBlock ∧ some k_ ≠ (v184 : Value).ownBlock) (.slice (some ad193) t186.length co40) t186) ∧ Aside0 (Below w.heap.size w wc))
                     case first => as_aux_lemma =>
                      have H := HC39.out
                      clear HC39
                      by_cases c41 : 0 ≤ x14_33
                      ·
                       rw [if_pos c41] at H
                       have c41b0 : decide (0 ≤ x14_33) = true := decide_eq_true c41
                       clear c41
                       (first | rw [c41b0] | (simp only [i64_w, i32_w]; rw [c41b0]) | skip)
                       by_cases c42 : x14_33 < (t176.length : Int)
                       ·
                        rw [if_pos c42] at H
                        have c42b0 : decide (x14_33 < (t176.length : Int)) = true := decide_eq_true c42
                        clear c42
                        by_cases c43 : ((rd_T30 t176 x14_33).f2.f0) = 0
                        ·
                         rw [if_pos c43] at H
                         have c43b0 : (((rd_T30 t176 x14_33).f2.f0) == 0) = true := beq_iff_eq.mpr c43
                         have c43b1 : (((rd_T30 t176 x14_33).f2.f0) != 0) = false := bne_eq_false_iff_eq.mpr c43
                         clear c43
                         by_cases c44 : (wrap64 (((rd_T30 t186 x78_3).f2.f0) - ((rd_T30 t176 x78_3).f2.f0))) < 0
                         ·
                          rw [if_pos c44] at H
                          have c44b0 : decide ((wrap64 (((rd_T30 t186 x78_3).f2.f0) - ((rd_T30 t176 x78_3).f2.f0))) < 0) = true := decide_eq_true c44
                          clear c44
                          exact (kill_j4 (H.trans (congrArg some HRT.out))).elim
                         ·
                          rw [if_neg c44] at H
                          have c44b0 : decide ((wrap64 (((rd_T30 t186 x78_3).f2.f0) - ((rd_T30 t176 x78_3).f2.f0))) < 0) = false := decide_eq_false c44
                          clear c44
                          by_cases c45 : x78_3 < (t181.length : Int)
                          ·
                           rw [if_pos c45] at H
                           have c45b0 : decide (x78_3 < (t181.length : Int)) = true := decide_eq_true c45
                           clear c45
                           by_cases c46 : (wrap64 (((rd_T30 t181 x78_3).f2.f0) - ((rd_T30 t176 x78_3).f2.f0))) = (wrap64 (Int.tdiv (wrap64 (((rd_T30 t186 x78_3).f2.f0) - ((rd_T30 t176 x78_3).f2.f0))) 2))
                           ·
                            rw [if_pos c46] at H
                            have c46b0 : ((wrap64 (((rd_T30 t181 x78_3).f2.f0) - ((rd_T30 t176 x78_3).f2.f0))) == (wrap64 (Int.tdiv (wrap64 (((rd_T30 t186 x78_3).f2.f0) - ((rd_T30 t176 x78_3).f2.f0))) 2))) = true := beq_iff_eq.mpr c46
                            have c46b1 : ((wrap64 (((rd_T30 t181 x78_3).f2.f0) - ((rd_T30 t176 x78_3).f2.f0))) != (wrap64 (Int.tdiv (wrap64 (((rd_T30 t186 x78_3).f2.f0) - ((rd_T30 t176 x78_3).f2.f0))) 2))) = false := bne_eq_false_iff_eq.mpr c46
                            clear c46
                            by_cases c47 : ((rd_T30 t176 x78_3).f2.f1) = ((rd_T30 t181 x78_3).f2.f1)
                            ·
                             rw [if_pos c47] at H
                             have c47b0 : (((rd_T30 t176 x78_3).f2.f1) == ((rd_T30 t181 x78_3).f2.f1)) = true := beq_iff_eq.mpr c47
                             have c47b1 : (((rd_T30 t176 x78_3).f2.f1) != ((rd_T30 t181 x78_3).f2.f1)) = false := bne_eq_false_iff_eq.mpr c47
                             clear c47
                             by_cases c48 : ((rd_T30 t176 x78_3).f2.f1) = ((rd_T30 t186 x78_3).f2.f1)
                             ·
                              rw [if_pos c48] at H
                              have c48b0 : (((rd_T30 t176 x78_3).f2.f1) == ((rd_T30 t186 x78_3).f2.f1)) = true := beq_iff_eq.mpr c48
                              have c48b1 : (((rd_T30 t176 x78_3).f2.f1) != ((rd_T30 t186 x78_3).f2.f1)) = false := bne_eq_false_iff_eq.mpr c48
                              clear c48
                              by_cases c49 : ((rd_T30 t176 x78_3).f1) = ((rd_T30 t181 x78_3).f1)
                              ·
                               rw [if_pos c49] at H
                               have c49b0 : (((rd_T30 t176 x78_3).f1) == ((rd_T30 t181 x78_3).f1)) = true := beq_iff_eq.mpr c49
                               have c49b1 : (((rd_T30 t176 x78_3).f1) != ((rd_T30 t181 x78_3).f1)) = false := bne_eq_false_iff_eq.mpr c49
                               clear c49
                               have H' := Aside0.mk H
                               clear H
                               have p195 : 0 ≤ (x14_33 : Int) := of_decide_eq_true (by first | (with_reducible assumption) | assumption)
                               have q195 : x14_33 < (t176.length : Int) := of_decide_eq_true (by first | (with_reducible assumption) | assumption)
                               obtain ⟨ad195, e195, hx195_0, hx195_1, hx195_2, hx195_3, hx195_4, hx195_5⟩ := at_T30 (Kd.R_reads' HO_5.out).2.2 x14_33 p195 q195
                               obtain rfl : ad191 = ad195 := (by injection e195)
                               replace p195 := eq_true p195
                               replace q195 := eq_true q195
                               obtain ⟨Ao50, co50, eo50⟩ := Kd.R_slice HO_8.out
                               subst eo50
                               have p196 : 0 ≤ (x78_3 : Int) := of_decide_eq_true (by first | (with_reducible assumption) | assumption)
                               have q196 : x78_3 < (t181.length : Int) := of_decide_eq_true (by first | (with_reducible assumption) | assumption)
                               obtain ⟨ad196, e196, hx196_0, hx196_1, hx196_2, hx196_3, hx196_4, hx196_5⟩ := at_T30 (Kd.R_reads' HO_8.out).2.2 x78_3 p196 q196
                               cases e196
                               replace p196 := eq_true p196
                               replace q196 := eq_true q196
                               have p197 : 0 ≤ (x78_3 : Int) := of_decide_eq_true (by first | (with_reducible assumption) | assumption)
                               have q197 : x78_3 < (t176.length : Int) := of_decide_eq_true (by first | (with_reducible assumption) | assumption)
                               obtain ⟨ad197, e197, hx197_0, hx197_1, hx197_2, hx197_3, hx197_4, hx197_5⟩ := at_T30 (Kd.R_reads' HO_5.out).2.2 x78_3 p197 q197
                               obtain rfl : ad191 = ad197 := (by injection e197)
                               replace p197 := eq_true p197
                               replace q197 := eq_true q197
                               have p198 : 0 ≤ (x78_3 : Int) := of_decide_eq_true (by first | (with_reducible assumption) | assumption)
                               have q198 : x78_3 < (t176.length : Int) := of_decide_eq_true (by first | (with_reducible assumption) | assumption)
                               obtain ⟨ad198, e198, hx198_0, hx198_1, hx198_2, hx198_3, hx198_4, hx198_5⟩ := at_T30 (Kd.R_reads' HO_5.out).2.2 x78_3 p198 q198
                               obtain rfl : ad191 = ad198 := (by injection e198)
                               replace p198 := eq_true p198
                               replace q198 := eq_true q198
                               have p199 : 0 ≤ (x78_3 : Int) := of_decide_eq_true (by first | (with_reducible assumption) | assumption)
                               have q199 : x78_3 < (t181.length : Int) := of_decide_eq_true (by first | (with_reducible assumption) | assumption)
                               obtain ⟨ad199, e199, hx199_0, hx199_1, hx199_2, hx199_3, hx199_4, hx199_5⟩ := at_T30 (Kd.R_reads' HO_8.out).2.2 x78_3 p199 q199
                               obtain rfl : ad196 = ad199 := (by injection e199)
                               replace p199 := eq_true p199
                               replace q199 := eq_true q199
                               have p200 : 0 ≤ (x78_3 : Int) := of_decide_eq_true (by first | (with_reducible assumption) | assumption)
                               have q200 : x78_3 < (t176.length : Int) := of_decide_eq_true (by first | (with_reducible assumption) | assumption)
                               obtain ⟨ad200, e200, hx200_0, hx200_1, hx200_2, hx200_3, hx200_4, hx200_5⟩ := at_T30 (Kd.R_reads' HO_5.out).2.2 x78_3 p200 q200
                               obtain rfl : ad191 = ad200 := (by injection e200)
                               replace p200 := eq_true p200
                               replace q200 := eq_true q200
                               have p201 : 0 ≤ (x78_3 : Int) := of_decide_eq_true (by first | (with_reducible assumption) | assumption)
                               have q201 : x78_3 < (t186.length : Int) := of_decide_eq_true (by first | (with_reducible assumption) | assumption)
                               obtain ⟨ad201, e201, hx201_0, hx201_1, hx201_2, hx201_3, hx201_4, hx201_5⟩ := at_T30 (Kd.R_reads' HO_11.out).2.2 x78_3 p201 q201
                               obtain rfl : ad193 = ad201 := (by injection e201)
                               replace p201 := eq_true p201
                               replace q201 := eq_true q201
                               have p202 : 0 ≤ (x78_3 : Int) := of_decide_eq_true (by first | (with_reducible assumption) | assumption)
                               have q202 : x78_3 < (t176.length : Int) := of_decide_eq_true (by first | (with_reducible assumption) | assumption)
                               obtain ⟨ad202, e202, hx202_0, hx202_1, hx202_2, hx202_3, hx202_4, hx202_5⟩ := at_T30 (Kd.R_reads' HO_5.out).2.2 x78_3 p202 q202
                               obtain rfl : ad191 = ad202 := (by injection e202)
                               replace p202 := eq_true p202
                               replace q202 := eq_true q202
                               have p203 : 0 ≤ (x78_3 : Int) := of_decide_eq_true (by first | (with_reducible assumption) | assumption)
                               have q203 : x78_3 < (t181.length : Int) := of_decide_eq_true (by first | (with_reducible assumption) | assumption)
                               obtain ⟨ad203, e203, hx203_0, hx203_1, hx203_2, hx203_3, hx203_4, hx203_5⟩ := at_T30 (Kd.R_reads' HO_8.out).2.2 x78_3 p203 q203
                               obtain rfl : ad196 = ad203 := (by injection e203)
                               replace p203 := eq_true p203
                               replace q203 := eq_true q203
                               have p204 : 0 ≤ (x78_3 : Int) := of_decide_eq_true (by first | (with_reducible assumption) | assumption)
                               have q204 : x78_3 < (t176.length : Int) := of_decide_eq_true (by first | (with_reducible assumption) | assumption)
                               obtain ⟨ad204, e204, hx204_0, hx204_1, hx204_2, hx204_3, hx204_4, hx204_5⟩ := at_T30 (Kd.R_reads' HO_5.out).2.2 x78_3 p204 q204
                               obtain rfl : ad191 = ad204 := (by injection e204)
                               replace p204 := eq_true p204
                               replace q204 := eq_true q204
                               have p205 : 0 ≤ (x78_3 : Int) := of_decide_eq_true (by first | (with_reducible assumption) | assumption)
                               have q205 : x78_3 < (t186.length : Int) := of_decide_eq_true (by first | (with_reducible assumption) | assumption)
                               obtain ⟨ad205, e205, hx205_0, hx205_1, hx205_2, hx205_3, hx205_4, hx205_5⟩ := at_T30 (Kd.R_reads' HO_11.out).2.2 x78_3 p205 q205
                               obtain rfl : ad193 = ad205 := (by injection e205)
                               replace p205 := eq_true p205
                               replace q205 := eq_true q205
                               go_wp2
                               repeat (go_quiet (fail); try go_wp2)
                               go_meet
                               case rel => exact ⟨_, ((((rd_T30 t176 x78_3).f1) != ((rd_T30 t186 x78_3).f1))), (by first | rfl | (simp; done) | (simp [*]; done)), H', ⟨by have := HJ9.out; have := HJ17.out; have := HK3.out; have := HJ33.out; first | omega | exact Nat.le_refl _⟩, ⟨by (with_reducible repeat (first | apply Kd.R_alloc | apply Kd.R_drewN | apply Kd.R_drew)); exact HO_5.out⟩, ⟨by (with_reducible repeat (first | apply Kd.R_alloc | apply Kd.R_drewN | apply Kd.R_drew)); exact HO_8.out⟩, ⟨by (with_reducible repeat (first | apply Kd.R_alloc | apply Kd.R_drewN | apply Kd.R_drew)); exact HO_11.out⟩, ⟨by repeat (first | (with_reducible first | exact HB.out | apply below_alloc | apply pw_below_drewN | apply below_drew1) | exact HB.out)⟩⟩
                              ·
                               rw [if_neg c49] at H
                               have c49b0 : (((rd_T30 t176 x78_3).f1) == ((rd_T30 t181 x78_3).f1)) = false := beq_eq_false_iff_ne.mpr c49
                               have c49b1 : (((rd_T30 t176 x78_3).f1) != ((rd_T30 t181 x78_3).f1)) = true := bne_iff_ne.mpr c49
                               exact (kill_j4 (H.trans (congrArg some HRT.out))).elim
                             ·
                              rw [if_neg c48] at H
                              have c48b0 : (((rd_T30 t176 x78_3).f2.f1) == ((rd_T30 t186 x78_3).f2.f1)) = false := beq_eq_false_iff_ne.mpr c48
                              have c48b1 : (((rd_T30 t176 x78_3).f2.f1) != ((rd_T30 t186 x78_3).f2.f1)) = true := bne_iff_ne.mpr c48
                              exact (kill_j4 (H.trans (congrArg some HRT.out))).elim
                            ·
                             rw [if_neg c47] at H
                             have c47b0 : (((rd_T30 t176 x78_3).f2.f1) == ((rd_T30 t181 x78_3).f2.f1)) = false := beq_eq_false_iff_ne.mpr c47
                             have c47b1 : (((rd_T30 t176 x78_3).f2.f1) != ((rd_T30 t181 x78_3).f2.f1)) = true := bne_iff_ne.mpr c47
                             exact (kill_j4 (H.trans (congrArg some HRT.out))).elim
                           ·
                            rw [if_neg c46] at H
                            have c46b0 : ((wrap64 (((rd_T30 t181 x78_3).f2.f0) - ((rd_T30 t176 x78_3).f2.f0))) == (wrap64 (Int.tdiv (wrap64 (((rd_T30 t186 x78_3).f2.f0) - ((rd_T30 t176 x78_3).f2.f0))) 2))) = false := beq_eq_false_iff_ne.mpr c46
                            have c46b1 : ((wrap64 (((rd_T30 t181 x78_3).f2.f0) - ((rd_T30 t176 x78_3).f2.f0))) != (wrap64 (Int.tdiv (wrap64 (((rd_T30 t186 x78_3).f2.f0) - ((rd_T30 t176 x78_3).f2.f0))) 2))) = true := bne_iff_ne.mpr c46
                            exact (kill_j4 (H.trans (congrArg some HRT.out))).elim
                          ·
                           rw [if_neg c45] at H
                           exact absurd H (by simp)
                        ·
                         rw [if_neg c43] at H
                         have c43b0 : (((rd_T30 t176 x14_33).f2.f0) == 0) = false := beq_eq_false_iff_ne.mpr c43
                         have c43b1 : (((rd_T30 t176 x14_33).f2.f0) != 0) = true := bne_iff_ne.mpr c43
                         exact (kill_j4 (H.trans (congrArg some HRT.out))).elim
                       ·
                        rw [if_neg c42] at H
                        exact absurd H (by simp)
                      ·
                       rw [if_neg c41] at H
                       exact absurd H (by simp)
                     case rest => as_aux_lemma =>
                      clear HC39
                      try clear c4; try clear c5; try clear c5b0; try clear c5b1; try clear c15; try clear c16; try clear c17; try clear c19; try clear c19b0; try clear c19b1; try clear c20; try clear c20b0; try clear c20b1; try clear c21; try clear c21b0; try clear c21b1; try clear c21b2; try clear c27; try clear c29; try clear c29b0; try clear c30; try clear c30b0; try clear c31; try clear c31b0; try clear c32; try clear c32b0; try clear c33; try clear c33b0; try clear c35; try clear c35b0; try clear c35b1; try clear c36; try clear c36b0; try clear c37; try clear c37b0; try clear c38; try clear c38b0; try clear c41; try clear c41b0; try clear c42; try clear c42b0; try clear c43; try clear c43b0; try clear c43b1; try clear c44; try clear c44b0; try clear c45; try clear c45b0; try clear c46; try clear c46b0; try clear c46b1; try clear c47; try clear c47b0; try clear c47b1; try clear c48; try clear c48b0; try clear c48b1; try clear c49; try clear c49b0; try clear c49b1; try clear hx191_0; try clear hx191_1; try clear hx191_2; try clear hx191_3; try clear hx191_4; try clear hx191_5; try clear hx192_0; try clear hx192_1; try clear hx192_2; try clear hx192_3; try clear hx192_4; try clear hx192_5; try clear hx193_0; try clear hx193_1; try clear hx193_2; try clear hx193_3; try clear hx193_4; try clear hx193_5; try clear hx194_0; try clear hx194_1; try clear hx194_2; try clear hx194_3; try clear hx194_4; try clear hx194_5; try clear hx195_0; try clear hx195_1; try clear hx195_2; try clear hx195_3; try clear hx195_4; try clear hx195_5; try clear hx196_0; try clear hx196_1; try clear hx196_2; try clear hx196_3; try clear hx196_4; try clear hx196_5; try clear hx197_0; try clear hx197_1; try clear hx197_2; try clear hx197_3; try clear hx197_4; try clear hx197_5; try clear hx198_0; try clear hx198_1; try clear hx198_2; try clear hx198_3; try clear hx198_4; try clear hx198_5; try clear hx199_0; try clear hx199_1; try clear hx199_2; try clear hx199_3; try clear hx199_4; try clear hx199_5; try clear hx200_0; try clear hx200_1; try clear hx200_2; try clear hx200_3; try clear hx200_4; try clear hx200_5; try clear hx201_0; try clear hx201_1; try clear hx201_2; try clear hx201_3; try clear hx201_4; try clear hx201_5; try clear hx202_0; try clear hx202_1; try clear hx202_2; try clear hx202_3; try clear hx202_4; try clear hx202_5; try clear hx203_0; try clear hx203_1; try clear hx203_2; try clear hx203_3; try clear hx203_4; try clear hx203_5; try clear hx204_0; try clear hx204_1; try clear hx204_2; try clear hx204_3; try clear hx204_4; try clear hx204_5; try clear hx205_0; try clear hx205_1; try clear hx205_2; try clear hx205_3; try clear hx205_4; try clear hx205_5; try clear p191; try clear p192; try clear p193; try clear p194; try clear p195; try clear p196; try clear p197; try clear p198; try clear p199; try clear p200; try clear p201; try clear p202; try clear p203; try clear p204; try clear p205; try clear q191; try clear q192; try clear q193; try clear q194; try clear q195; try clear q196; try clear q197; try clear q198; try clear q199; try clear q200; try clear q201; try clear q202; try clear q203; try clear q204; try clear q205
                      obtain ⟨kq, x190_38, rfl, HA, HJ38, HO_5, HO_8, HO_11, HB⟩ := hcut
                      cases kq with
                      | zero => exact absurd HA.out (by simp [scrimlaw16_LineMoves.j4])
                      | succ kj38 =>
                       have H := HA.out
                       clear HA
                       simp only [scrimlaw16_LineMoves.j4] at H
                       by_cases c55 : x190_38 = true
                       ·
                        subst c55
                        have H1 : (some false) = some r := by rw [if_pos rfl] at H; exact H
                        exact absurd (H1.trans (congrArg some HRT.out)) (by simp)
                       ·
                        replace c55 := Bool.eq_false_iff.mpr c55
                        subst c55
                        have H1 : (if (wrap64 (x78_3 + 1)) = (t176.length : Int) then (scrimlaw16_LineMoves.j5 kj38 a1 t176 t181 t186 x14_33 x78_3 (wrap64 (((rd_T30 t186 x78_3).f2.f0) - ((rd_T30 t176 x78_3).f2.f0))) (t176.length : Int) x78_3 true) else (if 0 ≤ (wrap64 (x78_3 + 1)) then (if (wrap64 (x78_3 + 1)) < (t176.length : Int) then (if 0 ≤ x78_3 then (if x78_3 < (t176.length : Int) then (scrimlaw16_LineMoves.j5 kj38 a1 t176 t181 t186 x14_33 x78_3 (wrap64 (((rd_T30 t186 x78_3).f2.f0) - ((rd_T30 t176 x78_3).f2.f0))) (t176.length : Int) x78_3 (((rd_T30 t176 (wrap64 (x78_3 + 1))).f1) != ((rd_T30 t176 x78_3).f1))) else (none)) else (none)) else (none)) else (none))) = some r := by rw [if_neg (show ¬ (false = true) by decide)] at H; exact H
                        clear H
                        have H := H1
                        clear H1
                        have HC56 := Aside0.mk H
                        clear H
                        go_upto_region 21 with (fail)
                        repeat (go_quiet (fail); go_upto_region 21 with (fail))
                        go_cut [209] (fun v209 wc => ∃ (kq : Nat) (x209_55 : Bool), v209 = .bool x209_55 ∧ Aside0 (scrimlaw16_LineMoves.j5 kq a1 t176 t181 t186 x14_33 x78_3 (wrap64 (((rd_T30 t186 x78_3).f2.f0) - ((rd_T30 t176 x78_3).f2.f0))) (t176.length : Int) x78_3 x209_55 = some r) ∧ Aside0 (kq ≤ kj38) ∧ Aside0 (Kd.R k30 30 wc w.heap.size (fun k_ => some k_ ≠ (v184 : Value).ownBlock ∧ some k_ ≠ ((.slice (some ad193) t186.length co40) : Value).ownBlock) (.slice (some ad191) t176.length co28) t176) ∧ Aside0 (Kd.R k30 30 wc w.heap.size (fun k_ => some k_ ≠ ((.slice (some ad191) t176.length co28) : Value).ownBlock ∧ some k_ ≠ ((.slice (some ad193) t186.length co40) : Value).ownBlock) v184 t181) ∧ Aside0 (Kd.R k30 30 wc w.heap.size (fun k_ => some k_ ≠ ((.slice (some ad191) t176.length co28) : Value).ownBlock ∧ some k_ ≠ (v184 : Value).ownBlock) (.slice (some ad193) t186.length co40) t186) ∧ Aside0 (Below w.heap.size w wc))
                        case first => as_aux_lemma =>
                         have H := HC56.out
                         clear HC56
                         by_cases c57 : (wrap64 (x78_3 + 1)) = (t176.length : Int)
                         ·
                          rw [if_pos c57] at H
                          have c57b0 : ((wrap64 (x78_3 + 1)) == (t176.length : Int)) = true := beq_iff_eq.mpr c57
                          have c57b1 : ((wrap64 (x78_3 + 1)) != (t176.length : Int)) = false := bne_eq_false_iff_eq.mpr c57
                          clear c57
                          (first | rw [c57b0] | (simp only [i64_w, i32_w]; rw [c57b0]) | skip)
                          have H' := Aside0.mk H
                          clear H
                          go_wp2
                          repeat (go_quiet (fail); try go_wp2)
                          go_meet
                          case rel => exact ⟨_, (true), (by first | rfl | (simp; done) | (simp [*]; done)), H', ⟨by have := HJ9.out; have := HJ17.out; have := HK3.out; have := HJ33.out; have := HJ38.out; first | omega | exact Nat.le_refl _⟩, ⟨by (with_reducible repeat (first | apply Kd.R_alloc | apply Kd.R_drewN | apply Kd.R_drew)); exact HO_5.out⟩, ⟨by (with_reducible repeat (first | apply Kd.R_alloc | apply Kd.R_drewN | apply Kd.R_drew)); exact HO_8.out⟩, ⟨by (with_reducible repeat (first | apply Kd.R_alloc | apply Kd.R_drewN | apply Kd.R_drew)); exact HO_11.out⟩, ⟨by repeat (first | (with_reducible first | exact HB.out | apply below_alloc | apply pw_below_drewN | apply below_drew1) | exact HB.out)⟩⟩
                         ·
                          rw [if_neg c57] at H
                          have c57b0 : ((wrap64 (x78_3 + 1)) == (t176.length : Int)) = false := beq_eq_false_iff_ne.mpr c57
                          have c57b1 : ((wrap64 (x78_3 + 1)) != (t176.length : Int)) = true := bne_iff_ne.mpr c57
                          (first | rw [c57b0] | (simp only [i64_w, i32_w]; rw [c57b0]) | skip)
                          obtain ⟨ji58, hji58⟩ : ∃ j_ : Int, (wrap64 (x78_3 + 1)) = j_ := ⟨_, rfl⟩
                          replace H : (if 0 ≤ (ji58) then (if (ji58) < (t176.length : Int) then (if 0 ≤ x78_3 then (if x78_3 < (t176.length : Int) then (scrimlaw16_LineMoves.j5 kj38 a1 t176 t181 t186 x14_33 x78_3 (wrap64 (((rd_T30 t186 x78_3).f2.f0) - ((rd_T30 t176 x78_3).f2.f0))) (t176.length : Int) x78_3 (((rd_T30 t176 (ji58)).f1) != ((rd_T30 t176 x78_3).f1))) else (none)) else (none)) else (none)) else (none)) = some r := by first | (rw [hji58] at H; exact H) | (simp only [hji58] at H ⊢; exact H)
                          (try rw [hji58] at c57b0)
                          (try rw [hji58] at c57b1)
                          have hji58w : (IntKind.i64.wrap (x78_3 + 1)) = ji58 := (i64_w _).trans hji58
                          by_cases c59 : 0 ≤ (ji58)
                          ·
                           rw [if_pos c59] at H
                           have c59b0 : decide (0 ≤ (ji58)) = true := decide_eq_true c59
                           clear c59
                           by_cases c60 : (ji58) < (t176.length : Int)
                           ·
                            rw [if_pos c60] at H
                            have c60b0 : decide ((ji58) < (t176.length : Int)) = true := decide_eq_true c60
                            clear c60
                            by_cases c61 : 0 ≤ x78_3
                            ·
                             rw [if_pos c61] at H
                             have c61b0 : decide (0 ≤ x78_3) = true := decide_eq_true c61
                             clear c61
                             by_cases c62 : x78_3 < (t176.length : Int)
                             ·
                              rw [if_pos c62] at H
                              have c62b0 : decide (x78_3 < (t176.length : Int)) = true := decide_eq_true c62
                              clear c62
                              have H' := Aside0.mk H
                              clear H
                              have p206 : 0 ≤ ((ji58) : Int) := of_decide_eq_true (by first | (with_reducible assumption) | assumption)
                              have q206 : (ji58) < (t176.length : Int) := of_decide_eq_true (by first | (with_reducible assumption) | assumption)
                              obtain ⟨ad206, e206, hx206_0, hx206_1, hx206_2, hx206_3, hx206_4, hx206_5⟩ := at_T30 (Kd.R_reads' HO_5.out).2.2 (ji58) p206 q206
                              obtain rfl : ad191 = ad206 := (by injection e206)
                              replace p206 := eq_true p206
                              replace q206 := eq_true q206
                              have p207 : 0 ≤ (x78_3 : Int) := of_decide_eq_true (by first | (with_reducible assumption) | assumption)
                              have q207 : x78_3 < (t176.length : Int) := of_decide_eq_true (by first | (with_reducible assumption) | assumption)
                              obtain ⟨ad207, e207, hx207_0, hx207_1, hx207_2, hx207_3, hx207_4, hx207_5⟩ := at_T30 (Kd.R_reads' HO_5.out).2.2 x78_3 p207 q207
                              obtain rfl : ad191 = ad207 := (by injection e207)
                              replace p207 := eq_true p207
                              replace q207 := eq_true q207
                              go_wp2
                              repeat (go_quiet (fail); try go_wp2)
                              go_meet
                              case rel => exact ⟨_, ((((rd_T30 t176 (ji58)).f1) != ((rd_T30 t176 x78_3).f1))), (by first | rfl | (simp; done) | (simp only [← hji58] <;> (first | rfl | simp)) | (simp [*]; done)), H', ⟨by have := HJ9.out; have := HJ17.out; have := HK3.out; have := HJ33.out; have := HJ38.out; first | omega | exact Nat.le_refl _⟩, ⟨by (with_reducible repeat (first | apply Kd.R_alloc | apply Kd.R_drewN | apply Kd.R_drew)); exact HO_5.out⟩, ⟨by (with_reducible repeat (first | apply Kd.R_alloc | apply Kd.R_drewN | apply Kd.R_drew)); exact HO_8.out⟩, ⟨by (with_reducible repeat (first | apply Kd.R_alloc | apply Kd.R_drewN | apply Kd.R_drew)); exact HO_11.out⟩, ⟨by repeat (first | (with_reducible first | exact HB.out | apply below_alloc | apply pw_below_drewN | apply below_drew1) | exact HB.out)⟩⟩
                             ·
                              rw [if_neg c62] at H
                              exact absurd H (by simp)
                            ·
                             rw [if_neg c61] at H
                             exact absurd H (by simp)
                           ·
                            rw [if_neg c60] at H
                            exact absurd H (by simp)
                          ·
                           rw [if_neg c59] at H
                           exact absurd H (by simp)
                        case rest => as_aux_lemma =>
                         clear HC56
                         try clear c4; try clear c5; try clear c5b0; try clear c5b1; try clear c15; try clear c16; try clear c17; try clear c19; try clear c19b0; try clear c19b1; try clear c20; try clear c20b0; try clear c20b1; try clear c21; try clear c21b0; try clear c21b1; try clear c21b2; try clear c27; try clear c29; try clear c29b0; try clear c30; try clear c30b0; try clear c31; try clear c31b0; try clear c32; try clear c32b0; try clear c33; try clear c33b0; try clear c35; try clear c35b0; try clear c35b1; try clear c36; try clear c36b0; try clear c37; try clear c37b0; try clear c38; try clear c38b0; try clear c41; try clear c41b0; try clear c42; try clear c42b0; try clear c43; try clear c43b0; try clear c43b1; try clear c44; try clear c44b0; try clear c45; try clear c45b0; try clear c46; try clear c46b0; try clear c46b1; try clear c47; try clear c47b0; try clear c47b1; try clear c48; try clear c48b0; try clear c48b1; try clear c49; try clear c49b0; try clear c49b1; try clear c55; try clear c57; try clear c57b0; try clear c57b1; try clear c59; try clear c59b0; try clear c60; try clear c60b0; try clear c61; try clear c61b0; try clear c62; try clear c62b0; try clear hx191_0; try clear hx191_1; try clear hx191_2; try clear hx191_3; try clear hx191_4; try clear hx191_5; try clear hx192_0; try clear hx192_1; try clear hx192_2; try clear hx192_3; try clear hx192_4; try clear hx192_5; try clear hx193_0; try clear hx193_1; try clear hx193_2; try clear hx193_3; try clear hx193_4; try clear hx193_5; try clear hx194_0; try clear hx194_1; try clear hx194_2; try clear hx194_3; try clear hx194_4; try clear hx194_5; try clear hx195_0; try clear hx195_1; try clear hx195_2; try clear hx195_3; try clear hx195_4; try clear hx195_5; try clear hx196_0; try clear hx196_1; try clear hx196_2; try clear hx196_3; try clear hx196_4; try clear hx196_5; try clear hx197_0; try clear hx197_1; try clear hx197_2; try clear hx197_3; try clear hx197_4; try clear hx197_5; try clear hx198_0; try clear hx198_1; try clear hx198_2; try clear hx198_3; try clear hx198_4; try clear hx198_5; try clear hx199_0; try clear hx199_1; try clear hx199_2; try clear hx199_3; try clear hx199_4; try clear hx199_5; try clear hx200_0; try clear hx200_1; try clear hx200_2; try clear hx200_3; try clear hx200_4; try clear hx200_5; try clear hx201_0; try clear hx201_1; try clear hx201_2; try clear hx201_3; try clear hx201_4; try clear hx201_5; try clear hx202_0; try clear hx202_1; try clear hx202_2; try clear hx202_3; try clear hx202_4; try clear hx202_5; try clear hx203_0; try clear hx203_1; try clear hx203_2; try clear hx203_3; try clear hx203_4; try clear hx203_5; try clear hx204_0; try clear hx204_1; try clear hx204_2; try clear hx204_3; try clear hx204_4; try clear hx204_5; try clear hx205_0; try clear hx205_1; try clear hx205_2; try clear hx205_3; try clear hx205_4; try clear hx205_5; try clear hx206_0; try clear hx206_1; try clear hx206_2; try clear hx206_3; try clear hx206_4; try clear hx206_5; try clear hx207_0; try clear hx207_1; try clear hx207_2; try clear hx207_3; try clear hx207_4; try clear hx207_5; try clear p191; try clear p192; try clear p193; try clear p194; try clear p195; try clear p196; try clear p197; try clear p198; try clear p199; try clear p200; try clear p201; try clear p202; try clear p203; try clear p204; try clear p205; try clear p206; try clear p207; try clear q191; try clear q192; try clear q193; try clear q194; try clear q195; try clear q196; try clear q197; try clear q198; try clear q199; try clear q200; try clear q201; try clear q202; try clear q203; try clear q204; try clear q205; try clear q206; try clear q207
                         obtain ⟨kq, x209_55, rfl, HA, HJ55, HO_5, HO_8, HO_11, HB⟩ := hcut
                         cases kq with
                         | zero => exact absurd HA.out (by simp [scrimlaw16_LineMoves.j5])
                         | succ kj55 =>
                          have H := HA.out
                          clear HA
                          simp only [scrimlaw16_LineMoves.j5] at H
                          by_cases c63 : x209_55 = true
                          ·
                           subst c63
                           have H1 : (if 0 ≤ x78_3 then (if x78_3 < (t186.length : Int) then (if (wrap64 (((rd_T30 t186 x78_3).f2.f0) - ((rd_T30 t176 x78_3).f2.f0))) > 0 then (if (wrap64 (((rd_T30 t186 x78_3).f2.f0) + ((rd_T30 t186 x78_3).f2.f2))) = a1 then (if (wrap64 (((rd_T30 t186 x78_3).f2.f0) - ((rd_T30 t176 x78_3).f2.f0))) = 0 then (if (wrap64 (((rd_T30 t186 x78_3).f2.f0) + ((rd_T30 t186 x78_3).f2.f2))) < a1 then (some false) else (scrimlaw16_LineMoves.l0 kj55 a1 t176 t181 t186 x14_33 (t176.length : Int) (wrap64 (x78_3 + 1)))) else (scrimlaw16_LineMoves.l0 kj55 a1 t176 t181 t186 x14_33 (t176.length : Int) (wrap64 (x78_3 + 1)))) else (some false)) else (if (wrap64 (((rd_T30 t186 x78_3).f2.f0) - ((rd_T30 t176 x78_3).f2.f0))) = 0 then (if (wrap64 (((rd_T30 t186 x78_3).f2.f0) + ((rd_T30 t186 x78_3).f2.f2))) < a1 then (some false) else (scrimlaw16_LineMoves.l0 kj55 a1 t176 t181 t186 x14_33 (t176.length : Int) (wrap64 (x78_3 + 1)))) else (scrimlaw16_LineMoves.l0 kj55 a1 t176 t181 t186 x14_33 (t176.length : Int) (wrap64 (x78_3 + 1))))) else (none)) else (none)) = some r := by rw [if_pos rfl] at H; exact H
                           clear H
                           have H := H1
                           clear H1
                           by_cases c64 : 0 ≤ x78_3
                           ·
                            rw [if_pos c64] at H
                            have c64b0 : decide (0 ≤ x78_3) = true := decide_eq_true c64
                            clear c64
                            by_cases c65 : x78_3 < (t186.length : Int)
                            ·
                             rw [if_pos c65] at H
                             have c65b0 : decide (x78_3 < (t186.length : Int)) = true := decide_eq_true c65
                             clear c65
                             by_cases c66 : (wrap64 (((rd_T30 t186 x78_3).f2.f0) - ((rd_T30 t176 x78_3).f2.f0))) > 0
                             ·
                              rw [if_pos c66] at H
                              have c66b0 : decide (0 < (wrap64 (((rd_T30 t186 x78_3).f2.f0) - ((rd_T30 t176 x78_3).f2.f0)))) = true := decide_eq_true c66
                              clear c66
                              by_cases c67 : (wrap64 (((rd_T30 t186 x78_3).f2.f0) + ((rd_T30 t186 x78_3).f2.f2))) = a1
                              ·
                               rw [if_pos c67] at H
                               have c67b0 : ((wrap64 (((rd_T30 t186 x78_3).f2.f0) + ((rd_T30 t186 x78_3).f2.f2))) == a1) = true := beq_iff_eq.mpr c67
                               have c67b1 : ((wrap64 (((rd_T30 t186 x78_3).f2.f0) + ((rd_T30 t186 x78_3).f2.f2))) != a1) = false := bne_eq_false_iff_eq.mpr c67
                               clear c67
                               by_cases c68 : (wrap64 (((rd_T30 t186 x78_3).f2.f0) - ((rd_T30 t176 x78_3).f2.f0))) = 0
                               ·
                                rw [if_pos c68] at H
                                have c68b0 : ((wrap64 (((rd_T30 t186 x78_3).f2.f0) - ((rd_T30 t176 x78_3).f2.f0))) == 0) = true := beq_iff_eq.mpr c68
                                have c68b1 : ((wrap64 (((rd_T30 t186 x78_3).f2.f0) - ((rd_T30 t176 x78_3).f2.f0))) != 0) = false := bne_eq_false_iff_eq.mpr c68
                                clear c68
                                by_cases c69 : (wrap64 (((rd_T30 t186 x78_3).f2.f0) + ((rd_T30 t186 x78_3).f2.f2))) < a1
                                ·
                                 rw [if_pos c69] at H
                                 exact absurd (H.trans (congrArg some HRT.out)) (by simp)
                                ·
                                 rw [if_neg c69] at H
                                 have c69b0 : decide ((wrap64 (((rd_T30 t186 x78_3).f2.f0) + ((rd_T30 t186 x78_3).f2.f2))) < a1) = false := decide_eq_false c69
                                 clear c69
                                 have H' := Aside0.mk H
                                 clear H
                                 have p208 : 0 ≤ (x78_3 : Int) := of_decide_eq_true (by first | (with_reducible assumption) | assumption)
                                 have q208 : x78_3 < (t186.length : Int) := of_decide_eq_true (by first | (with_reducible assumption) | assumption)
                                 obtain ⟨ad208, e208, hx208_0, hx208_1, hx208_2, hx208_3, hx208_4, hx208_5⟩ := at_T30 (Kd.R_reads' HO_11.out).2.2 x78_3 p208 q208
                                 obtain rfl : ad193 = ad208 := (by injection e208)
                                 replace p208 := eq_true p208
                                 replace q208 := eq_true q208
                                 have p209 : 0 ≤ (x78_3 : Int) := of_decide_eq_true (by first | (with_reducible assumption) | assumption)
                                 have q209 : x78_3 < (t186.length : Int) := of_decide_eq_true (by first | (with_reducible assumption) | assumption)
                                 obtain ⟨ad209, e209, hx209_0, hx209_1, hx209_2, hx209_3, hx209_4, hx209_5⟩ := at_T30 (Kd.R_reads' HO_11.out).2.2 x78_3 p209 q209
                                 obtain rfl : ad193 = ad209 := (by injection e209)
                                 replace p209 := eq_true p209
                                 replace q209 := eq_true q209
                                 go_wp2
                                 repeat (go_quiet (fail); try go_wp2)
                                 go_roundg kj55
                                 case measure => have := HJ9.out; have := HJ17.out; have := HK3.out; have := HJ33.out; have := HJ38.out; have := HJ55.out; omega
                                 case rel => exact ⟨(x14_33), (wrap64 (x78_3 + 1)), (by first | rfl | (simp; done) | (simp [*]; done)), (by first | rfl | (simp; done) | (simp [*]; done)), H', ⟨by have := HJ9.out; have := HJ17.out; have := HK3.out; have := HJ33.out; have := HJ38.out; have := HJ55.out; omega⟩, ⟨by (with_reducible repeat (first | apply Kd.R_alloc | apply Kd.R_drewN | apply Kd.R_drew)); exact HO_5.out⟩, ⟨by (with_reducible repeat (first | apply Kd.R_alloc | apply Kd.R_drewN | apply Kd.R_drew)); exact HO_8.out⟩, ⟨by (with_reducible repeat (first | apply Kd.R_alloc | apply Kd.R_drewN | apply Kd.R_drew)); exact HO_11.out⟩, ⟨by repeat (first | (with_reducible first | exact HB.out | apply below_alloc | apply pw_below_drewN | apply below_drew1) | exact HB.out)⟩⟩
                               ·
                                rw [if_neg c68] at H
                                have c68b0 : ((wrap64 (((rd_T30 t186 x78_3).f2.f0) - ((rd_T30 t176 x78_3).f2.f0))) == 0) = false := beq_eq_false_iff_ne.mpr c68
                                have c68b1 : ((wrap64 (((rd_T30 t186 x78_3).f2.f0) - ((rd_T30 t176 x78_3).f2.f0))) != 0) = true := bne_iff_ne.mpr c68
                                have H' := Aside0.mk H
                                clear H
                                have p208 : 0 ≤ (x78_3 : Int) := of_decide_eq_true (by first | (with_reducible assumption) | assumption)
                                have q208 : x78_3 < (t186.length : Int) := of_decide_eq_true (by first | (with_reducible assumption) | assumption)
                                obtain ⟨ad208, e208, hx208_0, hx208_1, hx208_2, hx208_3, hx208_4, hx208_5⟩ := at_T30 (Kd.R_reads' HO_11.out).2.2 x78_3 p208 q208
                                obtain rfl : ad193 = ad208 := (by injection e208)
                                replace p208 := eq_true p208
                                replace q208 := eq_true q208
                                have p209 : 0 ≤ (x78_3 : Int) := of_decide_eq_true (by first | (with_reducible assumption) | assumption)
                                have q209 : x78_3 < (t186.length : Int) := of_decide_eq_true (by first | (with_reducible assumption) | assumption)
                                obtain ⟨ad209, e209, hx209_0, hx209_1, hx209_2, hx209_3, hx209_4, hx209_5⟩ := at_T30 (Kd.R_reads' HO_11.out).2.2 x78_3 p209 q209
                                obtain rfl : ad193 = ad209 := (by injection e209)
                                replace p209 := eq_true p209
                                replace q209 := eq_true q209
                                go_wp2
                                repeat (go_quiet (fail); try go_wp2)
                                go_roundg kj55
                                case measure => have := HJ9.out; have := HJ17.out; have := HK3.out; have := HJ33.out; have := HJ38.out; have := HJ55.out; omega
                                case rel => exact ⟨(x14_33), (wrap64 (x78_3 + 1)), (by first | rfl | (simp; done) | (simp [*]; done)), (by first | rfl | (simp; done) | (simp [*]; done)), H', ⟨by have := HJ9.out; have := HJ17.out; have := HK3.out; have := HJ33.out; have := HJ38.out; have := HJ55.out; omega⟩, ⟨by (with_reducible repeat (first | apply Kd.R_alloc | apply Kd.R_drewN | apply Kd.R_drew)); exact HO_5.out⟩, ⟨by (with_reducible repeat (first | apply Kd.R_alloc | apply Kd.R_drewN | apply Kd.R_drew)); exact HO_8.out⟩, ⟨by (with_reducible repeat (first | apply Kd.R_alloc | apply Kd.R_drewN | apply Kd.R_drew)); exact HO_11.out⟩, ⟨by repeat (first | (with_reducible first | exact HB.out | apply below_alloc | apply pw_below_drewN | apply below_drew1) | exact HB.out)⟩⟩
                              ·
                               rw [if_neg c67] at H
                               exact absurd (H.trans (congrArg some HRT.out)) (by simp)
                             ·
                              rw [if_neg c66] at H
                              have c66b0 : decide (0 < (wrap64 (((rd_T30 t186 x78_3).f2.f0) - ((rd_T30 t176 x78_3).f2.f0)))) = false := decide_eq_false c66
                              clear c66
                              by_cases c70 : (wrap64 (((rd_T30 t186 x78_3).f2.f0) - ((rd_T30 t176 x78_3).f2.f0))) = 0
                              ·
                               rw [if_pos c70] at H
                               have c70b0 : ((wrap64 (((rd_T30 t186 x78_3).f2.f0) - ((rd_T30 t176 x78_3).f2.f0))) == 0) = true := beq_iff_eq.mpr c70
                               have c70b1 : ((wrap64 (((rd_T30 t186 x78_3).f2.f0) - ((rd_T30 t176 x78_3).f2.f0))) != 0) = false := bne_eq_false_iff_eq.mpr c70
                               clear c70
                               by_cases c71 : (wrap64 (((rd_T30 t186 x78_3).f2.f0) + ((rd_T30 t186 x78_3).f2.f2))) < a1
                               ·
                                rw [if_pos c71] at H
                                exact absurd (H.trans (congrArg some HRT.out)) (by simp)
                               ·
                                rw [if_neg c71] at H
                                have c71b0 : decide ((wrap64 (((rd_T30 t186 x78_3).f2.f0) + ((rd_T30 t186 x78_3).f2.f2))) < a1) = false := decide_eq_false c71
                                clear c71
                                have H' := Aside0.mk H
                                clear H
                                have p208 : 0 ≤ (x78_3 : Int) := of_decide_eq_true (by first | (with_reducible assumption) | assumption)
                                have q208 : x78_3 < (t186.length : Int) := of_decide_eq_true (by first | (with_reducible assumption) | assumption)
                                obtain ⟨ad208, e208, hx208_0, hx208_1, hx208_2, hx208_3, hx208_4, hx208_5⟩ := at_T30 (Kd.R_reads' HO_11.out).2.2 x78_3 p208 q208
                                obtain rfl : ad193 = ad208 := (by injection e208)
                                replace p208 := eq_true p208
                                replace q208 := eq_true q208
                                have p209 : 0 ≤ (x78_3 : Int) := of_decide_eq_true (by first | (with_reducible assumption) | assumption)
                                have q209 : x78_3 < (t186.length : Int) := of_decide_eq_true (by first | (with_reducible assumption) | assumption)
                                obtain ⟨ad209, e209, hx209_0, hx209_1, hx209_2, hx209_3, hx209_4, hx209_5⟩ := at_T30 (Kd.R_reads' HO_11.out).2.2 x78_3 p209 q209
                                obtain rfl : ad193 = ad209 := (by injection e209)
                                replace p209 := eq_true p209
                                replace q209 := eq_true q209
                                go_wp2
                                repeat (go_quiet (fail); try go_wp2)
                                go_roundg kj55
                                case measure => have := HJ9.out; have := HJ17.out; have := HK3.out; have := HJ33.out; have := HJ38.out; have := HJ55.out; omega
                                case rel => exact ⟨(x14_33), (wrap64 (x78_3 + 1)), (by first | rfl | (simp; done) | (simp [*]; done)), (by first | rfl | (simp; done) | (simp [*]; done)), H', ⟨by have := HJ9.out; have := HJ17.out; have := HK3.out; have := HJ33.out; have := HJ38.out; have := HJ55.out; omega⟩, ⟨by (with_reducible repeat (first | apply Kd.R_alloc | apply Kd.R_drewN | apply Kd.R_drew)); exact HO_5.out⟩, ⟨by (with_reducible repeat (first | apply Kd.R_alloc | apply Kd.R_drewN | apply Kd.R_drew)); exact HO_8.out⟩, ⟨by (with_reducible repeat (first | apply Kd.R_alloc | apply Kd.R_drewN | apply Kd.R_drew)); exact HO_11.out⟩, ⟨by repeat (first | (with_reducible first | exact HB.out | apply below_alloc | apply pw_below_drewN | apply below_drew1) | exact HB.out)⟩⟩
                              ·
                               rw [if_neg c70] at H
                               have c70b0 : ((wrap64 (((rd_T30 t186 x78_3).f2.f0) - ((rd_T30 t176 x78_3).f2.f0))) == 0) = false := beq_eq_false_iff_ne.mpr c70
                               have c70b1 : ((wrap64 (((rd_T30 t186 x78_3).f2.f0) - ((rd_T30 t176 x78_3).f2.f0))) != 0) = true := bne_iff_ne.mpr c70
                               have H' := Aside0.mk H
                               clear H
                               have p208 : 0 ≤ (x78_3 : Int) := of_decide_eq_true (by first | (with_reducible assumption) | assumption)
                               have q208 : x78_3 < (t186.length : Int) := of_decide_eq_true (by first | (with_reducible assumption) | assumption)
                               obtain ⟨ad208, e208, hx208_0, hx208_1, hx208_2, hx208_3, hx208_4, hx208_5⟩ := at_T30 (Kd.R_reads' HO_11.out).2.2 x78_3 p208 q208
                               obtain rfl : ad193 = ad208 := (by injection e208)
                               replace p208 := eq_true p208
                               replace q208 := eq_true q208
                               have p209 : 0 ≤ (x78_3 : Int) := of_decide_eq_true (by first | (with_reducible assumption) | assumption)
                               have q209 : x78_3 < (t186.length : Int) := of_decide_eq_true (by first | (with_reducible assumption) | assumption)
                               obtain ⟨ad209, e209, hx209_0, hx209_1, hx209_2, hx209_3, hx209_4, hx209_5⟩ := at_T30 (Kd.R_reads' HO_11.out).2.2 x78_3 p209 q209
                               obtain rfl : ad193 = ad209 := (by injection e209)
                               replace p209 := eq_true p209
                               replace q209 := eq_true q209
                               go_wp2
                               repeat (go_quiet (fail); try go_wp2)
                               go_roundg kj55
                               case measure => have := HJ9.out; have := HJ17.out; have := HK3.out; have := HJ33.out; have := HJ38.out; have := HJ55.out; omega
                               case rel => exact ⟨(x14_33), (wrap64 (x78_3 + 1)), (by first | rfl | (simp; done) | (simp [*]; done)), (by first | rfl | (simp; done) | (simp [*]; done)), H', ⟨by have := HJ9.out; have := HJ17.out; have := HK3.out; have := HJ33.out; have := HJ38.out; have := HJ55.out; omega⟩, ⟨by (with_reducible repeat (first | apply Kd.R_alloc | apply Kd.R_drewN | apply Kd.R_drew)); exact HO_5.out⟩, ⟨by (with_reducible repeat (first | apply Kd.R_alloc | apply Kd.R_drewN | apply Kd.R_drew)); exact HO_8.out⟩, ⟨by (with_reducible repeat (first | apply Kd.R_alloc | apply Kd.R_drewN | apply Kd.R_drew)); exact HO_11.out⟩, ⟨by repeat (first | (with_reducible first | exact HB.out | apply below_alloc | apply pw_below_drewN | apply below_drew1) | exact HB.out)⟩⟩
                            ·
                             rw [if_neg c65] at H
                             exact absurd H (by simp)
                           ·
                            rw [if_neg c64] at H
                            exact absurd H (by simp)
                          ·
                           replace c63 := Bool.eq_false_iff.mpr c63
                           subst c63
                           have H1 : (scrimlaw16_LineMoves.l0 kj55 a1 t176 t181 t186 x14_33 (t176.length : Int) (wrap64 (x78_3 + 1))) = some r := by rw [if_neg (show ¬ (false = true) by decide)] at H; exact H
                           clear H
                           have H := H1
                           clear H1
                           have H' := Aside0.mk H
                           clear H
                           go_wp2
                           repeat (go_quiet (fail); try go_wp2)
                           go_roundg kj55
                           case measure => have := HJ9.out; have := HJ17.out; have := HK3.out; have := HJ33.out; have := HJ38.out; have := HJ55.out; omega
                           case rel => exact ⟨(x14_33), (wrap64 (x78_3 + 1)), (by first | rfl | (simp; done) | (simp [*]; done)), (by first | rfl | (simp; done) | (simp [*]; done)), H', ⟨by have := HJ9.out; have := HJ17.out; have := HK3.out; have := HJ33.out; have := HJ38.out; have := HJ55.out; omega⟩, ⟨by (with_reducible repeat (first | apply Kd.R_alloc | apply Kd.R_drewN | apply Kd.R_drew)); exact HO_5.out⟩, ⟨by (with_reducible repeat (first | apply Kd.R_alloc | apply Kd.R_drewN | apply Kd.R_drew)); exact HO_8.out⟩, ⟨by (with_reducible repeat (first | apply Kd.R_alloc | apply Kd.R_drewN | apply Kd.R_drew)); exact HO_11.out⟩, ⟨by repeat (first | (with_reducible first | exact HB.out | apply below_alloc | apply pw_below_drewN | apply below_drew1) | exact HB.out)⟩⟩
                    ·
                     rw [if_neg c38] at H
                     exact absurd H (by simp)
                   ·
                    rw [if_neg c37] at H
                    exact absurd H (by simp)
                  ·
                   rw [if_neg c36] at H
                   exact absurd H (by simp)
               ·
                rw [if_neg c33] at H
                exact absurd H (by simp)
              ·
               rw [if_neg c32] at H
               exact absurd H (by simp)
             ·
              rw [if_neg c31] at H
              exact absurd H (by simp)
            ·
             rw [if_neg c30] at H
             exact absurd H (by simp)
           ·
            rw [if_neg c29] at H
            have c29b0 : decide (x78_3 < (t176.length : Int)) = false := decide_eq_false c29
            clear c29
            obtain rfl := Option.some.inj H
            go_wp2
            repeat (go_quiet (fail); try go_wp2)
            go_ret
            exact ⟨by first | rfl | (simp [errW_none, errW_some] <;> rfl) | (simp [*, errW_none, errW_some] <;> rfl), by repeat (first | (with_reducible first | exact HB.out | apply below_alloc | apply pw_below_drewN | apply below_drew1) | exact HB.out)⟩
 ·
  replace c4 := Bool.eq_false_iff.mpr c4
  subst c4
  have H1 : (some false) = some r := by rw [if_neg (show ¬ (false = true) by decide)] at H; exact H
  exact absurd (H1.trans (congrArg some HRT.out)) (by simp)
end Go.Proofs.Ythkipbnigokcfaa.Q
