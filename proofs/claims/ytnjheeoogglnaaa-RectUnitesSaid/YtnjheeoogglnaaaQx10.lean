/- Written by a program of this session (wip/xprint.py): plain Lean functions, and that the Go functions compute them. -/
import Derived.Test.YtnjheeoogglnaaaQx0
import Derived.Test.YtnjheeoogglnaaaQx3
import Derived.Test.YtnjheeoogglnaaaQx2
import Derived.Test.YtnjheeoogglnaaaQx5
import Derived.Test.YtnjheeoogglnaaaRcG
import Derived.Test.YtnjheeoogglnaaaRcA
namespace Go.Proofs.Ytnjheeoogglnaaa.Q
open Go.RowKit Go.Proofs.YtnjheeoogglnaaaW.PrintWords Go.Proofs.YtnjheeoogglnaaaW.PrintLast Go.Proofs.YtnjheeoogglnaaaW.PrintMore
attribute [local go_sem] max2_int min2_int max_two min_two max_three min_three max_four min_four   -- for this text's walks alone
set_option linter.unusedVariables false
set_option linter.unusedSimpArgs false

attribute [local go_sem high] eqA47 eqA50
/-! ### scrimlaw02_RectUnites: function 9 -/
mutual
def scrimlaw02_RectUnites.l0 : Nat → Int → Int → List (S50) → Int → Int → Int → Int → Int → Int → Option (Bool)
  | 0, _, _, _, _, _, _, _, _, _ => none
  | k + 1, x1, x2, x25, x26, x27, x192000, x192001, x192002, x192003 => if x27 < x26 then (if 0 ≤ x27 then (if x27 < (x25.length : Int) then ((rect_Has.f ((rd_T50 x25 x27).f0) ((rd_T50 x25 x27).f1) ((rd_T50 x25 x27).f2) ((rd_T50 x25 x27).f3) x1 x2).bind fun t195 => (if t195 = true then ((rect_Has.f x192000 x192001 x192002 x192003 x1 x2).bind fun t196 => (scrimlaw02_RectUnites.j1 k x1 x2 x25 x26 x27 (!t196) x192000 x192001 x192002 x192003 ((rd_T50 x25 x27).f0) ((rd_T50 x25 x27).f1) ((rd_T50 x25 x27).f2) ((rd_T50 x25 x27).f3))) else (scrimlaw02_RectUnites.j1 k x1 x2 x25 x26 x27 false x192000 x192001 x192002 x192003 ((rd_T50 x25 x27).f0) ((rd_T50 x25 x27).f1) ((rd_T50 x25 x27).f2) ((rd_T50 x25 x27).f3)))) else (none)) else (none)) else ((rect_May.f x192000 x192001 x192002 x192003).bind fun t192 => (some t192))
def scrimlaw02_RectUnites.j1 : Nat → Int → Int → List (S50) → Int → Int → Bool → Int → Int → Int → Int → Int → Int → Int → Int → Option (Bool)
  | 0, _, _, _, _, _, _, _, _, _, _, _, _, _, _ => none
  | k + 1, x1, x2, x25, x26, x27, x41, x192000, x192001, x192002, x192003, x195000, x195001, x195002, x195003 => if x41 = true then (some false) else ((rect_Meet.f k x192000 x192001 x192002 x192003 x195000 x195001 x195002 x195003).bind fun bt197 => (if x195002 > 0 then (if x195003 > 0 then (if bt197.2.2.2.2 = true then (if (!(bt197.1 == x195000) || (!(bt197.2.1 == x195001) || (!(bt197.2.2.1 == x195002) || (!(bt197.2.2.2.1 == x195003))))) = true then (some false) else (scrimlaw02_RectUnites.l0 k x1 x2 x25 x26 (wrap64 (x27 + 1)) x192000 x192001 x192002 x192003)) else (some false)) else (scrimlaw02_RectUnites.l0 k x1 x2 x25 x26 (wrap64 (x27 + 1)) x192000 x192001 x192002 x192003)) else (scrimlaw02_RectUnites.l0 k x1 x2 x25 x26 (wrap64 (x27 + 1)) x192000 x192001 x192002 x192003)))
end
def scrimlaw02_RectUnites.f (k : Nat) (l0 : List (S50)) (a1 : Int) (a2 : Int) : Option (Bool) := (scrimlaw02_awake.f).bind fun t185 => (if t185 = true then (if (l0.length : Int) > 100 then (some true) else ((rect_Union.f l0).bind fun bt186 => (if bt186.2.2.2.2 = true then (scrimlaw02_RectUnites.l0 k a1 a2 l0 (l0.length : Int) 0 bt186.1 bt186.2.1 bt186.2.2.1 bt186.2.2.2.1) else (some true)))) else (some false))
theorem scrimlaw02_RectUnites.mono_l : ∀ k, (∀ y0 y1 y2 y3 y4 y5 y6 y7 y8, LeO (scrimlaw02_RectUnites.l0 k y0 y1 y2 y3 y4 y5 y6 y7 y8) (scrimlaw02_RectUnites.l0 (k + 1) y0 y1 y2 y3 y4 y5 y6 y7 y8)) ∧ (∀ y0 y1 y2 y3 y4 y5 y6 y7 y8 y9 y10 y11 y12 y13, LeO (scrimlaw02_RectUnites.j1 k y0 y1 y2 y3 y4 y5 y6 y7 y8 y9 y10 y11 y12 y13) (scrimlaw02_RectUnites.j1 (k + 1) y0 y1 y2 y3 y4 y5 y6 y7 y8 y9 y10 y11 y12 y13))
  | 0 => ⟨fun _ _ _ _ _ _ _ _ _ r h => by simp [scrimlaw02_RectUnites.l0] at h, fun _ _ _ _ _ _ _ _ _ _ _ _ _ _ r h => by simp [scrimlaw02_RectUnites.j1] at h⟩
  | k + 1 => by
    obtain ⟨ih0, ih1⟩ := scrimlaw02_RectUnites.mono_l k
    refine ⟨?_, ?_⟩
    · intro y0 y1 y2 y3 y4 y5 y6 y7 y8
      unfold scrimlaw02_RectUnites.l0
      repeat' first
      | (with_reducible exact ih0 _ _ _ _ _ _ _ _ _)
      | (with_reducible exact ih1 _ _ _ _ _ _ _ _ _ _ _ _ _ _)
      | (with_reducible exact rect_Meet.mono _ _ _ _ _ _ _ _ _)
      | (with_reducible exact LeO.refl _)
      | (with_reducible exact LeO.none _)
      | (with_reducible refine LeO.ite ?_ ?_)
      | (with_reducible refine LeO.bind ?_ (fun _ => ?_))
      | exact ih0 _ _ _ _ _ _ _ _ _
      | exact ih1 _ _ _ _ _ _ _ _ _ _ _ _ _ _
      | exact rect_Meet.mono _ _ _ _ _ _ _ _ _
      | exact LeO.none _
      | refine LeO.ite ?_ ?_
      | refine LeO.bind ?_ (fun _ => ?_)
    · intro y0 y1 y2 y3 y4 y5 y6 y7 y8 y9 y10 y11 y12 y13
      unfold scrimlaw02_RectUnites.j1
      repeat' first
      | (with_reducible exact ih0 _ _ _ _ _ _ _ _ _)
      | (with_reducible exact ih1 _ _ _ _ _ _ _ _ _ _ _ _ _ _)
      | (with_reducible exact rect_Meet.mono _ _ _ _ _ _ _ _ _)
      | (with_reducible exact LeO.refl _)
      | (with_reducible exact LeO.none _)
      | (with_reducible refine LeO.ite ?_ ?_)
      | (with_reducible refine LeO.bind ?_ (fun _ => ?_))
      | exact ih0 _ _ _ _ _ _ _ _ _
      | exact ih1 _ _ _ _ _ _ _ _ _ _ _ _ _ _
      | exact rect_Meet.mono _ _ _ _ _ _ _ _ _
      | exact LeO.none _
      | refine LeO.ite ?_ ?_
      | refine LeO.bind ?_ (fun _ => ?_)
theorem scrimlaw02_RectUnites.mono : ∀ a0 a1 a2 k, LeO (scrimlaw02_RectUnites.f k a0 a1 a2) (scrimlaw02_RectUnites.f (k + 1) a0 a1 a2) := by
  intro a0 a1 a2 k
  obtain ⟨ih0, ih1⟩ := scrimlaw02_RectUnites.mono_l k
  unfold scrimlaw02_RectUnites.f
  repeat' first
      | (with_reducible exact ih0 _ _ _ _ _ _ _ _ _)
      | (with_reducible exact ih1 _ _ _ _ _ _ _ _ _ _ _ _ _ _)
      | (with_reducible exact rect_Meet.mono _ _ _ _ _ _ _ _ _)
      | (with_reducible exact LeO.refl _)
      | (with_reducible exact LeO.none _)
      | (with_reducible refine LeO.ite ?_ ?_)
      | (with_reducible refine LeO.bind ?_ (fun _ => ?_))
      | exact ih0 _ _ _ _ _ _ _ _ _
      | exact ih1 _ _ _ _ _ _ _ _ _ _ _ _ _ _
      | exact rect_Meet.mono _ _ _ _ _ _ _ _ _
      | exact LeO.none _
      | refine LeO.ite ?_ ?_
      | refine LeO.bind ?_ (fun _ => ?_)
set_option maxHeartbeats 8000000 in
set_option maxRecDepth 100000 in
theorem scrimlaw02_RectUnites.calls (k : Nat) (A0 : Option Addr) (c0 : Nat) (l0 : List (S50)) (a1 : Int) (a2 : Int) (r : Bool) (w : World) (hr0 : Kd.C k50 w A0 l0.length l0) (hc0 : l0.length ≤ c0) (h : scrimlaw02_RectUnites.f k l0 a1 a2 = some r) :
    Calls Try.prog 9 #[.slice A0 l0.length c0, .int .i64 a1, .int .i64 a2] w fun e w' => e = .returned (.bool r) ∧ Below w.heap.size w w' := by
  have hu50 := Try.underlying50
  have HR0 := Aside0.mk hr0
  have HC0 := Aside0.mk hc0
  clear hr0 hc0
  have HB := Aside0.mk (Below.refl w.heap.size w)
  have H : ((scrimlaw02_awake.f).bind fun t185 => (if t185 = true then (if (l0.length : Int) > 100 then (some true) else ((rect_Union.f l0).bind fun bt186 => (if bt186.2.2.2.2 = true then (scrimlaw02_RectUnites.l0 k a1 a2 l0 (l0.length : Int) 0 bt186.1 bt186.2.1 bt186.2.2.1 bt186.2.2.2.1) else (some true)))) else (some false))) = some r := h
  clear h
  replace H := Option.bind_eq_some_iff.mp H
  obtain ⟨t185, A40, H⟩ := H
  replace H : (if t185 = true then (if (l0.length : Int) > 100 then (some true) else ((rect_Union.f l0).bind fun bt186 => (if bt186.2.2.2.2 = true then (scrimlaw02_RectUnites.l0 k a1 a2 l0 (l0.length : Int) 0 bt186.1 bt186.2.1 bt186.2.2.1 bt186.2.2.2.1) else (some true)))) else (some false)) = some r := H
  have A4 := Aside0.mk A40
  clear A40
  by_cases c5 : t185 = true
  · subst c5
    have H1 : (if (l0.length : Int) > 100 then (some true) else ((rect_Union.f l0).bind fun bt186 => (if bt186.2.2.2.2 = true then (scrimlaw02_RectUnites.l0 k a1 a2 l0 (l0.length : Int) 0 bt186.1 bt186.2.1 bt186.2.2.1 bt186.2.2.2.1) else (some true)))) = some r := by rw [if_pos rfl] at H; exact H
    clear H
    have H := H1
    clear H1
    by_cases c6 : (l0.length : Int) > 100
    · rw [if_pos c6] at H
      have c6b0 : decide (100 < (l0.length : Int)) = true := decide_eq_true c6
      have c6b1 : decide (100 < l0.length) = true := decide_eq_true (by omega)
      clear c6
      obtain rfl := Option.some.inj H
      go_enter Try.func9, Try.ntmps9
      go_wp2_with (first | ((with_reducible refine gate_callee (f := 25) rfl ?_); refine goesL_ (some 13) rfl rfl Try.func25 (by kernel_rfl) rfl #[] rfl (by (try simp only [List.map_toArray, List.map_cons, List.map_nil]); first | done | rfl | (simp only [List.length_drop, List.length_take]; rfl)) ?_; (with_reducible refine (scrimlaw02_awake.calls  true _ A4.out).mono ?_); rintro e w7 ⟨rfl, hb⟩; refine ⟨_, rfl, ?_⟩; have n0_ := Aside0.mk (below_step (by repeat (first | (with_reducible first | exact HB.out | apply below_alloc | apply pw_below_drewN | apply below_drew1) | exact HB.out)) hb); clear HB; have HB := n0_; clear n0_; (try clear hb); (try clear hb2); (try clear hk); (try clear hi)))
      go_ret
      exact ⟨by first | rfl | (simp [errW_none, errW_some] <;> rfl) | (simp [*, errW_none, errW_some] <;> rfl), by repeat (first | (with_reducible first | exact HB.out | apply below_alloc | apply pw_below_drewN | apply below_drew1) | exact HB.out)⟩
    · rw [if_neg c6] at H
      have c6b0 : decide (100 < (l0.length : Int)) = false := decide_eq_false c6
      have c6b1 : decide (100 < l0.length) = false := decide_eq_false (by omega)
      clear c6
      replace H := Option.bind_eq_some_iff.mp H
      obtain ⟨⟨t186, t187, t188, t189, t190⟩, A80, H⟩ := H
      replace H : (if t190 = true then (scrimlaw02_RectUnites.l0 k a1 a2 l0 (l0.length : Int) 0 t186 t187 t188 t189) else (some true)) = some r := H
      have A8 := Aside0.mk A80
      clear A80
      by_cases c9 : t190 = true
      · subst c9
        have H1 : (scrimlaw02_RectUnites.l0 k a1 a2 l0 (l0.length : Int) 0 t186 t187 t188 t189) = some r := by rw [if_pos rfl] at H; exact H
        clear H
        have H := H1
        clear H1
        have H' := Aside0.mk H
        clear H
        go_enter Try.func9, Try.ntmps9
        go_wp2_with (first | ((with_reducible refine gate_callee (f := 25) rfl ?_); refine goesL_ (some 13) rfl rfl Try.func25 (by kernel_rfl) rfl #[] rfl (by (try simp only [List.map_toArray, List.map_cons, List.map_nil]); first | done | rfl | (simp only [List.length_drop, List.length_take]; rfl)) ?_; (with_reducible refine (scrimlaw02_awake.calls  true _ A4.out).mono ?_); rintro e w10 ⟨rfl, hb⟩; refine ⟨_, rfl, ?_⟩; have n0_ := Aside0.mk (below_step (by repeat (first | (with_reducible first | exact HB.out | apply below_alloc | apply pw_below_drewN | apply below_drew1) | exact HB.out)) hb); clear HB; have HB := n0_; clear n0_; (try clear hb); (try clear hb2); (try clear hk); (try clear hi)) | ((with_reducible refine gate_callee (f := 30) rfl ?_); refine goesL_ (some 20) rfl rfl Try.func30 (by kernel_rfl) rfl #[.slice A0 l0.length c0] rfl (by (try simp only [List.map_toArray, List.map_cons, List.map_nil]); first | done | rfl | (simp only [List.length_drop, List.length_take]; rfl)) ?_; (with_reducible refine (rect_Union.calls _ _ l0 t186 t187 t188 t189 true _ ?side1 ?side2 A8.out).mono ?_); (case side1 => repeat (first | exact (Kd.C_below HR0.out HB.out) | (with_reducible refine Kd.C_alloc ?_ _) | (with_reducible refine Kd.C_drewN ?_ _) | (with_reducible refine Kd.C_drew ?_))); (case side2 => exact HC0.out); rintro e w11 ⟨rfl, hb⟩; refine ⟨_, rfl, ?_⟩; have n0_ := Aside0.mk (below_step (by repeat (first | (with_reducible first | exact HB.out | apply below_alloc | apply pw_below_drewN | apply below_drew1) | exact HB.out)) hb); clear HB; have HB := n0_; clear n0_; (try clear hb); (try clear hb2); (try clear hk); (try clear hi)) | ((with_reducible refine gate_dst (N := 7) rfl ?_); refine box_event ?hg (N := 7) ?hd (cs := #[.int .i64 0, .int .i64 0, .int .i64 0, .int .i64 0]) (t := 50) ?hr ?_; (case hd => rfl); (case hg => rfl); (case hr => first | (go_simp; done) | (go_simp; rfl)); intro gb191 hg w12 hbox hb; have n0_ := Aside0.mk (below_step (by repeat (first | (with_reducible first | exact HB.out | apply below_alloc | apply pw_below_drewN | apply below_drew1) | exact HB.out)) hb); have n1_ := Aside0.mk (hbox); have n2_ := Aside0.mk ((by rw [hg]; exact (below_size (by repeat (first | (with_reducible first | exact HB.out | apply below_alloc | apply pw_below_drewN | apply below_drew1) | exact HB.out))) : w.heap.size ≤ gb191)); have n3_ := Aside0.mk ((by rw [hg]; exact (below_size (by repeat (first | (with_reducible first | exact HB.out | apply below_alloc | apply pw_below_drewN | apply below_drew1) | exact HB.out))) : w.heap.size ≤ gb191)); clear HB; have HB := n0_; have BK191 := n1_; have GW191 := n2_; have GE191 := n3_; clear n0_ n1_ n2_ n3_; clear hb hbox hg; have hcz13_0 : w12.cell? ⟨gb191, 0, none⟩ = some (.int .i64 0) := (blk_cell BK191.out 0).trans rfl; have hcz13_1 : w12.cell? ⟨gb191, 1, none⟩ = some (.int .i64 0) := (blk_cell BK191.out 1).trans rfl; have hcz13_2 : w12.cell? ⟨gb191, 2, none⟩ = some (.int .i64 0) := (blk_cell BK191.out 2).trans rfl; have hcz13_3 : w12.cell? ⟨gb191, 3, none⟩ = some (.int .i64 0) := (blk_cell BK191.out 3).trans rfl; have hfz13_0 := blk_frozen BK191.out 0; have hfz13_1 := blk_frozen BK191.out 1; have hfz13_2 := blk_frozen BK191.out 2; have hfz13_3 := blk_frozen BK191.out 3))
        go_loopg [27] k (fun kq v27 w' => ∃ (x27_1 : Int), v27 = .int .i64 x27_1 ∧ Aside0 (scrimlaw02_RectUnites.l0 kq a1 a2 l0 (l0.length : Int) x27_1 t186 t187 t188 t189 = some r) ∧ Aside0 (kq ≤ k) ∧ Aside0 (w'.heap[gb191]? = some (.cells #[.int .i64 t186, .int .i64 t187, .int .i64 t188, .int .i64 t189] 50 (0, 0))) ∧ Aside0 (Below w.heap.size w w'))
        case atStart => exact ⟨(0), (by first | rfl | (simp; done) | (simp [*]; done)), H', ⟨Nat.le_refl _⟩, ⟨by (with_reducible repeat (first | refine blk_drewN ?_ _ | refine blk_drew ?_ | refine blk_alloc ?_ _)); refine blk_put (cs := #[.int .i64 t186, .int .i64 t187, .int .i64 t188, .int .i64 0]) ?_ 3 _ rfl; (with_reducible repeat (first | refine blk_drewN ?_ _ | refine blk_drew ?_ | refine blk_alloc ?_ _)); refine blk_put (cs := #[.int .i64 t186, .int .i64 t187, .int .i64 0, .int .i64 0]) ?_ 2 _ rfl; (with_reducible repeat (first | refine blk_drewN ?_ _ | refine blk_drew ?_ | refine blk_alloc ?_ _)); refine blk_put (cs := #[.int .i64 t186, .int .i64 0, .int .i64 0, .int .i64 0]) ?_ 1 _ rfl; (with_reducible repeat (first | refine blk_drewN ?_ _ | refine blk_drew ?_ | refine blk_alloc ?_ _)); refine blk_put (cs := #[.int .i64 0, .int .i64 0, .int .i64 0, .int .i64 0]) ?_ 0 _ rfl; (with_reducible repeat (first | refine blk_drewN ?_ _ | refine blk_drew ?_ | refine blk_alloc ?_ _)); exact BK191.out⟩, ⟨by repeat (first | (with_reducible first | exact HB.out | apply below_alloc | apply pw_below_drewN | apply below_drew1 | refine below_set ?_ GE191.out) | exact HB.out)⟩⟩
        case round =>
          clear H'
          try clear c2
          try clear p2
          try clear c3
          try clear c5
          try clear c6
          try clear c6b0
          try clear c6b1
          try clear c9
          try clear hcz13_0
          try clear hcz13_1
          try clear hcz13_2
          try clear hcz13_3
          try clear hfz13_0
          try clear hfz13_1
          try clear hfz13_2
          try clear hfz13_3
          obtain ⟨x27_1, rfl, HA, HK1, BK191, HB⟩ := hrel
          cases gk with
          | zero => exact absurd HA.out (by simp [scrimlaw02_RectUnites.l0])
          | succ k1 =>
            have H := HA.out
            clear HA
            simp only [scrimlaw02_RectUnites.l0] at H
            by_cases c14 : x27_1 < (l0.length : Int)
            · rw [if_pos c14] at H
              have c14b0 : decide (x27_1 < (l0.length : Int)) = true := decide_eq_true c14
              clear c14
              by_cases c15 : 0 ≤ x27_1
              · rw [if_pos c15] at H
                have c15b0 : decide (0 ≤ x27_1) = true := decide_eq_true c15
                clear c15
                by_cases c16 : x27_1 < (l0.length : Int)
                · rw [if_pos c16] at H
                  have c16b0 : decide (x27_1 < (l0.length : Int)) = true := decide_eq_true c16
                  clear c16
                  have HC17 := Aside0.mk H
                  clear H
                  have p193 : 0 ≤ (x27_1 : Int) := of_decide_eq_true (by first | (with_reducible assumption) | assumption)
                  have q193 : x27_1 < (l0.length : Int) := of_decide_eq_true (by first | (with_reducible assumption) | assumption)
                  obtain ⟨ad193, e193, hx193_0, hx193_1, hx193_2, hx193_3⟩ := at_T50 HR0.out x27_1 p193 q193
                  cases e193
                  replace hx193_0 := (HB.out.cell (World.block_lt_of_cell? w _ hx193_0)).trans hx193_0
                  replace hx193_1 := (HB.out.cell (World.block_lt_of_cell? w _ hx193_1)).trans hx193_1
                  replace hx193_2 := (HB.out.cell (World.block_lt_of_cell? w _ hx193_2)).trans hx193_2
                  replace hx193_3 := (HB.out.cell (World.block_lt_of_cell? w _ hx193_3)).trans hx193_3
                  replace p193 := eq_true p193
                  replace q193 := eq_true q193
                  go_upto_region 11 with (first | ((with_reducible refine gate_dst (N := 10) rfl ?_); refine box_event ?hg (N := 10) ?hd (cs := #[.int .i64 0, .int .i64 0, .int .i64 0, .int .i64 0]) (t := 50) ?hr ?_; (case hd => rfl); (case hg => rfl); (case hr => first | (go_simp; done) | (go_simp; rfl)); intro gb194 hg w18 hbox hb; have n0_ := Aside0.mk (blk_below (g := gb191) (o := .cells #[.int .i64 t186, .int .i64 t187, .int .i64 t188, .int .i64 t189] 50 (0, 0)) (by (with_reducible repeat (first | refine blk_drewN ?_ _ | refine blk_drew ?_ | refine blk_alloc ?_ _)); exact BK191.out) hb); have n1_ := Aside0.mk (below_step (by repeat (first | (with_reducible first | exact HB.out | apply below_alloc | apply pw_below_drewN | apply below_drew1 | refine below_set ?_ GE191.out) | exact HB.out)) hb); have n2_ := Aside0.mk (hbox); have n3_ := Aside0.mk ((by rw [hg]; exact (below_size (by repeat (first | (with_reducible first | exact HB.out | apply below_alloc | apply pw_below_drewN | apply below_drew1 | refine below_set ?_ GE191.out) | exact HB.out))) : w.heap.size ≤ gb194)); have n4_ := Aside0.mk ((by rw [hg]; exact (below_size (by repeat (first | (with_reducible first | exact HB.out | apply below_alloc | apply pw_below_drewN | apply below_drew1 | refine below_set ?_ GE191.out) | exact HB.out))) : w.heap.size ≤ gb194)); have n5_ := Aside0.mk ((by rw [hg]; exact Nat.ne_of_lt (blk_lt (g := gb191) (o := .cells #[.int .i64 t186, .int .i64 t187, .int .i64 t188, .int .i64 t189] 50 (0, 0)) (by (with_reducible repeat (first | refine blk_drewN ?_ _ | refine blk_drew ?_ | refine blk_alloc ?_ _)); exact BK191.out)) : gb191 ≠ gb194)); have n6_ := Aside0.mk ((by rw [hg]; exact Nat.ne_of_gt (blk_lt (g := gb191) (o := .cells #[.int .i64 t186, .int .i64 t187, .int .i64 t188, .int .i64 t189] 50 (0, 0)) (by (with_reducible repeat (first | refine blk_drewN ?_ _ | refine blk_drew ?_ | refine blk_alloc ?_ _)); exact BK191.out)) : gb194 ≠ gb191)); clear BK191; clear HB; have BK191 := n0_; have HB := n1_; have BK194 := n2_; have GW194 := n3_; have GE194 := n4_; have NB191_194 := n5_; have NB194_191 := n6_; clear n0_ n1_ n2_ n3_ n4_ n5_ n6_; clear hb hbox hg; have hnb19 := NB194_191.out; have hnc19 := NB191_194.out; have hcz20_0 : w18.cell? ⟨gb194, 0, none⟩ = some (.int .i64 0) := (blk_cell BK194.out 0).trans rfl; have hcz20_1 : w18.cell? ⟨gb194, 1, none⟩ = some (.int .i64 0) := (blk_cell BK194.out 1).trans rfl; have hcz20_2 : w18.cell? ⟨gb194, 2, none⟩ = some (.int .i64 0) := (blk_cell BK194.out 2).trans rfl; have hcz20_3 : w18.cell? ⟨gb194, 3, none⟩ = some (.int .i64 0) := (blk_cell BK194.out 3).trans rfl; have hfz20_0 := blk_frozen BK194.out 0; have hfz20_1 := blk_frozen BK194.out 1; have hfz20_2 := blk_frozen BK194.out 2; have hfz20_3 := blk_frozen BK194.out 3))
                  (try simp only [Act.put, List.setIfInBounds_toArray, List.set_cons_zero, List.set_cons_succ])
                  go_cut [41] (fun v41 wc => ∃ (kq : Nat) (x41_16 : Bool), v41 = .bool x41_16 ∧ Aside0 (scrimlaw02_RectUnites.j1 kq a1 a2 l0 (l0.length : Int) x27_1 x41_16 t186 t187 t188 t189 ((rd_T50 l0 x27_1).f0) ((rd_T50 l0 x27_1).f1) ((rd_T50 l0 x27_1).f2) ((rd_T50 l0 x27_1).f3) = some r) ∧ Aside0 (kq ≤ k1) ∧ Aside0 (wc.heap[gb191]? = some (.cells #[.int .i64 t186, .int .i64 t187, .int .i64 t188, .int .i64 t189] 50 (0, 0))) ∧ Aside0 (wc.heap[gb194]? = some (.cells #[.int .i64 ((rd_T50 l0 x27_1).f0), .int .i64 ((rd_T50 l0 x27_1).f1), .int .i64 ((rd_T50 l0 x27_1).f2), .int .i64 ((rd_T50 l0 x27_1).f3)] 50 (0, 0))) ∧ Aside0 (Below w.heap.size w wc))
                  case first =>
                    have H := HC17.out
                    clear HC17
                    replace H := Option.bind_eq_some_iff.mp H
                    obtain ⟨t195, A210, H⟩ := H
                    replace H : (if t195 = true then ((rect_Has.f t186 t187 t188 t189 a1 a2).bind fun t196 => (scrimlaw02_RectUnites.j1 k1 a1 a2 l0 (l0.length : Int) x27_1 (!t196) t186 t187 t188 t189 ((rd_T50 l0 x27_1).f0) ((rd_T50 l0 x27_1).f1) ((rd_T50 l0 x27_1).f2) ((rd_T50 l0 x27_1).f3))) else (scrimlaw02_RectUnites.j1 k1 a1 a2 l0 (l0.length : Int) x27_1 false t186 t187 t188 t189 ((rd_T50 l0 x27_1).f0) ((rd_T50 l0 x27_1).f1) ((rd_T50 l0 x27_1).f2) ((rd_T50 l0 x27_1).f3))) = some r := H
                    have A21 := Aside0.mk A210
                    clear A210
                    by_cases c22 : t195 = true
                    · subst c22
                      have H1 : ((rect_Has.f t186 t187 t188 t189 a1 a2).bind fun t196 => (scrimlaw02_RectUnites.j1 k1 a1 a2 l0 (l0.length : Int) x27_1 (!t196) t186 t187 t188 t189 ((rd_T50 l0 x27_1).f0) ((rd_T50 l0 x27_1).f1) ((rd_T50 l0 x27_1).f2) ((rd_T50 l0 x27_1).f3))) = some r := by rw [if_pos rfl] at H; exact H
                      clear H
                      have H := H1
                      clear H1
                      replace H := Option.bind_eq_some_iff.mp H
                      obtain ⟨t196, A230, H⟩ := H
                      replace H : (scrimlaw02_RectUnites.j1 k1 a1 a2 l0 (l0.length : Int) x27_1 (!t196) t186 t187 t188 t189 ((rd_T50 l0 x27_1).f0) ((rd_T50 l0 x27_1).f1) ((rd_T50 l0 x27_1).f2) ((rd_T50 l0 x27_1).f3)) = some r := H
                      have A23 := Aside0.mk A230
                      clear A230
                      have H' := Aside0.mk H
                      clear H
                      have hnb24 := NB194_191.out
                      have hnc24 := NB191_194.out
                      have hcz25_0 : w18.cell? ⟨gb194, 0, none⟩ = some (.int .i64 0) := (blk_cell BK194.out 0).trans rfl
                      have hcz25_1 : w18.cell? ⟨gb194, 1, none⟩ = some (.int .i64 0) := (blk_cell BK194.out 1).trans rfl
                      have hcz25_2 : w18.cell? ⟨gb194, 2, none⟩ = some (.int .i64 0) := (blk_cell BK194.out 2).trans rfl
                      have hcz25_3 : w18.cell? ⟨gb194, 3, none⟩ = some (.int .i64 0) := (blk_cell BK194.out 3).trans rfl
                      have hfz25_0 := blk_frozen BK194.out 0
                      have hfz25_1 := blk_frozen BK194.out 1
                      have hfz25_2 := blk_frozen BK194.out 2
                      have hfz25_3 := blk_frozen BK194.out 3
                      go_wp2_with (first | ((with_reducible refine gate_callee (f := 36) rfl ?_); refine goesL_ (some 34) rfl rfl Try.func36 (by kernel_rfl) rfl #[.agg #[.int .i64 ((rd_T50 l0 x27_1).f0), .int .i64 ((rd_T50 l0 x27_1).f1), .int .i64 ((rd_T50 l0 x27_1).f2), .int .i64 ((rd_T50 l0 x27_1).f3)], .int .i64 a1, .int .i64 a2] rfl (by (try simp only [List.map_toArray, List.map_cons, List.map_nil]); first | done | rfl | (simp only [List.length_drop, List.length_take]; rfl)) ?_; (with_reducible refine (rect_Has.calls ((rd_T50 l0 x27_1).f0) ((rd_T50 l0 x27_1).f1) ((rd_T50 l0 x27_1).f2) ((rd_T50 l0 x27_1).f3) a1 a2 true _ A21.out).mono ?_); rintro e w26 ⟨rfl, hb⟩; refine ⟨_, rfl, ?_⟩; have n0_ := Aside0.mk (blk_below (g := gb191) (o := .cells #[.int .i64 t186, .int .i64 t187, .int .i64 t188, .int .i64 t189] 50 (0, 0)) (by (with_reducible repeat (first | refine blk_drewN ?_ _ | refine blk_drew ?_ | refine blk_alloc ?_ _)); refine blk_far ?_ NB191_194.out _; (with_reducible repeat (first | refine blk_drewN ?_ _ | refine blk_drew ?_ | refine blk_alloc ?_ _)); refine blk_far ?_ NB191_194.out _; (with_reducible repeat (first | refine blk_drewN ?_ _ | refine blk_drew ?_ | refine blk_alloc ?_ _)); refine blk_far ?_ NB191_194.out _; (with_reducible repeat (first | refine blk_drewN ?_ _ | refine blk_drew ?_ | refine blk_alloc ?_ _)); refine blk_far ?_ NB191_194.out _; (with_reducible repeat (first | refine blk_drewN ?_ _ | refine blk_drew ?_ | refine blk_alloc ?_ _)); exact BK191.out) hb); have n1_ := Aside0.mk (blk_below (g := gb194) (o := .cells #[.int .i64 ((rd_T50 l0 x27_1).f0), .int .i64 ((rd_T50 l0 x27_1).f1), .int .i64 ((rd_T50 l0 x27_1).f2), .int .i64 ((rd_T50 l0 x27_1).f3)] 50 (0, 0)) (by (with_reducible repeat (first | refine blk_drewN ?_ _ | refine blk_drew ?_ | refine blk_alloc ?_ _)); refine blk_put (cs := #[.int .i64 ((rd_T50 l0 x27_1).f0), .int .i64 ((rd_T50 l0 x27_1).f1), .int .i64 ((rd_T50 l0 x27_1).f2), .int .i64 0]) ?_ 3 _ rfl; (with_reducible repeat (first | refine blk_drewN ?_ _ | refine blk_drew ?_ | refine blk_alloc ?_ _)); refine blk_put (cs := #[.int .i64 ((rd_T50 l0 x27_1).f0), .int .i64 ((rd_T50 l0 x27_1).f1), .int .i64 0, .int .i64 0]) ?_ 2 _ rfl; (with_reducible repeat (first | refine blk_drewN ?_ _ | refine blk_drew ?_ | refine blk_alloc ?_ _)); refine blk_put (cs := #[.int .i64 ((rd_T50 l0 x27_1).f0), .int .i64 0, .int .i64 0, .int .i64 0]) ?_ 1 _ rfl; (with_reducible repeat (first | refine blk_drewN ?_ _ | refine blk_drew ?_ | refine blk_alloc ?_ _)); refine blk_put (cs := #[.int .i64 0, .int .i64 0, .int .i64 0, .int .i64 0]) ?_ 0 _ rfl; (with_reducible repeat (first | refine blk_drewN ?_ _ | refine blk_drew ?_ | refine blk_alloc ?_ _)); exact BK194.out) hb); have n2_ := Aside0.mk (below_step (by repeat (first | (with_reducible first | exact HB.out | apply below_alloc | apply pw_below_drewN | apply below_drew1 | refine below_set ?_ GE191.out | refine below_set ?_ GE194.out) | exact HB.out)) hb); clear BK191; clear BK194; clear HB; have BK191 := n0_; have BK194 := n1_; have HB := n2_; clear n0_ n1_ n2_; (try clear hb); (try clear hb2); (try clear hk); (try clear hi); have hcz27_0 : w26.cell? ⟨gb191, 0, none⟩ = some (.int .i64 t186) := (blk_cell BK191.out 0).trans rfl; have hcz27_1 : w26.cell? ⟨gb191, 1, none⟩ = some (.int .i64 t187) := (blk_cell BK191.out 1).trans rfl; have hcz27_2 : w26.cell? ⟨gb191, 2, none⟩ = some (.int .i64 t188) := (blk_cell BK191.out 2).trans rfl; have hcz27_3 : w26.cell? ⟨gb191, 3, none⟩ = some (.int .i64 t189) := (blk_cell BK191.out 3).trans rfl; have hfz27_0 := blk_frozen BK191.out 0; have hfz27_1 := blk_frozen BK191.out 1; have hfz27_2 := blk_frozen BK191.out 2; have hfz27_3 := blk_frozen BK191.out 3) | (go_at_call 36; (with_reducible refine (rect_Has.calls t186 t187 t188 t189 a1 a2 t196 _ A23.out).mono ?_); rintro e w28 ⟨rfl, hb⟩; have n0_ := Aside0.mk (blk_below (g := gb191) (o := .cells #[.int .i64 t186, .int .i64 t187, .int .i64 t188, .int .i64 t189] 50 (0, 0)) (by (with_reducible repeat (first | refine blk_drewN ?_ _ | refine blk_drew ?_ | refine blk_alloc ?_ _)); exact BK191.out) hb); have n1_ := Aside0.mk (blk_below (g := gb194) (o := .cells #[.int .i64 ((rd_T50 l0 x27_1).f0), .int .i64 ((rd_T50 l0 x27_1).f1), .int .i64 ((rd_T50 l0 x27_1).f2), .int .i64 ((rd_T50 l0 x27_1).f3)] 50 (0, 0)) (by (with_reducible repeat (first | refine blk_drewN ?_ _ | refine blk_drew ?_ | refine blk_alloc ?_ _)); exact BK194.out) hb); have n2_ := Aside0.mk (below_step (by repeat (first | (with_reducible first | exact HB.out | apply below_alloc | apply pw_below_drewN | apply below_drew1 | refine below_set ?_ GE191.out | refine below_set ?_ GE194.out) | exact HB.out)) hb); clear BK191; clear BK194; clear HB; have BK191 := n0_; have BK194 := n1_; have HB := n2_; clear n0_ n1_ n2_; (try clear hb); (try clear hb2); (try clear hk); (try clear hi)))
                      go_meet
                      case rel => exact ⟨_, (!t196), (by first | rfl | (simp; done) | (simp [*]; done)), H', ⟨by have := HK1.out; first | omega | exact Nat.le_refl _⟩, ⟨by (with_reducible repeat (first | refine blk_drewN ?_ _ | refine blk_drew ?_ | refine blk_alloc ?_ _)); exact BK191.out⟩, ⟨by (with_reducible repeat (first | refine blk_drewN ?_ _ | refine blk_drew ?_ | refine blk_alloc ?_ _)); exact BK194.out⟩, ⟨by repeat (first | (with_reducible first | exact HB.out | apply below_alloc | apply pw_below_drewN | apply below_drew1 | refine below_set ?_ GE191.out | refine below_set ?_ GE194.out) | exact HB.out)⟩⟩
                    · replace c22 := Bool.eq_false_iff.mpr c22
                      subst c22
                      have H1 : (scrimlaw02_RectUnites.j1 k1 a1 a2 l0 (l0.length : Int) x27_1 false t186 t187 t188 t189 ((rd_T50 l0 x27_1).f0) ((rd_T50 l0 x27_1).f1) ((rd_T50 l0 x27_1).f2) ((rd_T50 l0 x27_1).f3)) = some r := by rw [if_neg (show ¬ (false = true) by decide)] at H; exact H
                      clear H
                      have H := H1
                      clear H1
                      have H' := Aside0.mk H
                      clear H
                      have hnb29 := NB194_191.out
                      have hnc29 := NB191_194.out
                      have hcz30_0 : w18.cell? ⟨gb194, 0, none⟩ = some (.int .i64 0) := (blk_cell BK194.out 0).trans rfl
                      have hcz30_1 : w18.cell? ⟨gb194, 1, none⟩ = some (.int .i64 0) := (blk_cell BK194.out 1).trans rfl
                      have hcz30_2 : w18.cell? ⟨gb194, 2, none⟩ = some (.int .i64 0) := (blk_cell BK194.out 2).trans rfl
                      have hcz30_3 : w18.cell? ⟨gb194, 3, none⟩ = some (.int .i64 0) := (blk_cell BK194.out 3).trans rfl
                      have hfz30_0 := blk_frozen BK194.out 0
                      have hfz30_1 := blk_frozen BK194.out 1
                      have hfz30_2 := blk_frozen BK194.out 2
                      have hfz30_3 := blk_frozen BK194.out 3
                      go_wp2_with (first | ((with_reducible refine gate_callee (f := 36) rfl ?_); refine goesL_ (some 34) rfl rfl Try.func36 (by kernel_rfl) rfl #[.agg #[.int .i64 ((rd_T50 l0 x27_1).f0), .int .i64 ((rd_T50 l0 x27_1).f1), .int .i64 ((rd_T50 l0 x27_1).f2), .int .i64 ((rd_T50 l0 x27_1).f3)], .int .i64 a1, .int .i64 a2] rfl (by (try simp only [List.map_toArray, List.map_cons, List.map_nil]); first | done | rfl | (simp only [List.length_drop, List.length_take]; rfl)) ?_; (with_reducible refine (rect_Has.calls ((rd_T50 l0 x27_1).f0) ((rd_T50 l0 x27_1).f1) ((rd_T50 l0 x27_1).f2) ((rd_T50 l0 x27_1).f3) a1 a2 false _ A21.out).mono ?_); rintro e w31 ⟨rfl, hb⟩; refine ⟨_, rfl, ?_⟩; have n0_ := Aside0.mk (blk_below (g := gb191) (o := .cells #[.int .i64 t186, .int .i64 t187, .int .i64 t188, .int .i64 t189] 50 (0, 0)) (by (with_reducible repeat (first | refine blk_drewN ?_ _ | refine blk_drew ?_ | refine blk_alloc ?_ _)); refine blk_far ?_ NB191_194.out _; (with_reducible repeat (first | refine blk_drewN ?_ _ | refine blk_drew ?_ | refine blk_alloc ?_ _)); refine blk_far ?_ NB191_194.out _; (with_reducible repeat (first | refine blk_drewN ?_ _ | refine blk_drew ?_ | refine blk_alloc ?_ _)); refine blk_far ?_ NB191_194.out _; (with_reducible repeat (first | refine blk_drewN ?_ _ | refine blk_drew ?_ | refine blk_alloc ?_ _)); refine blk_far ?_ NB191_194.out _; (with_reducible repeat (first | refine blk_drewN ?_ _ | refine blk_drew ?_ | refine blk_alloc ?_ _)); exact BK191.out) hb); have n1_ := Aside0.mk (blk_below (g := gb194) (o := .cells #[.int .i64 ((rd_T50 l0 x27_1).f0), .int .i64 ((rd_T50 l0 x27_1).f1), .int .i64 ((rd_T50 l0 x27_1).f2), .int .i64 ((rd_T50 l0 x27_1).f3)] 50 (0, 0)) (by (with_reducible repeat (first | refine blk_drewN ?_ _ | refine blk_drew ?_ | refine blk_alloc ?_ _)); refine blk_put (cs := #[.int .i64 ((rd_T50 l0 x27_1).f0), .int .i64 ((rd_T50 l0 x27_1).f1), .int .i64 ((rd_T50 l0 x27_1).f2), .int .i64 0]) ?_ 3 _ rfl; (with_reducible repeat (first | refine blk_drewN ?_ _ | refine blk_drew ?_ | refine blk_alloc ?_ _)); refine blk_put (cs := #[.int .i64 ((rd_T50 l0 x27_1).f0), .int .i64 ((rd_T50 l0 x27_1).f1), .int .i64 0, .int .i64 0]) ?_ 2 _ rfl; (with_reducible repeat (first | refine blk_drewN ?_ _ | refine blk_drew ?_ | refine blk_alloc ?_ _)); refine blk_put (cs := #[.int .i64 ((rd_T50 l0 x27_1).f0), .int .i64 0, .int .i64 0, .int .i64 0]) ?_ 1 _ rfl; (with_reducible repeat (first | refine blk_drewN ?_ _ | refine blk_drew ?_ | refine blk_alloc ?_ _)); refine blk_put (cs := #[.int .i64 0, .int .i64 0, .int .i64 0, .int .i64 0]) ?_ 0 _ rfl; (with_reducible repeat (first | refine blk_drewN ?_ _ | refine blk_drew ?_ | refine blk_alloc ?_ _)); exact BK194.out) hb); have n2_ := Aside0.mk (below_step (by repeat (first | (with_reducible first | exact HB.out | apply below_alloc | apply pw_below_drewN | apply below_drew1 | refine below_set ?_ GE191.out | refine below_set ?_ GE194.out) | exact HB.out)) hb); clear BK191; clear BK194; clear HB; have BK191 := n0_; have BK194 := n1_; have HB := n2_; clear n0_ n1_ n2_; (try clear hb); (try clear hb2); (try clear hk); (try clear hi)))
                      go_meet
                      case rel => exact ⟨_, (false), (by first | rfl | (simp; done) | (simp [*]; done)), H', ⟨by have := HK1.out; first | omega | exact Nat.le_refl _⟩, ⟨by (with_reducible repeat (first | refine blk_drewN ?_ _ | refine blk_drew ?_ | refine blk_alloc ?_ _)); exact BK191.out⟩, ⟨by (with_reducible repeat (first | refine blk_drewN ?_ _ | refine blk_drew ?_ | refine blk_alloc ?_ _)); exact BK194.out⟩, ⟨by repeat (first | (with_reducible first | exact HB.out | apply below_alloc | apply pw_below_drewN | apply below_drew1 | refine below_set ?_ GE191.out | refine below_set ?_ GE194.out) | exact HB.out)⟩⟩
                  case rest =>
                    clear HC17
                    try clear c1
                    try clear p1
                    try clear q1
                    try clear hx1
                    try clear c2
                    try clear p2
                    try clear c3
                    try clear c5
                    try clear c6
                    try clear c6b0
                    try clear c6b1
                    try clear c9
                    try clear c14
                    try clear c14b0
                    try clear c15
                    try clear c15b0
                    try clear c16
                    try clear c16b0
                    try clear c19
                    try clear p19
                    try clear q19
                    try clear hx19
                    try clear c22
                    try clear c24
                    try clear c25
                    try clear c29
                    try clear c30
                    try clear hcz13_0
                    try clear hcz13_1
                    try clear hcz13_2
                    try clear hcz13_3
                    try clear hcz20_0
                    try clear hcz20_1
                    try clear hcz20_2
                    try clear hcz20_3
                    try clear hcz25_0
                    try clear hcz25_1
                    try clear hcz25_2
                    try clear hcz25_3
                    try clear hcz27_0
                    try clear hcz27_1
                    try clear hcz27_2
                    try clear hcz27_3
                    try clear hcz30_0
                    try clear hcz30_1
                    try clear hcz30_2
                    try clear hcz30_3
                    try clear hfz13_0
                    try clear hfz13_1
                    try clear hfz13_2
                    try clear hfz13_3
                    try clear hfz20_0
                    try clear hfz20_1
                    try clear hfz20_2
                    try clear hfz20_3
                    try clear hfz25_0
                    try clear hfz25_1
                    try clear hfz25_2
                    try clear hfz25_3
                    try clear hfz27_0
                    try clear hfz27_1
                    try clear hfz27_2
                    try clear hfz27_3
                    try clear hfz30_0
                    try clear hfz30_1
                    try clear hfz30_2
                    try clear hfz30_3
                    try clear hx193_0
                    try clear hx193_1
                    try clear hx193_2
                    try clear hx193_3
                    try clear p193
                    try clear p2
                    try clear q193
                    obtain ⟨kq, x41_16, rfl, HA, HJ16, BK191, BK194, HB⟩ := hcut
                    cases kq with
                    | zero => exact absurd HA.out (by simp [scrimlaw02_RectUnites.j1])
                    | succ kj16 =>
                      have H := HA.out
                      clear HA
                      simp only [scrimlaw02_RectUnites.j1] at H
                      by_cases c32 : x41_16 = true
                      · subst c32
                        have H1 : (some false) = some r := by rw [if_pos rfl] at H; exact H
                        clear H
                        have H := H1
                        clear H1
                        obtain rfl := Option.some.inj H
                        go_wp2
                        go_ret
                        exact ⟨by first | rfl | (simp [errW_none, errW_some] <;> rfl) | (simp [*, errW_none, errW_some] <;> rfl), by repeat (first | (with_reducible first | exact HB.out | apply below_alloc | apply pw_below_drewN | apply below_drew1 | refine below_set ?_ GE191.out | refine below_set ?_ GE194.out) | exact HB.out)⟩
                      · replace c32 := Bool.eq_false_iff.mpr c32
                        subst c32
                        have H1 : ((rect_Meet.f kj16 t186 t187 t188 t189 ((rd_T50 l0 x27_1).f0) ((rd_T50 l0 x27_1).f1) ((rd_T50 l0 x27_1).f2) ((rd_T50 l0 x27_1).f3)).bind fun bt197 => (if ((rd_T50 l0 x27_1).f2) > 0 then (if ((rd_T50 l0 x27_1).f3) > 0 then (if bt197.2.2.2.2 = true then (if (!(bt197.1 == ((rd_T50 l0 x27_1).f0)) || (!(bt197.2.1 == ((rd_T50 l0 x27_1).f1)) || (!(bt197.2.2.1 == ((rd_T50 l0 x27_1).f2)) || (!(bt197.2.2.2.1 == ((rd_T50 l0 x27_1).f3)))))) = true then (some false) else (scrimlaw02_RectUnites.l0 kj16 a1 a2 l0 (l0.length : Int) (wrap64 (x27_1 + 1)) t186 t187 t188 t189)) else (some false)) else (scrimlaw02_RectUnites.l0 kj16 a1 a2 l0 (l0.length : Int) (wrap64 (x27_1 + 1)) t186 t187 t188 t189)) else (scrimlaw02_RectUnites.l0 kj16 a1 a2 l0 (l0.length : Int) (wrap64 (x27_1 + 1)) t186 t187 t188 t189))) = some r := by rw [if_neg (show ¬ (false = true) by decide)] at H; exact H
                        clear H
                        have H := H1
                        clear H1
                        replace H := Option.bind_eq_some_iff.mp H
                        obtain ⟨⟨t197, t198, t199, t200, t201⟩, A330, H⟩ := H
                        replace H : (if ((rd_T50 l0 x27_1).f2) > 0 then (if ((rd_T50 l0 x27_1).f3) > 0 then (if t201 = true then (if (!(t197 == ((rd_T50 l0 x27_1).f0)) || (!(t198 == ((rd_T50 l0 x27_1).f1)) || (!(t199 == ((rd_T50 l0 x27_1).f2)) || (!(t200 == ((rd_T50 l0 x27_1).f3)))))) = true then (some false) else (scrimlaw02_RectUnites.l0 kj16 a1 a2 l0 (l0.length : Int) (wrap64 (x27_1 + 1)) t186 t187 t188 t189)) else (some false)) else (scrimlaw02_RectUnites.l0 kj16 a1 a2 l0 (l0.length : Int) (wrap64 (x27_1 + 1)) t186 t187 t188 t189)) else (scrimlaw02_RectUnites.l0 kj16 a1 a2 l0 (l0.length : Int) (wrap64 (x27_1 + 1)) t186 t187 t188 t189)) = some r := H
                        have A33 := Aside0.mk A330
                        clear A330
                        by_cases c34 : ((rd_T50 l0 x27_1).f2) > 0
                        · rw [if_pos c34] at H
                          have c34b0 : decide (0 < ((rd_T50 l0 x27_1).f2)) = true := decide_eq_true c34
                          clear c34
                          by_cases c35 : ((rd_T50 l0 x27_1).f3) > 0
                          · rw [if_pos c35] at H
                            have c35b0 : decide (0 < ((rd_T50 l0 x27_1).f3)) = true := decide_eq_true c35
                            clear c35
                            by_cases c36 : t201 = true
                            · subst c36
                              have H1 : (if (!(t197 == ((rd_T50 l0 x27_1).f0)) || (!(t198 == ((rd_T50 l0 x27_1).f1)) || (!(t199 == ((rd_T50 l0 x27_1).f2)) || (!(t200 == ((rd_T50 l0 x27_1).f3)))))) = true then (some false) else (scrimlaw02_RectUnites.l0 kj16 a1 a2 l0 (l0.length : Int) (wrap64 (x27_1 + 1)) t186 t187 t188 t189)) = some r := by rw [if_pos rfl] at H; exact H
                              clear H
                              have H := H1
                              clear H1
                              by_cases c37 : (!(t197 == ((rd_T50 l0 x27_1).f0)) || (!(t198 == ((rd_T50 l0 x27_1).f1)) || (!(t199 == ((rd_T50 l0 x27_1).f2)) || (!(t200 == ((rd_T50 l0 x27_1).f3)))))) = true
                              · rw [if_pos c37] at H
                                have c37b0 : (!(t197 == ((rd_T50 l0 x27_1).f0)) || (!(t198 == ((rd_T50 l0 x27_1).f1)) || (!(t199 == ((rd_T50 l0 x27_1).f2)) || (!(t200 == ((rd_T50 l0 x27_1).f3)))))) = true := c37
                                clear c37
                                obtain rfl := Option.some.inj H
                                have hnb38 := NB191_194.out
                                have hnc38 := NB194_191.out
                                have hcz39_0 : wc.cell? ⟨gb191, 0, none⟩ = some (.int .i64 t186) := (blk_cell BK191.out 0).trans rfl
                                have hcz39_1 : wc.cell? ⟨gb191, 1, none⟩ = some (.int .i64 t187) := (blk_cell BK191.out 1).trans rfl
                                have hcz39_2 : wc.cell? ⟨gb191, 2, none⟩ = some (.int .i64 t188) := (blk_cell BK191.out 2).trans rfl
                                have hcz39_3 : wc.cell? ⟨gb191, 3, none⟩ = some (.int .i64 t189) := (blk_cell BK191.out 3).trans rfl
                                have hfz39_0 := blk_frozen BK191.out 0
                                have hfz39_1 := blk_frozen BK191.out 1
                                have hfz39_2 := blk_frozen BK191.out 2
                                have hfz39_3 := blk_frozen BK191.out 3
                                have hcz40_0 : wc.cell? ⟨gb194, 0, none⟩ = some (.int .i64 ((rd_T50 l0 x27_1).f0)) := (blk_cell BK194.out 0).trans rfl
                                have hcz40_1 : wc.cell? ⟨gb194, 1, none⟩ = some (.int .i64 ((rd_T50 l0 x27_1).f1)) := (blk_cell BK194.out 1).trans rfl
                                have hcz40_2 : wc.cell? ⟨gb194, 2, none⟩ = some (.int .i64 ((rd_T50 l0 x27_1).f2)) := (blk_cell BK194.out 2).trans rfl
                                have hcz40_3 : wc.cell? ⟨gb194, 3, none⟩ = some (.int .i64 ((rd_T50 l0 x27_1).f3)) := (blk_cell BK194.out 3).trans rfl
                                have hfz40_0 := blk_frozen BK194.out 0
                                have hfz40_1 := blk_frozen BK194.out 1
                                have hfz40_2 := blk_frozen BK194.out 2
                                have hfz40_3 := blk_frozen BK194.out 3
                                go_wp2_with (first | ((with_reducible refine gate_callee (f := 32) rfl ?_); refine goesL_ (some 45) rfl rfl Try.func32 (by kernel_rfl) rfl #[.agg #[.int .i64 t186, .int .i64 t187, .int .i64 t188, .int .i64 t189], .agg #[.int .i64 ((rd_T50 l0 x27_1).f0), .int .i64 ((rd_T50 l0 x27_1).f1), .int .i64 ((rd_T50 l0 x27_1).f2), .int .i64 ((rd_T50 l0 x27_1).f3)]] rfl (by (try simp only [List.map_toArray, List.map_cons, List.map_nil]); first | done | rfl | (simp only [List.length_drop, List.length_take]; rfl)) ?_; (with_reducible refine (rect_Meet.calls kj16 t186 t187 t188 t189 ((rd_T50 l0 x27_1).f0) ((rd_T50 l0 x27_1).f1) ((rd_T50 l0 x27_1).f2) ((rd_T50 l0 x27_1).f3) t197 t198 t199 t200 true _ A33.out).mono ?_); rintro e w41 ⟨rfl, hb⟩; refine ⟨_, rfl, ?_⟩; have n0_ := Aside0.mk (blk_below (g := gb191) (o := .cells #[.int .i64 t186, .int .i64 t187, .int .i64 t188, .int .i64 t189] 50 (0, 0)) (by (with_reducible repeat (first | refine blk_drewN ?_ _ | refine blk_drew ?_ | refine blk_alloc ?_ _)); exact BK191.out) hb); have n1_ := Aside0.mk (blk_below (g := gb194) (o := .cells #[.int .i64 ((rd_T50 l0 x27_1).f0), .int .i64 ((rd_T50 l0 x27_1).f1), .int .i64 ((rd_T50 l0 x27_1).f2), .int .i64 ((rd_T50 l0 x27_1).f3)] 50 (0, 0)) (by (with_reducible repeat (first | refine blk_drewN ?_ _ | refine blk_drew ?_ | refine blk_alloc ?_ _)); exact BK194.out) hb); have n2_ := Aside0.mk (below_step (by repeat (first | (with_reducible first | exact HB.out | apply below_alloc | apply pw_below_drewN | apply below_drew1 | refine below_set ?_ GE191.out | refine below_set ?_ GE194.out) | exact HB.out)) hb); clear BK191; clear BK194; clear HB; have BK191 := n0_; have BK194 := n1_; have HB := n2_; clear n0_ n1_ n2_; (try clear hb); (try clear hb2); (try clear hk); (try clear hi)) | ((with_reducible refine gate_dst (N := 11) rfl ?_); refine box_event ?hg (N := 11) ?hd (cs := #[.int .i64 0, .int .i64 0, .int .i64 0, .int .i64 0]) (t := 50) ?hr ?_; (case hd => rfl); (case hg => rfl); (case hr => first | (go_simp; done) | (go_simp; rfl)); intro gb202 hg w42 hbox hb; have n0_ := Aside0.mk (blk_below (g := gb191) (o := .cells #[.int .i64 t186, .int .i64 t187, .int .i64 t188, .int .i64 t189] 50 (0, 0)) (by (with_reducible repeat (first | refine blk_drewN ?_ _ | refine blk_drew ?_ | refine blk_alloc ?_ _)); exact BK191.out) hb); have n1_ := Aside0.mk (blk_below (g := gb194) (o := .cells #[.int .i64 ((rd_T50 l0 x27_1).f0), .int .i64 ((rd_T50 l0 x27_1).f1), .int .i64 ((rd_T50 l0 x27_1).f2), .int .i64 ((rd_T50 l0 x27_1).f3)] 50 (0, 0)) (by (with_reducible repeat (first | refine blk_drewN ?_ _ | refine blk_drew ?_ | refine blk_alloc ?_ _)); exact BK194.out) hb); have n2_ := Aside0.mk (below_step (by repeat (first | (with_reducible first | exact HB.out | apply below_alloc | apply pw_below_drewN | apply below_drew1 | refine below_set ?_ GE191.out | refine below_set ?_ GE194.out) | exact HB.out)) hb); have n3_ := Aside0.mk (hbox); have n4_ := Aside0.mk ((by rw [hg]; exact (below_size (by repeat (first | (with_reducible first | exact HB.out | apply below_alloc | apply pw_below_drewN | apply below_drew1 | refine below_set ?_ GE191.out | refine below_set ?_ GE194.out) | exact HB.out))) : w.heap.size ≤ gb202)); have n5_ := Aside0.mk ((by rw [hg]; exact (below_size (by repeat (first | (with_reducible first | exact HB.out | apply below_alloc | apply pw_below_drewN | apply below_drew1 | refine below_set ?_ GE191.out | refine below_set ?_ GE194.out) | exact HB.out))) : w.heap.size ≤ gb202)); have n6_ := Aside0.mk ((by rw [hg]; exact Nat.ne_of_lt (blk_lt (g := gb191) (o := .cells #[.int .i64 t186, .int .i64 t187, .int .i64 t188, .int .i64 t189] 50 (0, 0)) (by (with_reducible repeat (first | refine blk_drewN ?_ _ | refine blk_drew ?_ | refine blk_alloc ?_ _)); exact BK191.out)) : gb191 ≠ gb202)); have n7_ := Aside0.mk ((by rw [hg]; exact Nat.ne_of_gt (blk_lt (g := gb191) (o := .cells #[.int .i64 t186, .int .i64 t187, .int .i64 t188, .int .i64 t189] 50 (0, 0)) (by (with_reducible repeat (first | refine blk_drewN ?_ _ | refine blk_drew ?_ | refine blk_alloc ?_ _)); exact BK191.out)) : gb202 ≠ gb191)); have n8_ := Aside0.mk ((by rw [hg]; exact Nat.ne_of_lt (blk_lt (g := gb194) (o := .cells #[.int .i64 ((rd_T50 l0 x27_1).f0), .int .i64 ((rd_T50 l0 x27_1).f1), .int .i64 ((rd_T50 l0 x27_1).f2), .int .i64 ((rd_T50 l0 x27_1).f3)] 50 (0, 0)) (by (with_reducible repeat (first | refine blk_drewN ?_ _ | refine blk_drew ?_ | refine blk_alloc ?_ _)); exact BK194.out)) : gb194 ≠ gb202)); have n9_ := Aside0.mk ((by rw [hg]; exact Nat.ne_of_gt (blk_lt (g := gb194) (o := .cells #[.int .i64 ((rd_T50 l0 x27_1).f0), .int .i64 ((rd_T50 l0 x27_1).f1), .int .i64 ((rd_T50 l0 x27_1).f2), .int .i64 ((rd_T50 l0 x27_1).f3)] 50 (0, 0)) (by (with_reducible repeat (first | refine blk_drewN ?_ _ | refine blk_drew ?_ | refine blk_alloc ?_ _)); exact BK194.out)) : gb202 ≠ gb194)); clear BK191; clear BK194; clear HB; have BK191 := n0_; have BK194 := n1_; have HB := n2_; have BK202 := n3_; have GW202 := n4_; have GE202 := n5_; have NB191_202 := n6_; have NB202_191 := n7_; have NB194_202 := n8_; have NB202_194 := n9_; clear n0_ n1_ n2_ n3_ n4_ n5_ n6_ n7_ n8_ n9_; clear hb hbox hg; have hnb43 := NB202_191.out; have hnc43 := NB191_202.out; have hnb44 := NB202_194.out; have hnc44 := NB194_202.out; have hcz45_0 : w42.cell? ⟨gb202, 0, none⟩ = some (.int .i64 0) := (blk_cell BK202.out 0).trans rfl; have hcz45_1 : w42.cell? ⟨gb202, 1, none⟩ = some (.int .i64 0) := (blk_cell BK202.out 1).trans rfl; have hcz45_2 : w42.cell? ⟨gb202, 2, none⟩ = some (.int .i64 0) := (blk_cell BK202.out 2).trans rfl; have hcz45_3 : w42.cell? ⟨gb202, 3, none⟩ = some (.int .i64 0) := (blk_cell BK202.out 3).trans rfl; have hfz45_0 := blk_frozen BK202.out 0; have hfz45_1 := blk_frozen BK202.out 1; have hfz45_2 := blk_frozen BK202.out 2; have hfz45_3 := blk_frozen BK202.out 3; have hcz46_0 : w42.cell? ⟨gb194, 0, none⟩ = some (.int .i64 ((rd_T50 l0 x27_1).f0)) := (blk_cell BK194.out 0).trans rfl; have hcz46_1 : w42.cell? ⟨gb194, 1, none⟩ = some (.int .i64 ((rd_T50 l0 x27_1).f1)) := (blk_cell BK194.out 1).trans rfl; have hcz46_2 : w42.cell? ⟨gb194, 2, none⟩ = some (.int .i64 ((rd_T50 l0 x27_1).f2)) := (blk_cell BK194.out 2).trans rfl; have hcz46_3 : w42.cell? ⟨gb194, 3, none⟩ = some (.int .i64 ((rd_T50 l0 x27_1).f3)) := (blk_cell BK194.out 3).trans rfl; have hfz46_0 := blk_frozen BK194.out 0; have hfz46_1 := blk_frozen BK194.out 1; have hfz46_2 := blk_frozen BK194.out 2; have hfz46_3 := blk_frozen BK194.out 3))
                                go_ret
                                exact ⟨by first | rfl | (simp [errW_none, errW_some] <;> rfl) | (simp [*, errW_none, errW_some] <;> rfl), by repeat (first | (with_reducible first | exact HB.out | apply below_alloc | apply pw_below_drewN | apply below_drew1 | refine below_set ?_ GE191.out | refine below_set ?_ GE194.out | refine below_set ?_ GE202.out) | exact HB.out)⟩
                              · rw [if_neg c37] at H
                                have c37b0 : (!(t197 == ((rd_T50 l0 x27_1).f0)) || (!(t198 == ((rd_T50 l0 x27_1).f1)) || (!(t199 == ((rd_T50 l0 x27_1).f2)) || (!(t200 == ((rd_T50 l0 x27_1).f3)))))) = false := by simpa using c37
                                clear c37
                                have H' := Aside0.mk H
                                clear H
                                have hnb47 := NB191_194.out
                                have hnc47 := NB194_191.out
                                have hcz48_0 : wc.cell? ⟨gb191, 0, none⟩ = some (.int .i64 t186) := (blk_cell BK191.out 0).trans rfl
                                have hcz48_1 : wc.cell? ⟨gb191, 1, none⟩ = some (.int .i64 t187) := (blk_cell BK191.out 1).trans rfl
                                have hcz48_2 : wc.cell? ⟨gb191, 2, none⟩ = some (.int .i64 t188) := (blk_cell BK191.out 2).trans rfl
                                have hcz48_3 : wc.cell? ⟨gb191, 3, none⟩ = some (.int .i64 t189) := (blk_cell BK191.out 3).trans rfl
                                have hfz48_0 := blk_frozen BK191.out 0
                                have hfz48_1 := blk_frozen BK191.out 1
                                have hfz48_2 := blk_frozen BK191.out 2
                                have hfz48_3 := blk_frozen BK191.out 3
                                have hcz49_0 : wc.cell? ⟨gb194, 0, none⟩ = some (.int .i64 ((rd_T50 l0 x27_1).f0)) := (blk_cell BK194.out 0).trans rfl
                                have hcz49_1 : wc.cell? ⟨gb194, 1, none⟩ = some (.int .i64 ((rd_T50 l0 x27_1).f1)) := (blk_cell BK194.out 1).trans rfl
                                have hcz49_2 : wc.cell? ⟨gb194, 2, none⟩ = some (.int .i64 ((rd_T50 l0 x27_1).f2)) := (blk_cell BK194.out 2).trans rfl
                                have hcz49_3 : wc.cell? ⟨gb194, 3, none⟩ = some (.int .i64 ((rd_T50 l0 x27_1).f3)) := (blk_cell BK194.out 3).trans rfl
                                have hfz49_0 := blk_frozen BK194.out 0
                                have hfz49_1 := blk_frozen BK194.out 1
                                have hfz49_2 := blk_frozen BK194.out 2
                                have hfz49_3 := blk_frozen BK194.out 3
                                go_wp2_with (first | ((with_reducible refine gate_callee (f := 32) rfl ?_); refine goesL_ (some 45) rfl rfl Try.func32 (by kernel_rfl) rfl #[.agg #[.int .i64 t186, .int .i64 t187, .int .i64 t188, .int .i64 t189], .agg #[.int .i64 ((rd_T50 l0 x27_1).f0), .int .i64 ((rd_T50 l0 x27_1).f1), .int .i64 ((rd_T50 l0 x27_1).f2), .int .i64 ((rd_T50 l0 x27_1).f3)]] rfl (by (try simp only [List.map_toArray, List.map_cons, List.map_nil]); first | done | rfl | (simp only [List.length_drop, List.length_take]; rfl)) ?_; (with_reducible refine (rect_Meet.calls kj16 t186 t187 t188 t189 ((rd_T50 l0 x27_1).f0) ((rd_T50 l0 x27_1).f1) ((rd_T50 l0 x27_1).f2) ((rd_T50 l0 x27_1).f3) t197 t198 t199 t200 true _ A33.out).mono ?_); rintro e w50 ⟨rfl, hb⟩; refine ⟨_, rfl, ?_⟩; have n0_ := Aside0.mk (blk_below (g := gb191) (o := .cells #[.int .i64 t186, .int .i64 t187, .int .i64 t188, .int .i64 t189] 50 (0, 0)) (by (with_reducible repeat (first | refine blk_drewN ?_ _ | refine blk_drew ?_ | refine blk_alloc ?_ _)); exact BK191.out) hb); have n1_ := Aside0.mk (blk_below (g := gb194) (o := .cells #[.int .i64 ((rd_T50 l0 x27_1).f0), .int .i64 ((rd_T50 l0 x27_1).f1), .int .i64 ((rd_T50 l0 x27_1).f2), .int .i64 ((rd_T50 l0 x27_1).f3)] 50 (0, 0)) (by (with_reducible repeat (first | refine blk_drewN ?_ _ | refine blk_drew ?_ | refine blk_alloc ?_ _)); exact BK194.out) hb); have n2_ := Aside0.mk (below_step (by repeat (first | (with_reducible first | exact HB.out | apply below_alloc | apply pw_below_drewN | apply below_drew1 | refine below_set ?_ GE191.out | refine below_set ?_ GE194.out) | exact HB.out)) hb); clear BK191; clear BK194; clear HB; have BK191 := n0_; have BK194 := n1_; have HB := n2_; clear n0_ n1_ n2_; (try clear hb); (try clear hb2); (try clear hk); (try clear hi)) | ((with_reducible refine gate_dst (N := 11) rfl ?_); refine box_event ?hg (N := 11) ?hd (cs := #[.int .i64 0, .int .i64 0, .int .i64 0, .int .i64 0]) (t := 50) ?hr ?_; (case hd => rfl); (case hg => rfl); (case hr => first | (go_simp; done) | (go_simp; rfl)); intro gb202 hg w51 hbox hb; have n0_ := Aside0.mk (blk_below (g := gb191) (o := .cells #[.int .i64 t186, .int .i64 t187, .int .i64 t188, .int .i64 t189] 50 (0, 0)) (by (with_reducible repeat (first | refine blk_drewN ?_ _ | refine blk_drew ?_ | refine blk_alloc ?_ _)); exact BK191.out) hb); have n1_ := Aside0.mk (blk_below (g := gb194) (o := .cells #[.int .i64 ((rd_T50 l0 x27_1).f0), .int .i64 ((rd_T50 l0 x27_1).f1), .int .i64 ((rd_T50 l0 x27_1).f2), .int .i64 ((rd_T50 l0 x27_1).f3)] 50 (0, 0)) (by (with_reducible repeat (first | refine blk_drewN ?_ _ | refine blk_drew ?_ | refine blk_alloc ?_ _)); exact BK194.out) hb); have n2_ := Aside0.mk (below_step (by repeat (first | (with_reducible first | exact HB.out | apply below_alloc | apply pw_below_drewN | apply below_drew1 | refine below_set ?_ GE191.out | refine below_set ?_ GE194.out) | exact HB.out)) hb); have n3_ := Aside0.mk (hbox); have n4_ := Aside0.mk ((by rw [hg]; exact (below_size (by repeat (first | (with_reducible first | exact HB.out | apply below_alloc | apply pw_below_drewN | apply below_drew1 | refine below_set ?_ GE191.out | refine below_set ?_ GE194.out) | exact HB.out))) : w.heap.size ≤ gb202)); have n5_ := Aside0.mk ((by rw [hg]; exact (below_size (by repeat (first | (with_reducible first | exact HB.out | apply below_alloc | apply pw_below_drewN | apply below_drew1 | refine below_set ?_ GE191.out | refine below_set ?_ GE194.out) | exact HB.out))) : w.heap.size ≤ gb202)); have n6_ := Aside0.mk ((by rw [hg]; exact Nat.ne_of_lt (blk_lt (g := gb191) (o := .cells #[.int .i64 t186, .int .i64 t187, .int .i64 t188, .int .i64 t189] 50 (0, 0)) (by (with_reducible repeat (first | refine blk_drewN ?_ _ | refine blk_drew ?_ | refine blk_alloc ?_ _)); exact BK191.out)) : gb191 ≠ gb202)); have n7_ := Aside0.mk ((by rw [hg]; exact Nat.ne_of_gt (blk_lt (g := gb191) (o := .cells #[.int .i64 t186, .int .i64 t187, .int .i64 t188, .int .i64 t189] 50 (0, 0)) (by (with_reducible repeat (first | refine blk_drewN ?_ _ | refine blk_drew ?_ | refine blk_alloc ?_ _)); exact BK191.out)) : gb202 ≠ gb191)); have n8_ := Aside0.mk ((by rw [hg]; exact Nat.ne_of_lt (blk_lt (g := gb194) (o := .cells #[.int .i64 ((rd_T50 l0 x27_1).f0), .int .i64 ((rd_T50 l0 x27_1).f1), .int .i64 ((rd_T50 l0 x27_1).f2), .int .i64 ((rd_T50 l0 x27_1).f3)] 50 (0, 0)) (by (with_reducible repeat (first | refine blk_drewN ?_ _ | refine blk_drew ?_ | refine blk_alloc ?_ _)); exact BK194.out)) : gb194 ≠ gb202)); have n9_ := Aside0.mk ((by rw [hg]; exact Nat.ne_of_gt (blk_lt (g := gb194) (o := .cells #[.int .i64 ((rd_T50 l0 x27_1).f0), .int .i64 ((rd_T50 l0 x27_1).f1), .int .i64 ((rd_T50 l0 x27_1).f2), .int .i64 ((rd_T50 l0 x27_1).f3)] 50 (0, 0)) (by (with_reducible repeat (first | refine blk_drewN ?_ _ | refine blk_drew ?_ | refine blk_alloc ?_ _)); exact BK194.out)) : gb202 ≠ gb194)); clear BK191; clear BK194; clear HB; have BK191 := n0_; have BK194 := n1_; have HB := n2_; have BK202 := n3_; have GW202 := n4_; have GE202 := n5_; have NB191_202 := n6_; have NB202_191 := n7_; have NB194_202 := n8_; have NB202_194 := n9_; clear n0_ n1_ n2_ n3_ n4_ n5_ n6_ n7_ n8_ n9_; clear hb hbox hg; have hnb52 := NB202_191.out; have hnc52 := NB191_202.out; have hnb53 := NB202_194.out; have hnc53 := NB194_202.out; have hcz54_0 : w51.cell? ⟨gb202, 0, none⟩ = some (.int .i64 0) := (blk_cell BK202.out 0).trans rfl; have hcz54_1 : w51.cell? ⟨gb202, 1, none⟩ = some (.int .i64 0) := (blk_cell BK202.out 1).trans rfl; have hcz54_2 : w51.cell? ⟨gb202, 2, none⟩ = some (.int .i64 0) := (blk_cell BK202.out 2).trans rfl; have hcz54_3 : w51.cell? ⟨gb202, 3, none⟩ = some (.int .i64 0) := (blk_cell BK202.out 3).trans rfl; have hfz54_0 := blk_frozen BK202.out 0; have hfz54_1 := blk_frozen BK202.out 1; have hfz54_2 := blk_frozen BK202.out 2; have hfz54_3 := blk_frozen BK202.out 3; have hcz55_0 : w51.cell? ⟨gb194, 0, none⟩ = some (.int .i64 ((rd_T50 l0 x27_1).f0)) := (blk_cell BK194.out 0).trans rfl; have hcz55_1 : w51.cell? ⟨gb194, 1, none⟩ = some (.int .i64 ((rd_T50 l0 x27_1).f1)) := (blk_cell BK194.out 1).trans rfl; have hcz55_2 : w51.cell? ⟨gb194, 2, none⟩ = some (.int .i64 ((rd_T50 l0 x27_1).f2)) := (blk_cell BK194.out 2).trans rfl; have hcz55_3 : w51.cell? ⟨gb194, 3, none⟩ = some (.int .i64 ((rd_T50 l0 x27_1).f3)) := (blk_cell BK194.out 3).trans rfl; have hfz55_0 := blk_frozen BK194.out 0; have hfz55_1 := blk_frozen BK194.out 1; have hfz55_2 := blk_frozen BK194.out 2; have hfz55_3 := blk_frozen BK194.out 3))
                                go_roundg kj16
                                case measure => have := HK1.out; have := HJ16.out; omega
                                case rel => exact ⟨(wrap64 (x27_1 + 1)), (by first | rfl | (simp; done) | (simp [*]; done)), H', ⟨by have := HK1.out; have := HJ16.out; omega⟩, ⟨by (with_reducible repeat (first | refine blk_drewN ?_ _ | refine blk_drew ?_ | refine blk_alloc ?_ _)); refine blk_far ?_ NB191_202.out _; (with_reducible repeat (first | refine blk_drewN ?_ _ | refine blk_drew ?_ | refine blk_alloc ?_ _)); refine blk_far ?_ NB191_202.out _; (with_reducible repeat (first | refine blk_drewN ?_ _ | refine blk_drew ?_ | refine blk_alloc ?_ _)); refine blk_far ?_ NB191_202.out _; (with_reducible repeat (first | refine blk_drewN ?_ _ | refine blk_drew ?_ | refine blk_alloc ?_ _)); refine blk_far ?_ NB191_202.out _; (with_reducible repeat (first | refine blk_drewN ?_ _ | refine blk_drew ?_ | refine blk_alloc ?_ _)); exact BK191.out⟩, ⟨by repeat (first | (with_reducible first | exact HB.out | apply below_alloc | apply pw_below_drewN | apply below_drew1 | refine below_set ?_ GE191.out | refine below_set ?_ GE194.out | refine below_set ?_ GE202.out) | exact HB.out)⟩⟩
                            · replace c36 := Bool.eq_false_iff.mpr c36
                              subst c36
                              have H1 : (some false) = some r := by rw [if_neg (show ¬ (false = true) by decide)] at H; exact H
                              clear H
                              have H := H1
                              clear H1
                              obtain rfl := Option.some.inj H
                              have hnb56 := NB191_194.out
                              have hnc56 := NB194_191.out
                              have hcz57_0 : wc.cell? ⟨gb191, 0, none⟩ = some (.int .i64 t186) := (blk_cell BK191.out 0).trans rfl
                              have hcz57_1 : wc.cell? ⟨gb191, 1, none⟩ = some (.int .i64 t187) := (blk_cell BK191.out 1).trans rfl
                              have hcz57_2 : wc.cell? ⟨gb191, 2, none⟩ = some (.int .i64 t188) := (blk_cell BK191.out 2).trans rfl
                              have hcz57_3 : wc.cell? ⟨gb191, 3, none⟩ = some (.int .i64 t189) := (blk_cell BK191.out 3).trans rfl
                              have hfz57_0 := blk_frozen BK191.out 0
                              have hfz57_1 := blk_frozen BK191.out 1
                              have hfz57_2 := blk_frozen BK191.out 2
                              have hfz57_3 := blk_frozen BK191.out 3
                              have hcz58_0 : wc.cell? ⟨gb194, 0, none⟩ = some (.int .i64 ((rd_T50 l0 x27_1).f0)) := (blk_cell BK194.out 0).trans rfl
                              have hcz58_1 : wc.cell? ⟨gb194, 1, none⟩ = some (.int .i64 ((rd_T50 l0 x27_1).f1)) := (blk_cell BK194.out 1).trans rfl
                              have hcz58_2 : wc.cell? ⟨gb194, 2, none⟩ = some (.int .i64 ((rd_T50 l0 x27_1).f2)) := (blk_cell BK194.out 2).trans rfl
                              have hcz58_3 : wc.cell? ⟨gb194, 3, none⟩ = some (.int .i64 ((rd_T50 l0 x27_1).f3)) := (blk_cell BK194.out 3).trans rfl
                              have hfz58_0 := blk_frozen BK194.out 0
                              have hfz58_1 := blk_frozen BK194.out 1
                              have hfz58_2 := blk_frozen BK194.out 2
                              have hfz58_3 := blk_frozen BK194.out 3
                              go_wp2_with (first | ((with_reducible refine gate_callee (f := 32) rfl ?_); refine goesL_ (some 45) rfl rfl Try.func32 (by kernel_rfl) rfl #[.agg #[.int .i64 t186, .int .i64 t187, .int .i64 t188, .int .i64 t189], .agg #[.int .i64 ((rd_T50 l0 x27_1).f0), .int .i64 ((rd_T50 l0 x27_1).f1), .int .i64 ((rd_T50 l0 x27_1).f2), .int .i64 ((rd_T50 l0 x27_1).f3)]] rfl (by (try simp only [List.map_toArray, List.map_cons, List.map_nil]); first | done | rfl | (simp only [List.length_drop, List.length_take]; rfl)) ?_; (with_reducible refine (rect_Meet.calls kj16 t186 t187 t188 t189 ((rd_T50 l0 x27_1).f0) ((rd_T50 l0 x27_1).f1) ((rd_T50 l0 x27_1).f2) ((rd_T50 l0 x27_1).f3) t197 t198 t199 t200 false _ A33.out).mono ?_); rintro e w59 ⟨rfl, hb⟩; refine ⟨_, rfl, ?_⟩; have n0_ := Aside0.mk (blk_below (g := gb191) (o := .cells #[.int .i64 t186, .int .i64 t187, .int .i64 t188, .int .i64 t189] 50 (0, 0)) (by (with_reducible repeat (first | refine blk_drewN ?_ _ | refine blk_drew ?_ | refine blk_alloc ?_ _)); exact BK191.out) hb); have n1_ := Aside0.mk (blk_below (g := gb194) (o := .cells #[.int .i64 ((rd_T50 l0 x27_1).f0), .int .i64 ((rd_T50 l0 x27_1).f1), .int .i64 ((rd_T50 l0 x27_1).f2), .int .i64 ((rd_T50 l0 x27_1).f3)] 50 (0, 0)) (by (with_reducible repeat (first | refine blk_drewN ?_ _ | refine blk_drew ?_ | refine blk_alloc ?_ _)); exact BK194.out) hb); have n2_ := Aside0.mk (below_step (by repeat (first | (with_reducible first | exact HB.out | apply below_alloc | apply pw_below_drewN | apply below_drew1 | refine below_set ?_ GE191.out | refine below_set ?_ GE194.out) | exact HB.out)) hb); clear BK191; clear BK194; clear HB; have BK191 := n0_; have BK194 := n1_; have HB := n2_; clear n0_ n1_ n2_; (try clear hb); (try clear hb2); (try clear hk); (try clear hi)) | ((with_reducible refine gate_dst (N := 11) rfl ?_); refine box_event ?hg (N := 11) ?hd (cs := #[.int .i64 0, .int .i64 0, .int .i64 0, .int .i64 0]) (t := 50) ?hr ?_; (case hd => rfl); (case hg => rfl); (case hr => first | (go_simp; done) | (go_simp; rfl)); intro gb202 hg w60 hbox hb; have n0_ := Aside0.mk (blk_below (g := gb191) (o := .cells #[.int .i64 t186, .int .i64 t187, .int .i64 t188, .int .i64 t189] 50 (0, 0)) (by (with_reducible repeat (first | refine blk_drewN ?_ _ | refine blk_drew ?_ | refine blk_alloc ?_ _)); exact BK191.out) hb); have n1_ := Aside0.mk (blk_below (g := gb194) (o := .cells #[.int .i64 ((rd_T50 l0 x27_1).f0), .int .i64 ((rd_T50 l0 x27_1).f1), .int .i64 ((rd_T50 l0 x27_1).f2), .int .i64 ((rd_T50 l0 x27_1).f3)] 50 (0, 0)) (by (with_reducible repeat (first | refine blk_drewN ?_ _ | refine blk_drew ?_ | refine blk_alloc ?_ _)); exact BK194.out) hb); have n2_ := Aside0.mk (below_step (by repeat (first | (with_reducible first | exact HB.out | apply below_alloc | apply pw_below_drewN | apply below_drew1 | refine below_set ?_ GE191.out | refine below_set ?_ GE194.out) | exact HB.out)) hb); have n3_ := Aside0.mk (hbox); have n4_ := Aside0.mk ((by rw [hg]; exact (below_size (by repeat (first | (with_reducible first | exact HB.out | apply below_alloc | apply pw_below_drewN | apply below_drew1 | refine below_set ?_ GE191.out | refine below_set ?_ GE194.out) | exact HB.out))) : w.heap.size ≤ gb202)); have n5_ := Aside0.mk ((by rw [hg]; exact (below_size (by repeat (first | (with_reducible first | exact HB.out | apply below_alloc | apply pw_below_drewN | apply below_drew1 | refine below_set ?_ GE191.out | refine below_set ?_ GE194.out) | exact HB.out))) : w.heap.size ≤ gb202)); have n6_ := Aside0.mk ((by rw [hg]; exact Nat.ne_of_lt (blk_lt (g := gb191) (o := .cells #[.int .i64 t186, .int .i64 t187, .int .i64 t188, .int .i64 t189] 50 (0, 0)) (by (with_reducible repeat (first | refine blk_drewN ?_ _ | refine blk_drew ?_ | refine blk_alloc ?_ _)); exact BK191.out)) : gb191 ≠ gb202)); have n7_ := Aside0.mk ((by rw [hg]; exact Nat.ne_of_gt (blk_lt (g := gb191) (o := .cells #[.int .i64 t186, .int .i64 t187, .int .i64 t188, .int .i64 t189] 50 (0, 0)) (by (with_reducible repeat (first | refine blk_drewN ?_ _ | refine blk_drew ?_ | refine blk_alloc ?_ _)); exact BK191.out)) : gb202 ≠ gb191)); have n8_ := Aside0.mk ((by rw [hg]; exact Nat.ne_of_lt (blk_lt (g := gb194) (o := .cells #[.int .i64 ((rd_T50 l0 x27_1).f0), .int .i64 ((rd_T50 l0 x27_1).f1), .int .i64 ((rd_T50 l0 x27_1).f2), .int .i64 ((rd_T50 l0 x27_1).f3)] 50 (0, 0)) (by (with_reducible repeat (first | refine blk_drewN ?_ _ | refine blk_drew ?_ | refine blk_alloc ?_ _)); exact BK194.out)) : gb194 ≠ gb202)); have n9_ := Aside0.mk ((by rw [hg]; exact Nat.ne_of_gt (blk_lt (g := gb194) (o := .cells #[.int .i64 ((rd_T50 l0 x27_1).f0), .int .i64 ((rd_T50 l0 x27_1).f1), .int .i64 ((rd_T50 l0 x27_1).f2), .int .i64 ((rd_T50 l0 x27_1).f3)] 50 (0, 0)) (by (with_reducible repeat (first | refine blk_drewN ?_ _ | refine blk_drew ?_ | refine blk_alloc ?_ _)); exact BK194.out)) : gb202 ≠ gb194)); clear BK191; clear BK194; clear HB; have BK191 := n0_; have BK194 := n1_; have HB := n2_; have BK202 := n3_; have GW202 := n4_; have GE202 := n5_; have NB191_202 := n6_; have NB202_191 := n7_; have NB194_202 := n8_; have NB202_194 := n9_; clear n0_ n1_ n2_ n3_ n4_ n5_ n6_ n7_ n8_ n9_; clear hb hbox hg; have hnb61 := NB202_191.out; have hnc61 := NB191_202.out; have hnb62 := NB202_194.out; have hnc62 := NB194_202.out; have hcz63_0 : w60.cell? ⟨gb202, 0, none⟩ = some (.int .i64 0) := (blk_cell BK202.out 0).trans rfl; have hcz63_1 : w60.cell? ⟨gb202, 1, none⟩ = some (.int .i64 0) := (blk_cell BK202.out 1).trans rfl; have hcz63_2 : w60.cell? ⟨gb202, 2, none⟩ = some (.int .i64 0) := (blk_cell BK202.out 2).trans rfl; have hcz63_3 : w60.cell? ⟨gb202, 3, none⟩ = some (.int .i64 0) := (blk_cell BK202.out 3).trans rfl; have hfz63_0 := blk_frozen BK202.out 0; have hfz63_1 := blk_frozen BK202.out 1; have hfz63_2 := blk_frozen BK202.out 2; have hfz63_3 := blk_frozen BK202.out 3; have hcz64_0 : w60.cell? ⟨gb194, 0, none⟩ = some (.int .i64 ((rd_T50 l0 x27_1).f0)) := (blk_cell BK194.out 0).trans rfl; have hcz64_1 : w60.cell? ⟨gb194, 1, none⟩ = some (.int .i64 ((rd_T50 l0 x27_1).f1)) := (blk_cell BK194.out 1).trans rfl; have hcz64_2 : w60.cell? ⟨gb194, 2, none⟩ = some (.int .i64 ((rd_T50 l0 x27_1).f2)) := (blk_cell BK194.out 2).trans rfl; have hcz64_3 : w60.cell? ⟨gb194, 3, none⟩ = some (.int .i64 ((rd_T50 l0 x27_1).f3)) := (blk_cell BK194.out 3).trans rfl; have hfz64_0 := blk_frozen BK194.out 0; have hfz64_1 := blk_frozen BK194.out 1; have hfz64_2 := blk_frozen BK194.out 2; have hfz64_3 := blk_frozen BK194.out 3))
                              go_ret
                              exact ⟨by first | rfl | (simp [errW_none, errW_some] <;> rfl) | (simp [*, errW_none, errW_some] <;> rfl), by repeat (first | (with_reducible first | exact HB.out | apply below_alloc | apply pw_below_drewN | apply below_drew1 | refine below_set ?_ GE191.out | refine below_set ?_ GE194.out | refine below_set ?_ GE202.out) | exact HB.out)⟩
                          · rw [if_neg c35] at H
                            have c35b0 : decide (0 < ((rd_T50 l0 x27_1).f3)) = false := decide_eq_false c35
                            clear c35
                            have H' := Aside0.mk H
                            clear H
                            have hnb65 := NB191_194.out
                            have hnc65 := NB194_191.out
                            have hcz66_0 : wc.cell? ⟨gb191, 0, none⟩ = some (.int .i64 t186) := (blk_cell BK191.out 0).trans rfl
                            have hcz66_1 : wc.cell? ⟨gb191, 1, none⟩ = some (.int .i64 t187) := (blk_cell BK191.out 1).trans rfl
                            have hcz66_2 : wc.cell? ⟨gb191, 2, none⟩ = some (.int .i64 t188) := (blk_cell BK191.out 2).trans rfl
                            have hcz66_3 : wc.cell? ⟨gb191, 3, none⟩ = some (.int .i64 t189) := (blk_cell BK191.out 3).trans rfl
                            have hfz66_0 := blk_frozen BK191.out 0
                            have hfz66_1 := blk_frozen BK191.out 1
                            have hfz66_2 := blk_frozen BK191.out 2
                            have hfz66_3 := blk_frozen BK191.out 3
                            have hcz67_0 : wc.cell? ⟨gb194, 0, none⟩ = some (.int .i64 ((rd_T50 l0 x27_1).f0)) := (blk_cell BK194.out 0).trans rfl
                            have hcz67_1 : wc.cell? ⟨gb194, 1, none⟩ = some (.int .i64 ((rd_T50 l0 x27_1).f1)) := (blk_cell BK194.out 1).trans rfl
                            have hcz67_2 : wc.cell? ⟨gb194, 2, none⟩ = some (.int .i64 ((rd_T50 l0 x27_1).f2)) := (blk_cell BK194.out 2).trans rfl
                            have hcz67_3 : wc.cell? ⟨gb194, 3, none⟩ = some (.int .i64 ((rd_T50 l0 x27_1).f3)) := (blk_cell BK194.out 3).trans rfl
                            have hfz67_0 := blk_frozen BK194.out 0
                            have hfz67_1 := blk_frozen BK194.out 1
                            have hfz67_2 := blk_frozen BK194.out 2
                            have hfz67_3 := blk_frozen BK194.out 3
                            go_wp2_with (first | ((with_reducible refine gate_callee (f := 32) rfl ?_); refine goesL_ (some 45) rfl rfl Try.func32 (by kernel_rfl) rfl #[.agg #[.int .i64 t186, .int .i64 t187, .int .i64 t188, .int .i64 t189], .agg #[.int .i64 ((rd_T50 l0 x27_1).f0), .int .i64 ((rd_T50 l0 x27_1).f1), .int .i64 ((rd_T50 l0 x27_1).f2), .int .i64 ((rd_T50 l0 x27_1).f3)]] rfl (by (try simp only [List.map_toArray, List.map_cons, List.map_nil]); first | done | rfl | (simp only [List.length_drop, List.length_take]; rfl)) ?_; (with_reducible refine (rect_Meet.calls kj16 t186 t187 t188 t189 ((rd_T50 l0 x27_1).f0) ((rd_T50 l0 x27_1).f1) ((rd_T50 l0 x27_1).f2) ((rd_T50 l0 x27_1).f3) t197 t198 t199 t200 t201 _ A33.out).mono ?_); rintro e w68 ⟨rfl, hb⟩; refine ⟨_, rfl, ?_⟩; have n0_ := Aside0.mk (blk_below (g := gb191) (o := .cells #[.int .i64 t186, .int .i64 t187, .int .i64 t188, .int .i64 t189] 50 (0, 0)) (by (with_reducible repeat (first | refine blk_drewN ?_ _ | refine blk_drew ?_ | refine blk_alloc ?_ _)); exact BK191.out) hb); have n1_ := Aside0.mk (blk_below (g := gb194) (o := .cells #[.int .i64 ((rd_T50 l0 x27_1).f0), .int .i64 ((rd_T50 l0 x27_1).f1), .int .i64 ((rd_T50 l0 x27_1).f2), .int .i64 ((rd_T50 l0 x27_1).f3)] 50 (0, 0)) (by (with_reducible repeat (first | refine blk_drewN ?_ _ | refine blk_drew ?_ | refine blk_alloc ?_ _)); exact BK194.out) hb); have n2_ := Aside0.mk (below_step (by repeat (first | (with_reducible first | exact HB.out | apply below_alloc | apply pw_below_drewN | apply below_drew1 | refine below_set ?_ GE191.out | refine below_set ?_ GE194.out) | exact HB.out)) hb); clear BK191; clear BK194; clear HB; have BK191 := n0_; have BK194 := n1_; have HB := n2_; clear n0_ n1_ n2_; (try clear hb); (try clear hb2); (try clear hk); (try clear hi)) | ((with_reducible refine gate_dst (N := 11) rfl ?_); refine box_event ?hg (N := 11) ?hd (cs := #[.int .i64 0, .int .i64 0, .int .i64 0, .int .i64 0]) (t := 50) ?hr ?_; (case hd => rfl); (case hg => rfl); (case hr => first | (go_simp; done) | (go_simp; rfl)); intro gb202 hg w69 hbox hb; have n0_ := Aside0.mk (blk_below (g := gb191) (o := .cells #[.int .i64 t186, .int .i64 t187, .int .i64 t188, .int .i64 t189] 50 (0, 0)) (by (with_reducible repeat (first | refine blk_drewN ?_ _ | refine blk_drew ?_ | refine blk_alloc ?_ _)); exact BK191.out) hb); have n1_ := Aside0.mk (blk_below (g := gb194) (o := .cells #[.int .i64 ((rd_T50 l0 x27_1).f0), .int .i64 ((rd_T50 l0 x27_1).f1), .int .i64 ((rd_T50 l0 x27_1).f2), .int .i64 ((rd_T50 l0 x27_1).f3)] 50 (0, 0)) (by (with_reducible repeat (first | refine blk_drewN ?_ _ | refine blk_drew ?_ | refine blk_alloc ?_ _)); exact BK194.out) hb); have n2_ := Aside0.mk (below_step (by repeat (first | (with_reducible first | exact HB.out | apply below_alloc | apply pw_below_drewN | apply below_drew1 | refine below_set ?_ GE191.out | refine below_set ?_ GE194.out) | exact HB.out)) hb); have n3_ := Aside0.mk (hbox); have n4_ := Aside0.mk ((by rw [hg]; exact (below_size (by repeat (first | (with_reducible first | exact HB.out | apply below_alloc | apply pw_below_drewN | apply below_drew1 | refine below_set ?_ GE191.out | refine below_set ?_ GE194.out) | exact HB.out))) : w.heap.size ≤ gb202)); have n5_ := Aside0.mk ((by rw [hg]; exact (below_size (by repeat (first | (with_reducible first | exact HB.out | apply below_alloc | apply pw_below_drewN | apply below_drew1 | refine below_set ?_ GE191.out | refine below_set ?_ GE194.out) | exact HB.out))) : w.heap.size ≤ gb202)); have n6_ := Aside0.mk ((by rw [hg]; exact Nat.ne_of_lt (blk_lt (g := gb191) (o := .cells #[.int .i64 t186, .int .i64 t187, .int .i64 t188, .int .i64 t189] 50 (0, 0)) (by (with_reducible repeat (first | refine blk_drewN ?_ _ | refine blk_drew ?_ | refine blk_alloc ?_ _)); exact BK191.out)) : gb191 ≠ gb202)); have n7_ := Aside0.mk ((by rw [hg]; exact Nat.ne_of_gt (blk_lt (g := gb191) (o := .cells #[.int .i64 t186, .int .i64 t187, .int .i64 t188, .int .i64 t189] 50 (0, 0)) (by (with_reducible repeat (first | refine blk_drewN ?_ _ | refine blk_drew ?_ | refine blk_alloc ?_ _)); exact BK191.out)) : gb202 ≠ gb191)); have n8_ := Aside0.mk ((by rw [hg]; exact Nat.ne_of_lt (blk_lt (g := gb194) (o := .cells #[.int .i64 ((rd_T50 l0 x27_1).f0), .int .i64 ((rd_T50 l0 x27_1).f1), .int .i64 ((rd_T50 l0 x27_1).f2), .int .i64 ((rd_T50 l0 x27_1).f3)] 50 (0, 0)) (by (with_reducible repeat (first | refine blk_drewN ?_ _ | refine blk_drew ?_ | refine blk_alloc ?_ _)); exact BK194.out)) : gb194 ≠ gb202)); have n9_ := Aside0.mk ((by rw [hg]; exact Nat.ne_of_gt (blk_lt (g := gb194) (o := .cells #[.int .i64 ((rd_T50 l0 x27_1).f0), .int .i64 ((rd_T50 l0 x27_1).f1), .int .i64 ((rd_T50 l0 x27_1).f2), .int .i64 ((rd_T50 l0 x27_1).f3)] 50 (0, 0)) (by (with_reducible repeat (first | refine blk_drewN ?_ _ | refine blk_drew ?_ | refine blk_alloc ?_ _)); exact BK194.out)) : gb202 ≠ gb194)); clear BK191; clear BK194; clear HB; have BK191 := n0_; have BK194 := n1_; have HB := n2_; have BK202 := n3_; have GW202 := n4_; have GE202 := n5_; have NB191_202 := n6_; have NB202_191 := n7_; have NB194_202 := n8_; have NB202_194 := n9_; clear n0_ n1_ n2_ n3_ n4_ n5_ n6_ n7_ n8_ n9_; clear hb hbox hg; have hnb70 := NB202_191.out; have hnc70 := NB191_202.out; have hnb71 := NB202_194.out; have hnc71 := NB194_202.out; have hcz72_0 : w69.cell? ⟨gb202, 0, none⟩ = some (.int .i64 0) := (blk_cell BK202.out 0).trans rfl; have hcz72_1 : w69.cell? ⟨gb202, 1, none⟩ = some (.int .i64 0) := (blk_cell BK202.out 1).trans rfl; have hcz72_2 : w69.cell? ⟨gb202, 2, none⟩ = some (.int .i64 0) := (blk_cell BK202.out 2).trans rfl; have hcz72_3 : w69.cell? ⟨gb202, 3, none⟩ = some (.int .i64 0) := (blk_cell BK202.out 3).trans rfl; have hfz72_0 := blk_frozen BK202.out 0; have hfz72_1 := blk_frozen BK202.out 1; have hfz72_2 := blk_frozen BK202.out 2; have hfz72_3 := blk_frozen BK202.out 3; have hcz73_0 : w69.cell? ⟨gb194, 0, none⟩ = some (.int .i64 ((rd_T50 l0 x27_1).f0)) := (blk_cell BK194.out 0).trans rfl; have hcz73_1 : w69.cell? ⟨gb194, 1, none⟩ = some (.int .i64 ((rd_T50 l0 x27_1).f1)) := (blk_cell BK194.out 1).trans rfl; have hcz73_2 : w69.cell? ⟨gb194, 2, none⟩ = some (.int .i64 ((rd_T50 l0 x27_1).f2)) := (blk_cell BK194.out 2).trans rfl; have hcz73_3 : w69.cell? ⟨gb194, 3, none⟩ = some (.int .i64 ((rd_T50 l0 x27_1).f3)) := (blk_cell BK194.out 3).trans rfl; have hfz73_0 := blk_frozen BK194.out 0; have hfz73_1 := blk_frozen BK194.out 1; have hfz73_2 := blk_frozen BK194.out 2; have hfz73_3 := blk_frozen BK194.out 3))
                            go_roundg kj16
                            case measure => have := HK1.out; have := HJ16.out; omega
                            case rel => exact ⟨(wrap64 (x27_1 + 1)), (by first | rfl | (simp; done) | (simp [*]; done)), H', ⟨by have := HK1.out; have := HJ16.out; omega⟩, ⟨by (with_reducible repeat (first | refine blk_drewN ?_ _ | refine blk_drew ?_ | refine blk_alloc ?_ _)); refine blk_far ?_ NB191_202.out _; (with_reducible repeat (first | refine blk_drewN ?_ _ | refine blk_drew ?_ | refine blk_alloc ?_ _)); refine blk_far ?_ NB191_202.out _; (with_reducible repeat (first | refine blk_drewN ?_ _ | refine blk_drew ?_ | refine blk_alloc ?_ _)); refine blk_far ?_ NB191_202.out _; (with_reducible repeat (first | refine blk_drewN ?_ _ | refine blk_drew ?_ | refine blk_alloc ?_ _)); refine blk_far ?_ NB191_202.out _; (with_reducible repeat (first | refine blk_drewN ?_ _ | refine blk_drew ?_ | refine blk_alloc ?_ _)); exact BK191.out⟩, ⟨by repeat (first | (with_reducible first | exact HB.out | apply below_alloc | apply pw_below_drewN | apply below_drew1 | refine below_set ?_ GE191.out | refine below_set ?_ GE194.out | refine below_set ?_ GE202.out) | exact HB.out)⟩⟩
                        · rw [if_neg c34] at H
                          have c34b0 : decide (0 < ((rd_T50 l0 x27_1).f2)) = false := decide_eq_false c34
                          clear c34
                          have H' := Aside0.mk H
                          clear H
                          have hnb74 := NB191_194.out
                          have hnc74 := NB194_191.out
                          have hcz75_0 : wc.cell? ⟨gb191, 0, none⟩ = some (.int .i64 t186) := (blk_cell BK191.out 0).trans rfl
                          have hcz75_1 : wc.cell? ⟨gb191, 1, none⟩ = some (.int .i64 t187) := (blk_cell BK191.out 1).trans rfl
                          have hcz75_2 : wc.cell? ⟨gb191, 2, none⟩ = some (.int .i64 t188) := (blk_cell BK191.out 2).trans rfl
                          have hcz75_3 : wc.cell? ⟨gb191, 3, none⟩ = some (.int .i64 t189) := (blk_cell BK191.out 3).trans rfl
                          have hfz75_0 := blk_frozen BK191.out 0
                          have hfz75_1 := blk_frozen BK191.out 1
                          have hfz75_2 := blk_frozen BK191.out 2
                          have hfz75_3 := blk_frozen BK191.out 3
                          have hcz76_0 : wc.cell? ⟨gb194, 0, none⟩ = some (.int .i64 ((rd_T50 l0 x27_1).f0)) := (blk_cell BK194.out 0).trans rfl
                          have hcz76_1 : wc.cell? ⟨gb194, 1, none⟩ = some (.int .i64 ((rd_T50 l0 x27_1).f1)) := (blk_cell BK194.out 1).trans rfl
                          have hcz76_2 : wc.cell? ⟨gb194, 2, none⟩ = some (.int .i64 ((rd_T50 l0 x27_1).f2)) := (blk_cell BK194.out 2).trans rfl
                          have hcz76_3 : wc.cell? ⟨gb194, 3, none⟩ = some (.int .i64 ((rd_T50 l0 x27_1).f3)) := (blk_cell BK194.out 3).trans rfl
                          have hfz76_0 := blk_frozen BK194.out 0
                          have hfz76_1 := blk_frozen BK194.out 1
                          have hfz76_2 := blk_frozen BK194.out 2
                          have hfz76_3 := blk_frozen BK194.out 3
                          go_wp2_with (first | ((with_reducible refine gate_callee (f := 32) rfl ?_); refine goesL_ (some 45) rfl rfl Try.func32 (by kernel_rfl) rfl #[.agg #[.int .i64 t186, .int .i64 t187, .int .i64 t188, .int .i64 t189], .agg #[.int .i64 ((rd_T50 l0 x27_1).f0), .int .i64 ((rd_T50 l0 x27_1).f1), .int .i64 ((rd_T50 l0 x27_1).f2), .int .i64 ((rd_T50 l0 x27_1).f3)]] rfl (by (try simp only [List.map_toArray, List.map_cons, List.map_nil]); first | done | rfl | (simp only [List.length_drop, List.length_take]; rfl)) ?_; (with_reducible refine (rect_Meet.calls kj16 t186 t187 t188 t189 ((rd_T50 l0 x27_1).f0) ((rd_T50 l0 x27_1).f1) ((rd_T50 l0 x27_1).f2) ((rd_T50 l0 x27_1).f3) t197 t198 t199 t200 t201 _ A33.out).mono ?_); rintro e w77 ⟨rfl, hb⟩; refine ⟨_, rfl, ?_⟩; have n0_ := Aside0.mk (blk_below (g := gb191) (o := .cells #[.int .i64 t186, .int .i64 t187, .int .i64 t188, .int .i64 t189] 50 (0, 0)) (by (with_reducible repeat (first | refine blk_drewN ?_ _ | refine blk_drew ?_ | refine blk_alloc ?_ _)); exact BK191.out) hb); have n1_ := Aside0.mk (blk_below (g := gb194) (o := .cells #[.int .i64 ((rd_T50 l0 x27_1).f0), .int .i64 ((rd_T50 l0 x27_1).f1), .int .i64 ((rd_T50 l0 x27_1).f2), .int .i64 ((rd_T50 l0 x27_1).f3)] 50 (0, 0)) (by (with_reducible repeat (first | refine blk_drewN ?_ _ | refine blk_drew ?_ | refine blk_alloc ?_ _)); exact BK194.out) hb); have n2_ := Aside0.mk (below_step (by repeat (first | (with_reducible first | exact HB.out | apply below_alloc | apply pw_below_drewN | apply below_drew1 | refine below_set ?_ GE191.out | refine below_set ?_ GE194.out) | exact HB.out)) hb); clear BK191; clear BK194; clear HB; have BK191 := n0_; have BK194 := n1_; have HB := n2_; clear n0_ n1_ n2_; (try clear hb); (try clear hb2); (try clear hk); (try clear hi)) | ((with_reducible refine gate_dst (N := 11) rfl ?_); refine box_event ?hg (N := 11) ?hd (cs := #[.int .i64 0, .int .i64 0, .int .i64 0, .int .i64 0]) (t := 50) ?hr ?_; (case hd => rfl); (case hg => rfl); (case hr => first | (go_simp; done) | (go_simp; rfl)); intro gb202 hg w78 hbox hb; have n0_ := Aside0.mk (blk_below (g := gb191) (o := .cells #[.int .i64 t186, .int .i64 t187, .int .i64 t188, .int .i64 t189] 50 (0, 0)) (by (with_reducible repeat (first | refine blk_drewN ?_ _ | refine blk_drew ?_ | refine blk_alloc ?_ _)); exact BK191.out) hb); have n1_ := Aside0.mk (blk_below (g := gb194) (o := .cells #[.int .i64 ((rd_T50 l0 x27_1).f0), .int .i64 ((rd_T50 l0 x27_1).f1), .int .i64 ((rd_T50 l0 x27_1).f2), .int .i64 ((rd_T50 l0 x27_1).f3)] 50 (0, 0)) (by (with_reducible repeat (first | refine blk_drewN ?_ _ | refine blk_drew ?_ | refine blk_alloc ?_ _)); exact BK194.out) hb); have n2_ := Aside0.mk (below_step (by repeat (first | (with_reducible first | exact HB.out | apply below_alloc | apply pw_below_drewN | apply below_drew1 | refine below_set ?_ GE191.out | refine below_set ?_ GE194.out) | exact HB.out)) hb); have n3_ := Aside0.mk (hbox); have n4_ := Aside0.mk ((by rw [hg]; exact (below_size (by repeat (first | (with_reducible first | exact HB.out | apply below_alloc | apply pw_below_drewN | apply below_drew1 | refine below_set ?_ GE191.out | refine below_set ?_ GE194.out) | exact HB.out))) : w.heap.size ≤ gb202)); have n5_ := Aside0.mk ((by rw [hg]; exact (below_size (by repeat (first | (with_reducible first | exact HB.out | apply below_alloc | apply pw_below_drewN | apply below_drew1 | refine below_set ?_ GE191.out | refine below_set ?_ GE194.out) | exact HB.out))) : w.heap.size ≤ gb202)); have n6_ := Aside0.mk ((by rw [hg]; exact Nat.ne_of_lt (blk_lt (g := gb191) (o := .cells #[.int .i64 t186, .int .i64 t187, .int .i64 t188, .int .i64 t189] 50 (0, 0)) (by (with_reducible repeat (first | refine blk_drewN ?_ _ | refine blk_drew ?_ | refine blk_alloc ?_ _)); exact BK191.out)) : gb191 ≠ gb202)); have n7_ := Aside0.mk ((by rw [hg]; exact Nat.ne_of_gt (blk_lt (g := gb191) (o := .cells #[.int .i64 t186, .int .i64 t187, .int .i64 t188, .int .i64 t189] 50 (0, 0)) (by (with_reducible repeat (first | refine blk_drewN ?_ _ | refine blk_drew ?_ | refine blk_alloc ?_ _)); exact BK191.out)) : gb202 ≠ gb191)); have n8_ := Aside0.mk ((by rw [hg]; exact Nat.ne_of_lt (blk_lt (g := gb194) (o := .cells #[.int .i64 ((rd_T50 l0 x27_1).f0), .int .i64 ((rd_T50 l0 x27_1).f1), .int .i64 ((rd_T50 l0 x27_1).f2), .int .i64 ((rd_T50 l0 x27_1).f3)] 50 (0, 0)) (by (with_reducible repeat (first | refine blk_drewN ?_ _ | refine blk_drew ?_ | refine blk_alloc ?_ _)); exact BK194.out)) : gb194 ≠ gb202)); have n9_ := Aside0.mk ((by rw [hg]; exact Nat.ne_of_gt (blk_lt (g := gb194) (o := .cells #[.int .i64 ((rd_T50 l0 x27_1).f0), .int .i64 ((rd_T50 l0 x27_1).f1), .int .i64 ((rd_T50 l0 x27_1).f2), .int .i64 ((rd_T50 l0 x27_1).f3)] 50 (0, 0)) (by (with_reducible repeat (first | refine blk_drewN ?_ _ | refine blk_drew ?_ | refine blk_alloc ?_ _)); exact BK194.out)) : gb202 ≠ gb194)); clear BK191; clear BK194; clear HB; have BK191 := n0_; have BK194 := n1_; have HB := n2_; have BK202 := n3_; have GW202 := n4_; have GE202 := n5_; have NB191_202 := n6_; have NB202_191 := n7_; have NB194_202 := n8_; have NB202_194 := n9_; clear n0_ n1_ n2_ n3_ n4_ n5_ n6_ n7_ n8_ n9_; clear hb hbox hg; have hnb79 := NB202_191.out; have hnc79 := NB191_202.out; have hnb80 := NB202_194.out; have hnc80 := NB194_202.out; have hcz81_0 : w78.cell? ⟨gb202, 0, none⟩ = some (.int .i64 0) := (blk_cell BK202.out 0).trans rfl; have hcz81_1 : w78.cell? ⟨gb202, 1, none⟩ = some (.int .i64 0) := (blk_cell BK202.out 1).trans rfl; have hcz81_2 : w78.cell? ⟨gb202, 2, none⟩ = some (.int .i64 0) := (blk_cell BK202.out 2).trans rfl; have hcz81_3 : w78.cell? ⟨gb202, 3, none⟩ = some (.int .i64 0) := (blk_cell BK202.out 3).trans rfl; have hfz81_0 := blk_frozen BK202.out 0; have hfz81_1 := blk_frozen BK202.out 1; have hfz81_2 := blk_frozen BK202.out 2; have hfz81_3 := blk_frozen BK202.out 3; have hcz82_0 : w78.cell? ⟨gb194, 0, none⟩ = some (.int .i64 ((rd_T50 l0 x27_1).f0)) := (blk_cell BK194.out 0).trans rfl; have hcz82_1 : w78.cell? ⟨gb194, 1, none⟩ = some (.int .i64 ((rd_T50 l0 x27_1).f1)) := (blk_cell BK194.out 1).trans rfl; have hcz82_2 : w78.cell? ⟨gb194, 2, none⟩ = some (.int .i64 ((rd_T50 l0 x27_1).f2)) := (blk_cell BK194.out 2).trans rfl; have hcz82_3 : w78.cell? ⟨gb194, 3, none⟩ = some (.int .i64 ((rd_T50 l0 x27_1).f3)) := (blk_cell BK194.out 3).trans rfl; have hfz82_0 := blk_frozen BK194.out 0; have hfz82_1 := blk_frozen BK194.out 1; have hfz82_2 := blk_frozen BK194.out 2; have hfz82_3 := blk_frozen BK194.out 3))
                          go_roundg kj16
                          case measure => have := HK1.out; have := HJ16.out; omega
                          case rel => exact ⟨(wrap64 (x27_1 + 1)), (by first | rfl | (simp; done) | (simp [*]; done)), H', ⟨by have := HK1.out; have := HJ16.out; omega⟩, ⟨by (with_reducible repeat (first | refine blk_drewN ?_ _ | refine blk_drew ?_ | refine blk_alloc ?_ _)); refine blk_far ?_ NB191_202.out _; (with_reducible repeat (first | refine blk_drewN ?_ _ | refine blk_drew ?_ | refine blk_alloc ?_ _)); refine blk_far ?_ NB191_202.out _; (with_reducible repeat (first | refine blk_drewN ?_ _ | refine blk_drew ?_ | refine blk_alloc ?_ _)); refine blk_far ?_ NB191_202.out _; (with_reducible repeat (first | refine blk_drewN ?_ _ | refine blk_drew ?_ | refine blk_alloc ?_ _)); refine blk_far ?_ NB191_202.out _; (with_reducible repeat (first | refine blk_drewN ?_ _ | refine blk_drew ?_ | refine blk_alloc ?_ _)); exact BK191.out⟩, ⟨by repeat (first | (with_reducible first | exact HB.out | apply below_alloc | apply pw_below_drewN | apply below_drew1 | refine below_set ?_ GE191.out | refine below_set ?_ GE194.out | refine below_set ?_ GE202.out) | exact HB.out)⟩⟩
                · rw [if_neg c16] at H
                  exact absurd H (by simp)
              · rw [if_neg c15] at H
                exact absurd H (by simp)
            · rw [if_neg c14] at H
              have c14b0 : decide (x27_1 < (l0.length : Int)) = false := decide_eq_false c14
              clear c14
              replace H := Option.bind_eq_some_iff.mp H
              obtain ⟨t192, A830, H⟩ := H
              replace H : (some t192) = some r := H
              have A83 := Aside0.mk A830
              clear A830
              obtain rfl := Option.some.inj H
              have hcz84_0 : wr.cell? ⟨gb191, 0, none⟩ = some (.int .i64 t186) := (blk_cell BK191.out 0).trans rfl
              have hcz84_1 : wr.cell? ⟨gb191, 1, none⟩ = some (.int .i64 t187) := (blk_cell BK191.out 1).trans rfl
              have hcz84_2 : wr.cell? ⟨gb191, 2, none⟩ = some (.int .i64 t188) := (blk_cell BK191.out 2).trans rfl
              have hcz84_3 : wr.cell? ⟨gb191, 3, none⟩ = some (.int .i64 t189) := (blk_cell BK191.out 3).trans rfl
              have hfz84_0 := blk_frozen BK191.out 0
              have hfz84_1 := blk_frozen BK191.out 1
              have hfz84_2 := blk_frozen BK191.out 2
              have hfz84_3 := blk_frozen BK191.out 3
              go_wp2_with (first | ((with_reducible refine gate_callee (f := 34) rfl ?_); refine goesL_ (some 67) rfl rfl Try.func34 (by kernel_rfl) rfl #[.agg #[.int .i64 t186, .int .i64 t187, .int .i64 t188, .int .i64 t189]] rfl (by (try simp only [List.map_toArray, List.map_cons, List.map_nil]); first | done | rfl | (simp only [List.length_drop, List.length_take]; rfl)) ?_; (with_reducible refine (rect_May.calls t186 t187 t188 t189 t192 _ A83.out).mono ?_); rintro e w85 ⟨rfl, hb⟩; refine ⟨_, rfl, ?_⟩; have n0_ := Aside0.mk (blk_below (g := gb191) (o := .cells #[.int .i64 t186, .int .i64 t187, .int .i64 t188, .int .i64 t189] 50 (0, 0)) (by (with_reducible repeat (first | refine blk_drewN ?_ _ | refine blk_drew ?_ | refine blk_alloc ?_ _)); exact BK191.out) hb); have n1_ := Aside0.mk (below_step (by repeat (first | (with_reducible first | exact HB.out | apply below_alloc | apply pw_below_drewN | apply below_drew1 | refine below_set ?_ GE191.out) | exact HB.out)) hb); clear BK191; clear HB; have BK191 := n0_; have HB := n1_; clear n0_ n1_; (try clear hb); (try clear hb2); (try clear hk); (try clear hi)))
              go_ret
              exact ⟨by first | rfl | (simp [errW_none, errW_some] <;> rfl) | (simp [*, errW_none, errW_some] <;> rfl), by repeat (first | (with_reducible first | exact HB.out | apply below_alloc | apply pw_below_drewN | apply below_drew1 | refine below_set ?_ GE191.out) | exact HB.out)⟩
      · replace c9 := Bool.eq_false_iff.mpr c9
        subst c9
        have H1 : (some true) = some r := by rw [if_neg (show ¬ (false = true) by decide)] at H; exact H
        clear H
        have H := H1
        clear H1
        obtain rfl := Option.some.inj H
        go_enter Try.func9, Try.ntmps9
        go_wp2_with (first | ((with_reducible refine gate_callee (f := 25) rfl ?_); refine goesL_ (some 13) rfl rfl Try.func25 (by kernel_rfl) rfl #[] rfl (by (try simp only [List.map_toArray, List.map_cons, List.map_nil]); first | done | rfl | (simp only [List.length_drop, List.length_take]; rfl)) ?_; (with_reducible refine (scrimlaw02_awake.calls  true _ A4.out).mono ?_); rintro e w86 ⟨rfl, hb⟩; refine ⟨_, rfl, ?_⟩; have n0_ := Aside0.mk (below_step (by repeat (first | (with_reducible first | exact HB.out | apply below_alloc | apply pw_below_drewN | apply below_drew1) | exact HB.out)) hb); clear HB; have HB := n0_; clear n0_; (try clear hb); (try clear hb2); (try clear hk); (try clear hi)) | ((with_reducible refine gate_callee (f := 30) rfl ?_); refine goesL_ (some 20) rfl rfl Try.func30 (by kernel_rfl) rfl #[.slice A0 l0.length c0] rfl (by (try simp only [List.map_toArray, List.map_cons, List.map_nil]); first | done | rfl | (simp only [List.length_drop, List.length_take]; rfl)) ?_; (with_reducible refine (rect_Union.calls _ _ l0 t186 t187 t188 t189 false _ ?side1 ?side2 A8.out).mono ?_); (case side1 => repeat (first | exact (Kd.C_below HR0.out HB.out) | (with_reducible refine Kd.C_alloc ?_ _) | (with_reducible refine Kd.C_drewN ?_ _) | (with_reducible refine Kd.C_drew ?_))); (case side2 => exact HC0.out); rintro e w87 ⟨rfl, hb⟩; refine ⟨_, rfl, ?_⟩; have n0_ := Aside0.mk (below_step (by repeat (first | (with_reducible first | exact HB.out | apply below_alloc | apply pw_below_drewN | apply below_drew1) | exact HB.out)) hb); clear HB; have HB := n0_; clear n0_; (try clear hb); (try clear hb2); (try clear hk); (try clear hi)) | ((with_reducible refine gate_dst (N := 7) rfl ?_); refine box_event ?hg (N := 7) ?hd (cs := #[.int .i64 0, .int .i64 0, .int .i64 0, .int .i64 0]) (t := 50) ?hr ?_; (case hd => rfl); (case hg => rfl); (case hr => first | (go_simp; done) | (go_simp; rfl)); intro gb191 hg w88 hbox hb; have n0_ := Aside0.mk (below_step (by repeat (first | (with_reducible first | exact HB.out | apply below_alloc | apply pw_below_drewN | apply below_drew1) | exact HB.out)) hb); have n1_ := Aside0.mk (hbox); have n2_ := Aside0.mk ((by rw [hg]; exact (below_size (by repeat (first | (with_reducible first | exact HB.out | apply below_alloc | apply pw_below_drewN | apply below_drew1) | exact HB.out))) : w.heap.size ≤ gb191)); have n3_ := Aside0.mk ((by rw [hg]; exact (below_size (by repeat (first | (with_reducible first | exact HB.out | apply below_alloc | apply pw_below_drewN | apply below_drew1) | exact HB.out))) : w.heap.size ≤ gb191)); clear HB; have HB := n0_; have BK191 := n1_; have GW191 := n2_; have GE191 := n3_; clear n0_ n1_ n2_ n3_; clear hb hbox hg; have hcz89_0 : w88.cell? ⟨gb191, 0, none⟩ = some (.int .i64 0) := (blk_cell BK191.out 0).trans rfl; have hcz89_1 : w88.cell? ⟨gb191, 1, none⟩ = some (.int .i64 0) := (blk_cell BK191.out 1).trans rfl; have hcz89_2 : w88.cell? ⟨gb191, 2, none⟩ = some (.int .i64 0) := (blk_cell BK191.out 2).trans rfl; have hcz89_3 : w88.cell? ⟨gb191, 3, none⟩ = some (.int .i64 0) := (blk_cell BK191.out 3).trans rfl; have hfz89_0 := blk_frozen BK191.out 0; have hfz89_1 := blk_frozen BK191.out 1; have hfz89_2 := blk_frozen BK191.out 2; have hfz89_3 := blk_frozen BK191.out 3))
        go_ret
        exact ⟨by first | rfl | (simp [errW_none, errW_some] <;> rfl) | (simp [*, errW_none, errW_some] <;> rfl), by repeat (first | (with_reducible first | exact HB.out | apply below_alloc | apply pw_below_drewN | apply below_drew1 | refine below_set ?_ GE191.out) | exact HB.out)⟩
  · replace c5 := Bool.eq_false_iff.mpr c5
    subst c5
    have H1 : (some false) = some r := by rw [if_neg (show ¬ (false = true) by decide)] at H; exact H
    clear H
    have H := H1
    clear H1
    obtain rfl := Option.some.inj H
    go_enter Try.func9, Try.ntmps9
    go_wp2_with (first | ((with_reducible refine gate_callee (f := 25) rfl ?_); refine goesL_ (some 13) rfl rfl Try.func25 (by kernel_rfl) rfl #[] rfl (by (try simp only [List.map_toArray, List.map_cons, List.map_nil]); first | done | rfl | (simp only [List.length_drop, List.length_take]; rfl)) ?_; (with_reducible refine (scrimlaw02_awake.calls  false _ A4.out).mono ?_); rintro e w90 ⟨rfl, hb⟩; refine ⟨_, rfl, ?_⟩; have n0_ := Aside0.mk (below_step (by repeat (first | (with_reducible first | exact HB.out | apply below_alloc | apply pw_below_drewN | apply below_drew1) | exact HB.out)) hb); clear HB; have HB := n0_; clear n0_; (try clear hb); (try clear hb2); (try clear hk); (try clear hi)))
    go_ret
    exact ⟨by first | rfl | (simp [errW_none, errW_some] <;> rfl) | (simp [*, errW_none, errW_some] <;> rfl), by repeat (first | (with_reducible first | exact HB.out | apply below_alloc | apply pw_below_drewN | apply below_drew1) | exact HB.out)⟩

-- NOT PRINTED: function 10 (scrimlaw02_RectInsets)

-- NOT PRINTED: function 51 (res_Image_51)

-- NOT PRINTED: function 38 (res_Table_find)

-- NOT PRINTED: function 13 (res_Size)

-- NOT PRINTED: function 15 (res_True)

-- NOT PRINTED: function 17 (res_May)
end Go.Proofs.Ytnjheeoogglnaaa.Q
