/- Written by a program of this session (wip/xprint.py): plain Lean functions, and that the Go functions compute them. -/
import Derived.Test.YthkipbnigokcfaaQx0
import Derived.Test.YthkipbnigokcfaaQx7
import Derived.Test.YthkipbnigokcfaaFx
namespace Go.Proofs.Ythkipbnigokcfaa.Q
open Go.RowKit Go.Proofs.YthkipbnigokcfaaW.PrintWords Go.Proofs.YthkipbnigokcfaaW.PrintLast Go.Proofs.YthkipbnigokcfaaW.PrintMore
attribute [local go_sem] max2_int min2_int max_two min_two max_three min_three max_four min_four   -- for this text's walks alone
set_option linter.unusedVariables false
set_option linter.unusedSimpArgs false

/-! ### measure_Min: function 10 -/
mutual
def measure_Min.l0 : Nat → List (S32) → List Int → Int → Bool → List (S32) → Int → Int → Option (Int × Bool)
  | 0, _, _, _, _, _, _, _ => none
  | k + 1, x0, x4, x5, x6, x11, x12, x13 => if x13 < x12 then (if 0 ≤ x13 then (if x13 < (x11.length : Int) then (if (rd_T32 x11 x13).f5 = true then (measure_Min.j1 k x0 ([] : List Int) x5 x6 x13 x11 x12 x13 ((rd_T32 x11 x13).f0) ((rd_T32 x11 x13).f1) ((rd_T32 x11 x13).f2) ((rd_T32 x11 x13).f3) ((rd_T32 x11 x13).f4) ((rd_T32 x11 x13).f5)) else (measure_Min.j1 k x0 x4 x5 x6 x13 x11 x12 x13 ((rd_T32 x11 x13).f0) ((rd_T32 x11 x13).f1) ((rd_T32 x11 x13).f2) ((rd_T32 x11 x13).f3) ((rd_T32 x11 x13).f4) ((rd_T32 x11 x13).f5))) else (none)) else (none)) else (some (x5, x6))
def measure_Min.j1 : Nat → List (S32) → List Int → Int → Bool → Int → List (S32) → Int → Int → Int → Int → Int → Int → ByteArray → Bool → Option (Int × Bool)
  | 0, _, _, _, _, _, _, _, _, _, _, _, _, _, _ => none
  | k + 1, x0, x4, x5, x6, x7, x11, x12, x13, x228000, x228001, x228002, x228003, x228004, x228005 => if (x4.length : Int) > 0 then (if x4.length < 17592186044416 then ((some (x4 ++ [x228003] : List Int)).bind fun y228 => (if y228.length < 17592186044416 then ((some (y228 ++ [x228001] : List Int)).bind fun y231 => (if (wrap64 (x7 + 1)) = (x0.length : Int) then ((fixed_Sum.f k y231).bind fun bt234 => (if x6 = true then (measure_Min.l0 k x0 y231 (mx x5 bt234.1) bt234.2 x11 x12 (wrap64 (x13 + 1))) else (measure_Min.l0 k x0 y231 (mx x5 bt234.1) false x11 x12 (wrap64 (x13 + 1))))) else (if 0 ≤ (wrap64 (x7 + 1)) then (if (wrap64 (x7 + 1)) < (x0.length : Int) then (if (rd_T32 x0 (wrap64 (x7 + 1))).f5 = true then ((fixed_Sum.f k y231).bind fun bt237 => (if x6 = true then (measure_Min.l0 k x0 y231 (mx x5 bt237.1) bt237.2 x11 x12 (wrap64 (x13 + 1))) else (measure_Min.l0 k x0 y231 (mx x5 bt237.1) false x11 x12 (wrap64 (x13 + 1))))) else (measure_Min.l0 k x0 y231 x5 x6 x11 x12 (wrap64 (x13 + 1)))) else (none)) else (none)))) else (none))) else (none)) else (if x4.length < 17592186044416 then ((some (x4 ++ [x228001] : List Int)).bind fun y239 => (if (wrap64 (x7 + 1)) = (x0.length : Int) then ((fixed_Sum.f k y239).bind fun bt242 => (if x6 = true then (measure_Min.l0 k x0 y239 (mx x5 bt242.1) bt242.2 x11 x12 (wrap64 (x13 + 1))) else (measure_Min.l0 k x0 y239 (mx x5 bt242.1) false x11 x12 (wrap64 (x13 + 1))))) else (if 0 ≤ (wrap64 (x7 + 1)) then (if (wrap64 (x7 + 1)) < (x0.length : Int) then (if (rd_T32 x0 (wrap64 (x7 + 1))).f5 = true then ((fixed_Sum.f k y239).bind fun bt245 => (if x6 = true then (measure_Min.l0 k x0 y239 (mx x5 bt245.1) bt245.2 x11 x12 (wrap64 (x13 + 1))) else (measure_Min.l0 k x0 y239 (mx x5 bt245.1) false x11 x12 (wrap64 (x13 + 1))))) else (measure_Min.l0 k x0 y239 x5 x6 x11 x12 (wrap64 (x13 + 1)))) else (none)) else (none)))) else (none))
end
def measure_Min.f (k : Nat) (l0 : List (S32)) : Option (Int × Bool) := measure_Min.l0 k l0 ([] : List Int) 0 true l0 (l0.length : Int) 0
theorem measure_Min.mono_l : ∀ k, (∀ y0 y1 y2 y3 y4 y5 y6, LeO (measure_Min.l0 k y0 y1 y2 y3 y4 y5 y6) (measure_Min.l0 (k + 1) y0 y1 y2 y3 y4 y5 y6)) ∧ (∀ y0 y1 y2 y3 y4 y5 y6 y7 y8 y9 y10 y11 y12 y13, LeO (measure_Min.j1 k y0 y1 y2 y3 y4 y5 y6 y7 y8 y9 y10 y11 y12 y13) (measure_Min.j1 (k + 1) y0 y1 y2 y3 y4 y5 y6 y7 y8 y9 y10 y11 y12 y13))
  | 0 => ⟨fun _ _ _ _ _ _ _ r h => by simp [measure_Min.l0] at h, fun _ _ _ _ _ _ _ _ _ _ _ _ _ _ r h => by simp [measure_Min.j1] at h⟩
  | k + 1 => by
    obtain ⟨ih0, ih1⟩ := measure_Min.mono_l k
    refine ⟨?_, ?_⟩
    · intro y0 y1 y2 y3 y4 y5 y6
      unfold measure_Min.l0
      repeat' first
      | (with_reducible exact ih0 _ _ _ _ _ _ _)
      | (with_reducible exact ih1 _ _ _ _ _ _ _ _ _ _ _ _ _ _)
      | (with_reducible exact fixed_Sum.mono _ _)
      | (with_reducible exact LeO.refl _)
      | (with_reducible exact LeO.none _)
      | (with_reducible refine LeO.ite ?_ ?_)
      | (with_reducible refine LeO.bind ?_ (fun _ => ?_))
      | exact ih0 _ _ _ _ _ _ _
      | exact ih1 _ _ _ _ _ _ _ _ _ _ _ _ _ _
      | exact fixed_Sum.mono _ _
      | exact LeO.none _
      | refine LeO.ite ?_ ?_
      | refine LeO.bind ?_ (fun _ => ?_)
    · intro y0 y1 y2 y3 y4 y5 y6 y7 y8 y9 y10 y11 y12 y13
      unfold measure_Min.j1
      repeat' first
      | (with_reducible exact ih0 _ _ _ _ _ _ _)
      | (with_reducible exact ih1 _ _ _ _ _ _ _ _ _ _ _ _ _ _)
      | (with_reducible exact fixed_Sum.mono _ _)
      | (with_reducible exact LeO.refl _)
      | (with_reducible exact LeO.none _)
      | (with_reducible refine LeO.ite ?_ ?_)
      | (with_reducible refine LeO.bind ?_ (fun _ => ?_))
      | exact ih0 _ _ _ _ _ _ _
      | exact ih1 _ _ _ _ _ _ _ _ _ _ _ _ _ _
      | exact fixed_Sum.mono _ _
      | exact LeO.none _
      | refine LeO.ite ?_ ?_
      | refine LeO.bind ?_ (fun _ => ?_)
theorem measure_Min.mono : ∀ a0 k, LeO (measure_Min.f k a0) (measure_Min.f (k + 1) a0) := by
  intro a0 k
  obtain ⟨ih0, ih1⟩ := measure_Min.mono_l k
  unfold measure_Min.f
  repeat' first
      | (with_reducible exact ih0 _ _ _ _ _ _ _)
      | (with_reducible exact ih1 _ _ _ _ _ _ _ _ _ _ _ _ _ _)
      | (with_reducible exact fixed_Sum.mono _ _)
      | (with_reducible exact LeO.refl _)
      | (with_reducible exact LeO.none _)
      | (with_reducible refine LeO.ite ?_ ?_)
      | (with_reducible refine LeO.bind ?_ (fun _ => ?_))
      | exact ih0 _ _ _ _ _ _ _
      | exact ih1 _ _ _ _ _ _ _ _ _ _ _ _ _ _
      | exact fixed_Sum.mono _ _
      | exact LeO.none _
      | refine LeO.ite ?_ ?_
      | refine LeO.bind ?_ (fun _ => ?_)
set_option maxHeartbeats 8000000 in
set_option maxRecDepth 100000 in
theorem measure_Min.calls (k : Nat) (A0 : Option Addr) (c0 : Nat) (l0 : List (S32)) (r1 : Int) (r2 : Bool) (w : World) (hr0 : Kd.C k32 w A0 l0.length l0) (hc0 : l0.length ≤ c0) (h : measure_Min.f k l0 = some (r1, r2)) :
    Calls Try.prog 10 #[.slice A0 l0.length c0] w fun e w' => e = .returned (.tuple #[.int .i64 r1, .bool r2]) ∧ Below w.heap.size w w' := by
  have hu32 := Try.underlying32
  have HR0 := Aside0.mk hr0
  have HC0 := Aside0.mk hc0
  clear hr0 hc0
  have HB := Aside0.mk (Below.refl w.heap.size w)
  have H : (measure_Min.l0 k l0 ([] : List Int) 0 true l0 (l0.length : Int) 0) = some (r1, r2) := h
  clear h
  have H' := Aside0.mk H
  clear H
  go_enter Try.func10, Try.ntmps10
  go_wp2
  go_loopg [4, 5, 6, 13] k (fun kq v4 v5 v6 v13 w' => ∃ (x4_1 : List Int) (x5_1 : Int) (x6_1 : Bool) (x13_1 : Int), v5 = .int .i64 x5_1 ∧ v6 = .bool x6_1 ∧ v13 = .int .i64 x13_1 ∧ Aside0 (measure_Min.l0 kq l0 x4_1 x5_1 x6_1 l0 (l0.length : Int) x13_1 = some (r1, r2)) ∧ Aside0 (kq ≤ k) ∧ Aside0 (Kd.R (Kd.int .i64) 2 w' w.heap.size (fun _ => True) v4 x4_1) ∧ Aside0 (Below w.heap.size w w'))
  case atStart => exact ⟨(([] : List Int)), (0), (true), (0), (by first | rfl | (simp; done) | (simp [*]; done)), (by first | rfl | (simp; done) | (simp [*]; done)), (by first | rfl | (simp; done) | (simp [*]; done)), H', ⟨Nat.le_refl _⟩, ⟨by first | exact Kd.R_nil _ _ _ _ _ | exact Kd.N_nil _ _ _ _ _ | exact Kd.V_nil _ _ _ _ _ | exact Kd.Q_nil _ _ _ _ _ | exact Kd.S_nil _ _ _ _ _⟩, ⟨by repeat (first | (with_reducible first | exact HB.out | apply below_alloc | apply pw_below_drewN | apply below_drew1) | exact HB.out)⟩⟩
  case round =>
    clear H'
    try clear c1
    obtain ⟨x4_1, x5_1, x6_1, x13_1, rfl, rfl, rfl, HA, HK1, HO_4, HB⟩ := hrel
    cases gk with
    | zero => exact absurd HA.out (by simp [measure_Min.l0])
    | succ k1 =>
      have H := HA.out
      clear HA
      simp only [measure_Min.l0] at H
      by_cases c2 : x13_1 < (l0.length : Int)
      · rw [if_pos c2] at H
        have c2b0 : decide (x13_1 < (l0.length : Int)) = true := decide_eq_true c2
        clear c2
        by_cases c3 : 0 ≤ x13_1
        · rw [if_pos c3] at H
          have c3b0 : decide (0 ≤ x13_1) = true := decide_eq_true c3
          clear c3
          by_cases c4 : x13_1 < (l0.length : Int)
          · rw [if_pos c4] at H
            have c4b0 : decide (x13_1 < (l0.length : Int)) = true := decide_eq_true c4
            clear c4
            have HC5 := Aside0.mk H
            clear H
            have p226 : 0 ≤ (x13_1 : Int) := of_decide_eq_true (by first | (with_reducible assumption) | assumption)
            have q226 : x13_1 < (l0.length : Int) := of_decide_eq_true (by first | (with_reducible assumption) | assumption)
            obtain ⟨ad226, e226, hx226_0, hx226_1, hx226_2, hx226_3, hx226_4, hx226_5⟩ := at_T32 HR0.out x13_1 p226 q226
            cases e226
            replace hx226_0 := (HB.out.cell (World.block_lt_of_cell? w _ hx226_0)).trans hx226_0
            replace hx226_1 := (HB.out.cell (World.block_lt_of_cell? w _ hx226_1)).trans hx226_1
            replace hx226_2 := (HB.out.cell (World.block_lt_of_cell? w _ hx226_2)).trans hx226_2
            replace hx226_3 := (HB.out.cell (World.block_lt_of_cell? w _ hx226_3)).trans hx226_3
            replace hx226_4 := (HB.out.cell (World.block_lt_of_cell? w _ hx226_4)).trans hx226_4
            replace hx226_5 := (HB.out.cell (World.block_lt_of_cell? w _ hx226_5)).trans hx226_5
            replace p226 := eq_true p226
            replace q226 := eq_true q226
            go_upto_if 19 with (first | ((with_reducible refine gate_dst (N := 8) rfl ?_); refine box_event ?hg (N := 8) ?hd (cs := #[.int .i64 0, .int .i64 0, .int .i64 0, .int .i64 0, .string (⟨#[]⟩ : ByteArray), .bool false]) (t := 32) ?hr ?_; (case hd => rfl); (case hg => rfl); (case hr => first | (go_simp; done) | (go_simp; rfl)); intro gb227 hg w6 hbox hb; have n0_ := Aside0.mk (Kd.R_below (by (with_reducible repeat (first | apply Kd.R_alloc | apply Kd.R_drewN | apply Kd.R_drew)); exact HO_4.out) hb); have n1_ := Aside0.mk (below_step (by repeat (first | (with_reducible first | exact HB.out | apply below_alloc | apply pw_below_drewN | apply below_drew1) | exact HB.out)) hb); have n2_ := Aside0.mk (hbox); have n3_ := Aside0.mk ((by rw [hg]; exact (below_size (by repeat (first | (with_reducible first | exact HB.out | apply below_alloc | apply pw_below_drewN | apply below_drew1) | exact HB.out))) : w.heap.size ≤ gb227)); have n4_ := Aside0.mk ((by rw [hg]; exact (below_size (by repeat (first | (with_reducible first | exact HB.out | apply below_alloc | apply pw_below_drewN | apply below_drew1) | exact HB.out))) : w.heap.size ≤ gb227)); clear HO_4; clear HB; have HO_4 := n0_; have HB := n1_; have BK227 := n2_; have GW227 := n3_; have GE227 := n4_; clear n0_ n1_ n2_ n3_ n4_; clear hb hbox hg; have hcz7_0 : w6.cell? ⟨gb227, 0, none⟩ = some (.int .i64 0) := (blk_cell BK227.out 0).trans rfl; have hcz7_1 : w6.cell? ⟨gb227, 1, none⟩ = some (.int .i64 0) := (blk_cell BK227.out 1).trans rfl; have hcz7_2 : w6.cell? ⟨gb227, 2, none⟩ = some (.int .i64 0) := (blk_cell BK227.out 2).trans rfl; have hcz7_3 : w6.cell? ⟨gb227, 3, none⟩ = some (.int .i64 0) := (blk_cell BK227.out 3).trans rfl; have hcz7_4 : w6.cell? ⟨gb227, 4, none⟩ = some (.string (⟨#[]⟩ : ByteArray)) := (blk_cell BK227.out 4).trans rfl; have hcz7_5 : w6.cell? ⟨gb227, 5, none⟩ = some (.bool false) := (blk_cell BK227.out 5).trans rfl; have hfz7_0 := blk_frozen BK227.out 0; have hfz7_1 := blk_frozen BK227.out 1; have hfz7_2 := blk_frozen BK227.out 2; have hfz7_3 := blk_frozen BK227.out 3; have hfz7_4 := blk_frozen BK227.out 4; have hfz7_5 := blk_frozen BK227.out 5))
            (try simp only [Act.put, List.setIfInBounds_toArray, List.set_cons_zero, List.set_cons_succ])
            go_cut [4] (fun v4 wc => ∃ (kq : Nat) (x4_4 : List Int), Aside0 (measure_Min.j1 kq l0 x4_4 x5_1 x6_1 x13_1 l0 (l0.length : Int) x13_1 ((rd_T32 l0 x13_1).f0) ((rd_T32 l0 x13_1).f1) ((rd_T32 l0 x13_1).f2) ((rd_T32 l0 x13_1).f3) ((rd_T32 l0 x13_1).f4) ((rd_T32 l0 x13_1).f5) = some (r1, r2)) ∧ Aside0 (kq ≤ k1) ∧ Aside0 (Kd.R (Kd.int .i64) 2 wc w.heap.size (fun _ => True) v4 x4_4) ∧ Aside0 (wc.heap[gb227]? = some (.cells #[.int .i64 ((rd_T32 l0 x13_1).f0), .int .i64 ((rd_T32 l0 x13_1).f1), .int .i64 ((rd_T32 l0 x13_1).f2), .int .i64 ((rd_T32 l0 x13_1).f3), .string ((rd_T32 l0 x13_1).f4), .bool ((rd_T32 l0 x13_1).f5)] 32 (0, 0))) ∧ Aside0 (Below w.heap.size w wc))
            case first =>
              have H := HC5.out
              clear HC5
              obtain ⟨bq8, hbq8⟩ : ∃ b_ : Bool, b_ = ((rd_T32 l0 x13_1).f5) := ⟨_, rfl⟩
              replace H : (if bq8 = true then (measure_Min.j1 k1 l0 ([] : List Int) x5_1 x6_1 x13_1 l0 (l0.length : Int) x13_1 ((rd_T32 l0 x13_1).f0) ((rd_T32 l0 x13_1).f1) ((rd_T32 l0 x13_1).f2) ((rd_T32 l0 x13_1).f3) ((rd_T32 l0 x13_1).f4) bq8) else (measure_Min.j1 k1 l0 x4_1 x5_1 x6_1 x13_1 l0 (l0.length : Int) x13_1 ((rd_T32 l0 x13_1).f0) ((rd_T32 l0 x13_1).f1) ((rd_T32 l0 x13_1).f2) ((rd_T32 l0 x13_1).f3) ((rd_T32 l0 x13_1).f4) bq8)) = some (r1, r2) := by rw [← hbq8] at H; exact H
              have Nbq8 := Aside0.mk hbq8
              clear hbq8
              (try rw [← Nbq8.out])
              by_cases c9 : bq8 = true
              · subst c9
                have H1 : (measure_Min.j1 k1 l0 ([] : List Int) x5_1 x6_1 x13_1 l0 (l0.length : Int) x13_1 ((rd_T32 l0 x13_1).f0) ((rd_T32 l0 x13_1).f1) ((rd_T32 l0 x13_1).f2) ((rd_T32 l0 x13_1).f3) ((rd_T32 l0 x13_1).f4) true) = some (r1, r2) := by rw [if_pos rfl] at H; exact H
                clear H
                have H := H1
                clear H1
                have H' := Aside0.mk H
                clear H
                go_wp2
                go_meet
                case rel => rw [← Nbq8.out]; exact ⟨_, (([] : List Int)), H', ⟨by have := HK1.out; first | omega | exact Nat.le_refl _⟩, ⟨by first | exact Kd.R_nil _ _ _ _ _ | exact Kd.N_nil _ _ _ _ _ | exact Kd.V_nil _ _ _ _ _ | exact Kd.Q_nil _ _ _ _ _ | exact Kd.S_nil _ _ _ _ _⟩, ⟨by (with_reducible repeat (first | refine blk_drewN ?_ _ | refine blk_drew ?_ | refine blk_alloc ?_ _)); refine blk_put (cs := #[.int .i64 ((rd_T32 l0 x13_1).f0), .int .i64 ((rd_T32 l0 x13_1).f1), .int .i64 ((rd_T32 l0 x13_1).f2), .int .i64 ((rd_T32 l0 x13_1).f3), .string ((rd_T32 l0 x13_1).f4), .bool false]) ?_ 5 _ rfl; (with_reducible repeat (first | refine blk_drewN ?_ _ | refine blk_drew ?_ | refine blk_alloc ?_ _)); refine blk_put (cs := #[.int .i64 ((rd_T32 l0 x13_1).f0), .int .i64 ((rd_T32 l0 x13_1).f1), .int .i64 ((rd_T32 l0 x13_1).f2), .int .i64 ((rd_T32 l0 x13_1).f3), .string (⟨#[]⟩ : ByteArray), .bool false]) ?_ 4 _ rfl; (with_reducible repeat (first | refine blk_drewN ?_ _ | refine blk_drew ?_ | refine blk_alloc ?_ _)); refine blk_put (cs := #[.int .i64 ((rd_T32 l0 x13_1).f0), .int .i64 ((rd_T32 l0 x13_1).f1), .int .i64 ((rd_T32 l0 x13_1).f2), .int .i64 0, .string (⟨#[]⟩ : ByteArray), .bool false]) ?_ 3 _ rfl; (with_reducible repeat (first | refine blk_drewN ?_ _ | refine blk_drew ?_ | refine blk_alloc ?_ _)); refine blk_put (cs := #[.int .i64 ((rd_T32 l0 x13_1).f0), .int .i64 ((rd_T32 l0 x13_1).f1), .int .i64 0, .int .i64 0, .string (⟨#[]⟩ : ByteArray), .bool false]) ?_ 2 _ rfl; (with_reducible repeat (first | refine blk_drewN ?_ _ | refine blk_drew ?_ | refine blk_alloc ?_ _)); refine blk_put (cs := #[.int .i64 ((rd_T32 l0 x13_1).f0), .int .i64 0, .int .i64 0, .int .i64 0, .string (⟨#[]⟩ : ByteArray), .bool false]) ?_ 1 _ rfl; (with_reducible repeat (first | refine blk_drewN ?_ _ | refine blk_drew ?_ | refine blk_alloc ?_ _)); refine blk_put (cs := #[.int .i64 0, .int .i64 0, .int .i64 0, .int .i64 0, .string (⟨#[]⟩ : ByteArray), .bool false]) ?_ 0 _ rfl; (with_reducible repeat (first | refine blk_drewN ?_ _ | refine blk_drew ?_ | refine blk_alloc ?_ _)); exact BK227.out⟩, ⟨by repeat (first | (with_reducible first | exact HB.out | apply below_alloc | apply pw_below_drewN | apply below_drew1 | refine below_set ?_ GE227.out) | exact HB.out)⟩⟩
              · replace c9 := Bool.eq_false_iff.mpr c9
                subst c9
                have H1 : (measure_Min.j1 k1 l0 x4_1 x5_1 x6_1 x13_1 l0 (l0.length : Int) x13_1 ((rd_T32 l0 x13_1).f0) ((rd_T32 l0 x13_1).f1) ((rd_T32 l0 x13_1).f2) ((rd_T32 l0 x13_1).f3) ((rd_T32 l0 x13_1).f4) false) = some (r1, r2) := by rw [if_neg (show ¬ (false = true) by decide)] at H; exact H
                clear H
                have H := H1
                clear H1
                have H' := Aside0.mk H
                clear H
                go_wp2
                go_meet
                case rel => rw [← Nbq8.out]; exact ⟨_, (x4_1), H', ⟨by have := HK1.out; first | omega | exact Nat.le_refl _⟩, ⟨by (with_reducible repeat (first | apply Kd.R_alloc | apply Kd.R_drewN | apply Kd.R_drew)); exact Kd.R_mono (Kd.R_far (p := ⟨gb227, 5, none⟩) (Kd.R_far (p := ⟨gb227, 4, none⟩) (Kd.R_far (p := ⟨gb227, 3, none⟩) (Kd.R_far (p := ⟨gb227, 2, none⟩) (Kd.R_far (p := ⟨gb227, 1, none⟩) (Kd.R_far (p := ⟨gb227, 0, none⟩) (Kd.R_types HO_4.out BK227.out (by decide)) (fun _ hk => hk.2) (.int .i64 ((rd_T32 l0 x13_1).f0))) (fun _ hk => hk.2) (.int .i64 ((rd_T32 l0 x13_1).f1))) (fun _ hk => hk.2) (.int .i64 ((rd_T32 l0 x13_1).f2))) (fun _ hk => hk.2) (.int .i64 ((rd_T32 l0 x13_1).f3))) (fun _ hk => hk.2) (.string ((rd_T32 l0 x13_1).f4))) (fun _ hk => hk.2) (.bool (false))) (fun _ hk => trivial)⟩, ⟨by (with_reducible repeat (first | refine blk_drewN ?_ _ | refine blk_drew ?_ | refine blk_alloc ?_ _)); refine blk_put (cs := #[.int .i64 ((rd_T32 l0 x13_1).f0), .int .i64 ((rd_T32 l0 x13_1).f1), .int .i64 ((rd_T32 l0 x13_1).f2), .int .i64 ((rd_T32 l0 x13_1).f3), .string ((rd_T32 l0 x13_1).f4), .bool false]) ?_ 5 _ rfl; (with_reducible repeat (first | refine blk_drewN ?_ _ | refine blk_drew ?_ | refine blk_alloc ?_ _)); refine blk_put (cs := #[.int .i64 ((rd_T32 l0 x13_1).f0), .int .i64 ((rd_T32 l0 x13_1).f1), .int .i64 ((rd_T32 l0 x13_1).f2), .int .i64 ((rd_T32 l0 x13_1).f3), .string (⟨#[]⟩ : ByteArray), .bool false]) ?_ 4 _ rfl; (with_reducible repeat (first | refine blk_drewN ?_ _ | refine blk_drew ?_ | refine blk_alloc ?_ _)); refine blk_put (cs := #[.int .i64 ((rd_T32 l0 x13_1).f0), .int .i64 ((rd_T32 l0 x13_1).f1), .int .i64 ((rd_T32 l0 x13_1).f2), .int .i64 0, .string (⟨#[]⟩ : ByteArray), .bool false]) ?_ 3 _ rfl; (with_reducible repeat (first | refine blk_drewN ?_ _ | refine blk_drew ?_ | refine blk_alloc ?_ _)); refine blk_put (cs := #[.int .i64 ((rd_T32 l0 x13_1).f0), .int .i64 ((rd_T32 l0 x13_1).f1), .int .i64 0, .int .i64 0, .string (⟨#[]⟩ : ByteArray), .bool false]) ?_ 2 _ rfl; (with_reducible repeat (first | refine blk_drewN ?_ _ | refine blk_drew ?_ | refine blk_alloc ?_ _)); refine blk_put (cs := #[.int .i64 ((rd_T32 l0 x13_1).f0), .int .i64 0, .int .i64 0, .int .i64 0, .string (⟨#[]⟩ : ByteArray), .bool false]) ?_ 1 _ rfl; (with_reducible repeat (first | refine blk_drewN ?_ _ | refine blk_drew ?_ | refine blk_alloc ?_ _)); refine blk_put (cs := #[.int .i64 0, .int .i64 0, .int .i64 0, .int .i64 0, .string (⟨#[]⟩ : ByteArray), .bool false]) ?_ 0 _ rfl; (with_reducible repeat (first | refine blk_drewN ?_ _ | refine blk_drew ?_ | refine blk_alloc ?_ _)); exact BK227.out⟩, ⟨by repeat (first | (with_reducible first | exact HB.out | apply below_alloc | apply pw_below_drewN | apply below_drew1 | refine below_set ?_ GE227.out) | exact HB.out)⟩⟩
            case rest =>
              clear HC5
              try clear c1
              try clear c2
              try clear c2b0
              try clear p2
              try clear q2
              try clear hx2
              try clear c3
              try clear c3b0
              try clear c4
              try clear c4b0
              try clear q8
              try clear c9
              try clear hcz7_0
              try clear hcz7_1
              try clear hcz7_2
              try clear hcz7_3
              try clear hcz7_4
              try clear hcz7_5
              try clear hfz7_0
              try clear hfz7_1
              try clear hfz7_2
              try clear hfz7_3
              try clear hfz7_4
              try clear hfz7_5
              try clear hx226_0
              try clear hx226_1
              try clear hx226_2
              try clear hx226_3
              try clear hx226_4
              try clear hx226_5
              try clear p226
              try clear q226
              obtain ⟨kq, x4_4, HA, HJ4, HO_4, BK227, HB⟩ := hcut
              cases kq with
              | zero => exact absurd HA.out (by simp [measure_Min.j1])
              | succ kj4 =>
                have H := HA.out
                clear HA
                simp only [measure_Min.j1] at H
                by_cases c10 : (x4_4.length : Int) > 0
                · rw [if_pos c10] at H
                  have c10b0 : decide (0 < (x4_4.length : Int)) = true := decide_eq_true c10
                  have c10b1 : decide (0 < x4_4.length) = true := decide_eq_true (by omega)
                  clear c10
                  by_cases c11 : x4_4.length < 17592186044416
                  · rw [if_pos c11] at H
                    have LMc11 := Aside0.mk c11
                    clear c11
                    obtain ⟨y228, hy228⟩ : ∃ y_ : List Int, y_ = (x4_4 ++ [((rd_T32 l0 x13_1).f3)]) := ⟨_, rfl⟩
                    replace H : (if y228.length < 17592186044416 then ((some (y228 ++ [((rd_T32 l0 x13_1).f1)] : List Int)).bind fun y231 => (if (wrap64 (x13_1 + 1)) = (l0.length : Int) then ((fixed_Sum.f kj4 y231).bind fun bt234 => (if x6_1 = true then (measure_Min.l0 kj4 l0 y231 (mx x5_1 bt234.1) bt234.2 l0 (l0.length : Int) (wrap64 (x13_1 + 1))) else (measure_Min.l0 kj4 l0 y231 (mx x5_1 bt234.1) false l0 (l0.length : Int) (wrap64 (x13_1 + 1))))) else (if 0 ≤ (wrap64 (x13_1 + 1)) then (if (wrap64 (x13_1 + 1)) < (l0.length : Int) then (if (rd_T32 l0 (wrap64 (x13_1 + 1))).f5 = true then ((fixed_Sum.f kj4 y231).bind fun bt237 => (if x6_1 = true then (measure_Min.l0 kj4 l0 y231 (mx x5_1 bt237.1) bt237.2 l0 (l0.length : Int) (wrap64 (x13_1 + 1))) else (measure_Min.l0 kj4 l0 y231 (mx x5_1 bt237.1) false l0 (l0.length : Int) (wrap64 (x13_1 + 1))))) else (measure_Min.l0 kj4 l0 y231 x5_1 x6_1 l0 (l0.length : Int) (wrap64 (x13_1 + 1)))) else (none)) else (none)))) else (none)) = some (r1, r2) := by first | (rw [hy228]; with_reducible exact H) | (have H2_ := (Option.bind_some _ _).symm.trans H; rw [hy228]; with_reducible exact H2_) | (have H2_ := (Option.bind_some _ _).symm.trans H; with_reducible exact H2_) | with_reducible exact H | (rw [hy228]; exact H) | exact H
                    have Ny228 := Aside0.mk hy228
                    clear hy228
                    by_cases c12 : y228.length < 17592186044416
                    · rw [if_pos c12] at H
                      have LMc12 := Aside0.mk c12
                      clear c12
                      obtain ⟨y231, hy231⟩ : ∃ y_ : List Int, y_ = (y228 ++ [((rd_T32 l0 x13_1).f1)]) := ⟨_, rfl⟩
                      replace H : (if (wrap64 (x13_1 + 1)) = (l0.length : Int) then ((fixed_Sum.f kj4 y231).bind fun bt234 => (if x6_1 = true then (measure_Min.l0 kj4 l0 y231 (mx x5_1 bt234.1) bt234.2 l0 (l0.length : Int) (wrap64 (x13_1 + 1))) else (measure_Min.l0 kj4 l0 y231 (mx x5_1 bt234.1) false l0 (l0.length : Int) (wrap64 (x13_1 + 1))))) else (if 0 ≤ (wrap64 (x13_1 + 1)) then (if (wrap64 (x13_1 + 1)) < (l0.length : Int) then (if (rd_T32 l0 (wrap64 (x13_1 + 1))).f5 = true then ((fixed_Sum.f kj4 y231).bind fun bt237 => (if x6_1 = true then (measure_Min.l0 kj4 l0 y231 (mx x5_1 bt237.1) bt237.2 l0 (l0.length : Int) (wrap64 (x13_1 + 1))) else (measure_Min.l0 kj4 l0 y231 (mx x5_1 bt237.1) false l0 (l0.length : Int) (wrap64 (x13_1 + 1))))) else (measure_Min.l0 kj4 l0 y231 x5_1 x6_1 l0 (l0.length : Int) (wrap64 (x13_1 + 1)))) else (none)) else (none))) = some (r1, r2) := by first | (rw [hy231]; with_reducible exact H) | (have H2_ := (Option.bind_some _ _).symm.trans H; rw [hy231]; with_reducible exact H2_) | (have H2_ := (Option.bind_some _ _).symm.trans H; with_reducible exact H2_) | with_reducible exact H | (rw [hy231]; exact H) | exact H
                      have Ny231 := Aside0.mk hy231
                      clear hy231
                      by_cases c13 : (wrap64 (x13_1 + 1)) = (l0.length : Int)
                      · rw [if_pos c13] at H
                        have c13b0 : ((wrap64 (x13_1 + 1)) == (l0.length : Int)) = true := beq_iff_eq.mpr c13
                        have c13b1 : ((wrap64 (x13_1 + 1)) != (l0.length : Int)) = false := bne_eq_false_iff_eq.mpr c13
                        clear c13
                        replace H := Option.bind_eq_some_iff.mp H
                        obtain ⟨⟨t234, t235⟩, A140, H⟩ := H
                        replace H : (if x6_1 = true then (measure_Min.l0 kj4 l0 y231 (mx x5_1 t234) t235 l0 (l0.length : Int) (wrap64 (x13_1 + 1))) else (measure_Min.l0 kj4 l0 y231 (mx x5_1 t234) false l0 (l0.length : Int) (wrap64 (x13_1 + 1)))) = some (r1, r2) := H
                        have A14 := Aside0.mk A140
                        clear A140
                        obtain ⟨ji15, hji15⟩ : ∃ j_ : Int, (mx x5_1 t234) = j_ := ⟨_, rfl⟩
                        replace H : (if x6_1 = true then (measure_Min.l0 kj4 l0 y231 ji15 t235 l0 (l0.length : Int) (wrap64 (x13_1 + 1))) else (measure_Min.l0 kj4 l0 y231 ji15 false l0 (l0.length : Int) (wrap64 (x13_1 + 1)))) = some (r1, r2) := by first | (rw [hji15] at H; exact H) | (simp only [hji15] at H ⊢; exact H)
                        (try rw [hji15] at A14)
                        have hji15_ : (if x5_1 < t234 then t234 else x5_1) = ji15 := hji15
                        by_cases c16 : x6_1 = true
                        · subst c16
                          have H1 : (measure_Min.l0 kj4 l0 y231 ji15 t235 l0 (l0.length : Int) (wrap64 (x13_1 + 1))) = some (r1, r2) := by rw [if_pos rfl] at H; exact H
                          clear H
                          have H := H1
                          clear H1
                          have H' := Aside0.mk H
                          clear H
                          obtain ⟨Ao17, co17, eo17⟩ := Kd.R_slice HO_4.out
                          subst eo17
                          have hcz18_0 : wc.cell? ⟨gb227, 0, none⟩ = some (.int .i64 ((rd_T32 l0 x13_1).f0)) := (blk_cell BK227.out 0).trans rfl
                          have hcz18_1 : wc.cell? ⟨gb227, 1, none⟩ = some (.int .i64 ((rd_T32 l0 x13_1).f1)) := (blk_cell BK227.out 1).trans rfl
                          have hcz18_2 : wc.cell? ⟨gb227, 2, none⟩ = some (.int .i64 ((rd_T32 l0 x13_1).f2)) := (blk_cell BK227.out 2).trans rfl
                          have hcz18_3 : wc.cell? ⟨gb227, 3, none⟩ = some (.int .i64 ((rd_T32 l0 x13_1).f3)) := (blk_cell BK227.out 3).trans rfl
                          have hcz18_4 : wc.cell? ⟨gb227, 4, none⟩ = some (.string ((rd_T32 l0 x13_1).f4)) := (blk_cell BK227.out 4).trans rfl
                          have hcz18_5 : wc.cell? ⟨gb227, 5, none⟩ = some (.bool ((rd_T32 l0 x13_1).f5)) := (blk_cell BK227.out 5).trans rfl
                          have hfz18_0 := blk_frozen BK227.out 0
                          have hfz18_1 := blk_frozen BK227.out 1
                          have hfz18_2 := blk_frozen BK227.out 2
                          have hfz18_3 := blk_frozen BK227.out 3
                          have hfz18_4 := blk_frozen BK227.out 4
                          have hfz18_5 := blk_frozen BK227.out 5
                          go_wp2_with (first | ((with_reducible refine gate_builtin (b := .append) (xs := #[.tmp 23, .tmp 26]) rfl ?_); at_builtin; refine Kd.R_append (Kd.int .i64) (w0 := w) w.heap.size rfl (.tmp 23) (.tmp 26) 53 2 (.int .i64 0) 8 rfl Try.underlying53 info2 rfl (by decide) (by omega) (.slice Ao17 x4_4.length co17) x4_4 ((rd_T32 l0 x13_1).f3) [.int .i64 ((rd_T32 l0 x13_1).f3)] (fun _ => True) (fun _ => False) rfl rfl ?aP (fun _ hk => hk.elim) ?aF ?aO ?aB ?aS ?aL ?_; (case aP => exact rfl); (case aB => exact (by repeat (first | (with_reducible first | exact HB.out | apply below_alloc | apply pw_below_drewN | apply below_drew1 | refine below_set ?_ GE227.out) | exact HB.out))); (case aF => exact (fun _ _ => trivial)); (case aO => exact (by (with_reducible repeat (first | apply Kd.R_alloc | apply Kd.R_drewN | apply Kd.R_drew)); exact HO_4.out)); (case aS => exact (below_size (by repeat (first | (with_reducible first | exact HB.out | apply below_alloc | apply pw_below_drewN | apply below_drew1 | refine below_set ?_ GE227.out) | exact HB.out)))); (case aL => have := LMc11.out; omega); intro v229 w19 ho hb hg hat; rw [← Ny228.out] at ho; have n0_ := Aside0.mk (blk_grown (g := gb227) (o := .cells #[.int .i64 ((rd_T32 l0 x13_1).f0), .int .i64 ((rd_T32 l0 x13_1).f1), .int .i64 ((rd_T32 l0 x13_1).f2), .int .i64 ((rd_T32 l0 x13_1).f3), .string ((rd_T32 l0 x13_1).f4), .bool ((rd_T32 l0 x13_1).f5)] 32 (0, 0)) (by (with_reducible repeat (first | refine blk_drewN ?_ _ | refine blk_drew ?_ | refine blk_alloc ?_ _)); exact BK227.out) hg (Kd.R_ne HO_4.out BK227.out (by decide))); have n1_ := Aside0.mk (hb); have n2_ := Aside0.mk (ho); clear BK227; clear HB; clear HO_4; have BK227 := n0_; have HB := n1_; have HO230 := n2_; clear n0_ n1_ n2_; clear ho hb hg hat; have hcz20_0 : w19.cell? ⟨gb227, 0, none⟩ = some (.int .i64 ((rd_T32 l0 x13_1).f0)) := (blk_cell BK227.out 0).trans rfl; have hcz20_1 : w19.cell? ⟨gb227, 1, none⟩ = some (.int .i64 ((rd_T32 l0 x13_1).f1)) := (blk_cell BK227.out 1).trans rfl; have hcz20_2 : w19.cell? ⟨gb227, 2, none⟩ = some (.int .i64 ((rd_T32 l0 x13_1).f2)) := (blk_cell BK227.out 2).trans rfl; have hcz20_3 : w19.cell? ⟨gb227, 3, none⟩ = some (.int .i64 ((rd_T32 l0 x13_1).f3)) := (blk_cell BK227.out 3).trans rfl; have hcz20_4 : w19.cell? ⟨gb227, 4, none⟩ = some (.string ((rd_T32 l0 x13_1).f4)) := (blk_cell BK227.out 4).trans rfl; have hcz20_5 : w19.cell? ⟨gb227, 5, none⟩ = some (.bool ((rd_T32 l0 x13_1).f5)) := (blk_cell BK227.out 5).trans rfl; have hfz20_0 := blk_frozen BK227.out 0; have hfz20_1 := blk_frozen BK227.out 1; have hfz20_2 := blk_frozen BK227.out 2; have hfz20_3 := blk_frozen BK227.out 3; have hfz20_4 := blk_frozen BK227.out 4; have hfz20_5 := blk_frozen BK227.out 5) | ((with_reducible refine gate_builtin (b := .append) (xs := #[.tmp 28, .tmp 31]) rfl ?_); at_builtin; refine Kd.R_append (Kd.int .i64) (w0 := w) w.heap.size rfl (.tmp 28) (.tmp 31) 53 2 (.int .i64 0) 8 rfl Try.underlying53 info2 rfl (by decide) (by omega) v229 y228 ((rd_T32 l0 x13_1).f1) [.int .i64 ((rd_T32 l0 x13_1).f1)] (fun _ => True) (fun _ => False) rfl rfl ?aP (fun _ hk => hk.elim) ?aF ?aO ?aB ?aS ?aL ?_; (case aP => exact rfl); (case aB => exact (by repeat (first | (with_reducible first | exact HB.out | apply below_alloc | apply pw_below_drewN | apply below_drew1 | refine below_set ?_ GE227.out) | exact HB.out))); (case aF => exact (fun _ _ => trivial)); (case aO => exact (by (with_reducible repeat (first | apply Kd.R_alloc | apply Kd.R_drewN | apply Kd.R_drew)); exact HO230.out)); (case aS => exact (below_size (by repeat (first | (with_reducible first | exact HB.out | apply below_alloc | apply pw_below_drewN | apply below_drew1 | refine below_set ?_ GE227.out) | exact HB.out)))); (case aL => have := LMc12.out; omega); intro v232 w21 ho hb hg hat; rw [← Ny231.out] at ho; have n0_ := Aside0.mk (blk_grown (g := gb227) (o := .cells #[.int .i64 ((rd_T32 l0 x13_1).f0), .int .i64 ((rd_T32 l0 x13_1).f1), .int .i64 ((rd_T32 l0 x13_1).f2), .int .i64 ((rd_T32 l0 x13_1).f3), .string ((rd_T32 l0 x13_1).f4), .bool ((rd_T32 l0 x13_1).f5)] 32 (0, 0)) (by (with_reducible repeat (first | refine blk_drewN ?_ _ | refine blk_drew ?_ | refine blk_alloc ?_ _)); exact BK227.out) hg (Kd.R_ne HO230.out BK227.out (by decide))); have n1_ := Aside0.mk (hb); have n2_ := Aside0.mk (ho); clear BK227; clear HB; clear HO230; have BK227 := n0_; have HB := n1_; have HO233 := n2_; clear n0_ n1_ n2_; clear ho hb hg hat; obtain ⟨Ao22, co22, eo22⟩ := Kd.R_slice HO233.out; subst eo22) | ((with_reducible refine gate_callee (f := 22) rfl ?_); refine goesL_ (some 48) rfl rfl Try.func22 (by kernel_rfl) rfl #[.slice Ao22 y231.length co22] rfl (by (try simp only [List.map_toArray, List.map_cons, List.map_nil]); first | done | rfl | (simp only [List.length_drop, List.length_take]; rfl)) ?_; (with_reducible refine (fixed_Sum.calls kj4 _ _ y231 t234 t235 _ ?side1 ?side2 A14.out).mono ?_); (case side1 => repeat (first | exact (Kd.R_reads' HO233.out).2.2 | (with_reducible refine Kd.C_alloc ?_ _) | (with_reducible refine Kd.C_drewN ?_ _) | (with_reducible refine Kd.C_drew ?_))); (case side2 => exact (Kd.R_reads' HO233.out).2.1); rintro e w' ⟨rfl, ⟨nd, rfl⟩⟩; refine ⟨_, rfl, ?_⟩))
                          go_roundg kj4
                          case measure => have := HK1.out; have := HJ4.out; omega
                          case rel => exact ⟨(y231), (ji15), (t235), (wrap64 (x13_1 + 1)), (by first | rfl | (simp; done) | (simp only [← hji15] <;> (first | rfl | simp)) | (simp [*]; done)), (by first | rfl | (simp; done) | (simp [*]; done)), (by first | rfl | (simp; done) | (simp [*]; done)), H', ⟨by have := HK1.out; have := HJ4.out; omega⟩, ⟨by (with_reducible repeat (first | apply Kd.R_alloc | apply Kd.R_drewN | apply Kd.R_drew)); exact HO233.out⟩, ⟨by repeat (first | (with_reducible first | exact HB.out | apply below_alloc | apply pw_below_drewN | apply below_drew1 | refine below_set ?_ GE227.out) | exact HB.out)⟩⟩
                        · replace c16 := Bool.eq_false_iff.mpr c16
                          subst c16
                          have H1 : (measure_Min.l0 kj4 l0 y231 ji15 false l0 (l0.length : Int) (wrap64 (x13_1 + 1))) = some (r1, r2) := by rw [if_neg (show ¬ (false = true) by decide)] at H; exact H
                          clear H
                          have H := H1
                          clear H1
                          have H' := Aside0.mk H
                          clear H
                          obtain ⟨Ao23, co23, eo23⟩ := Kd.R_slice HO_4.out
                          subst eo23
                          have hcz24_0 : wc.cell? ⟨gb227, 0, none⟩ = some (.int .i64 ((rd_T32 l0 x13_1).f0)) := (blk_cell BK227.out 0).trans rfl
                          have hcz24_1 : wc.cell? ⟨gb227, 1, none⟩ = some (.int .i64 ((rd_T32 l0 x13_1).f1)) := (blk_cell BK227.out 1).trans rfl
                          have hcz24_2 : wc.cell? ⟨gb227, 2, none⟩ = some (.int .i64 ((rd_T32 l0 x13_1).f2)) := (blk_cell BK227.out 2).trans rfl
                          have hcz24_3 : wc.cell? ⟨gb227, 3, none⟩ = some (.int .i64 ((rd_T32 l0 x13_1).f3)) := (blk_cell BK227.out 3).trans rfl
                          have hcz24_4 : wc.cell? ⟨gb227, 4, none⟩ = some (.string ((rd_T32 l0 x13_1).f4)) := (blk_cell BK227.out 4).trans rfl
                          have hcz24_5 : wc.cell? ⟨gb227, 5, none⟩ = some (.bool ((rd_T32 l0 x13_1).f5)) := (blk_cell BK227.out 5).trans rfl
                          have hfz24_0 := blk_frozen BK227.out 0
                          have hfz24_1 := blk_frozen BK227.out 1
                          have hfz24_2 := blk_frozen BK227.out 2
                          have hfz24_3 := blk_frozen BK227.out 3
                          have hfz24_4 := blk_frozen BK227.out 4
                          have hfz24_5 := blk_frozen BK227.out 5
                          go_wp2_with (first | ((with_reducible refine gate_builtin (b := .append) (xs := #[.tmp 23, .tmp 26]) rfl ?_); at_builtin; refine Kd.R_append (Kd.int .i64) (w0 := w) w.heap.size rfl (.tmp 23) (.tmp 26) 53 2 (.int .i64 0) 8 rfl Try.underlying53 info2 rfl (by decide) (by omega) (.slice Ao23 x4_4.length co23) x4_4 ((rd_T32 l0 x13_1).f3) [.int .i64 ((rd_T32 l0 x13_1).f3)] (fun _ => True) (fun _ => False) rfl rfl ?aP (fun _ hk => hk.elim) ?aF ?aO ?aB ?aS ?aL ?_; (case aP => exact rfl); (case aB => exact (by repeat (first | (with_reducible first | exact HB.out | apply below_alloc | apply pw_below_drewN | apply below_drew1 | refine below_set ?_ GE227.out) | exact HB.out))); (case aF => exact (fun _ _ => trivial)); (case aO => exact (by (with_reducible repeat (first | apply Kd.R_alloc | apply Kd.R_drewN | apply Kd.R_drew)); exact HO_4.out)); (case aS => exact (below_size (by repeat (first | (with_reducible first | exact HB.out | apply below_alloc | apply pw_below_drewN | apply below_drew1 | refine below_set ?_ GE227.out) | exact HB.out)))); (case aL => have := LMc11.out; omega); intro v229 w25 ho hb hg hat; rw [← Ny228.out] at ho; have n0_ := Aside0.mk (blk_grown (g := gb227) (o := .cells #[.int .i64 ((rd_T32 l0 x13_1).f0), .int .i64 ((rd_T32 l0 x13_1).f1), .int .i64 ((rd_T32 l0 x13_1).f2), .int .i64 ((rd_T32 l0 x13_1).f3), .string ((rd_T32 l0 x13_1).f4), .bool ((rd_T32 l0 x13_1).f5)] 32 (0, 0)) (by (with_reducible repeat (first | refine blk_drewN ?_ _ | refine blk_drew ?_ | refine blk_alloc ?_ _)); exact BK227.out) hg (Kd.R_ne HO_4.out BK227.out (by decide))); have n1_ := Aside0.mk (hb); have n2_ := Aside0.mk (ho); clear BK227; clear HB; clear HO_4; have BK227 := n0_; have HB := n1_; have HO230 := n2_; clear n0_ n1_ n2_; clear ho hb hg hat; have hcz26_0 : w25.cell? ⟨gb227, 0, none⟩ = some (.int .i64 ((rd_T32 l0 x13_1).f0)) := (blk_cell BK227.out 0).trans rfl; have hcz26_1 : w25.cell? ⟨gb227, 1, none⟩ = some (.int .i64 ((rd_T32 l0 x13_1).f1)) := (blk_cell BK227.out 1).trans rfl; have hcz26_2 : w25.cell? ⟨gb227, 2, none⟩ = some (.int .i64 ((rd_T32 l0 x13_1).f2)) := (blk_cell BK227.out 2).trans rfl; have hcz26_3 : w25.cell? ⟨gb227, 3, none⟩ = some (.int .i64 ((rd_T32 l0 x13_1).f3)) := (blk_cell BK227.out 3).trans rfl; have hcz26_4 : w25.cell? ⟨gb227, 4, none⟩ = some (.string ((rd_T32 l0 x13_1).f4)) := (blk_cell BK227.out 4).trans rfl; have hcz26_5 : w25.cell? ⟨gb227, 5, none⟩ = some (.bool ((rd_T32 l0 x13_1).f5)) := (blk_cell BK227.out 5).trans rfl; have hfz26_0 := blk_frozen BK227.out 0; have hfz26_1 := blk_frozen BK227.out 1; have hfz26_2 := blk_frozen BK227.out 2; have hfz26_3 := blk_frozen BK227.out 3; have hfz26_4 := blk_frozen BK227.out 4; have hfz26_5 := blk_frozen BK227.out 5) | ((with_reducible refine gate_builtin (b := .append) (xs := #[.tmp 28, .tmp 31]) rfl ?_); at_builtin; refine Kd.R_append (Kd.int .i64) (w0 := w) w.heap.size rfl (.tmp 28) (.tmp 31) 53 2 (.int .i64 0) 8 rfl Try.underlying53 info2 rfl (by decide) (by omega) v229 y228 ((rd_T32 l0 x13_1).f1) [.int .i64 ((rd_T32 l0 x13_1).f1)] (fun _ => True) (fun _ => False) rfl rfl ?aP (fun _ hk => hk.elim) ?aF ?aO ?aB ?aS ?aL ?_; (case aP => exact rfl); (case aB => exact (by repeat (first | (with_reducible first | exact HB.out | apply below_alloc | apply pw_below_drewN | apply below_drew1 | refine below_set ?_ GE227.out) | exact HB.out))); (case aF => exact (fun _ _ => trivial)); (case aO => exact (by (with_reducible repeat (first | apply Kd.R_alloc | apply Kd.R_drewN | apply Kd.R_drew)); exact HO230.out)); (case aS => exact (below_size (by repeat (first | (with_reducible first | exact HB.out | apply below_alloc | apply pw_below_drewN | apply below_drew1 | refine below_set ?_ GE227.out) | exact HB.out)))); (case aL => have := LMc12.out; omega); intro v232 w27 ho hb hg hat; rw [← Ny231.out] at ho; have n0_ := Aside0.mk (blk_grown (g := gb227) (o := .cells #[.int .i64 ((rd_T32 l0 x13_1).f0), .int .i64 ((rd_T32 l0 x13_1).f1), .int .i64 ((rd_T32 l0 x13_1).f2), .int .i64 ((rd_T32 l0 x13_1).f3), .string ((rd_T32 l0 x13_1).f4), .bool ((rd_T32 l0 x13_1).f5)] 32 (0, 0)) (by (with_reducible repeat (first | refine blk_drewN ?_ _ | refine blk_drew ?_ | refine blk_alloc ?_ _)); exact BK227.out) hg (Kd.R_ne HO230.out BK227.out (by decide))); have n1_ := Aside0.mk (hb); have n2_ := Aside0.mk (ho); clear BK227; clear HB; clear HO230; have BK227 := n0_; have HB := n1_; have HO233 := n2_; clear n0_ n1_ n2_; clear ho hb hg hat; obtain ⟨Ao28, co28, eo28⟩ := Kd.R_slice HO233.out; subst eo28) | ((with_reducible refine gate_callee (f := 22) rfl ?_); refine goesL_ (some 48) rfl rfl Try.func22 (by kernel_rfl) rfl #[.slice Ao28 y231.length co28] rfl (by (try simp only [List.map_toArray, List.map_cons, List.map_nil]); first | done | rfl | (simp only [List.length_drop, List.length_take]; rfl)) ?_; (with_reducible refine (fixed_Sum.calls kj4 _ _ y231 t234 t235 _ ?side1 ?side2 A14.out).mono ?_); (case side1 => repeat (first | exact (Kd.R_reads' HO233.out).2.2 | (with_reducible refine Kd.C_alloc ?_ _) | (with_reducible refine Kd.C_drewN ?_ _) | (with_reducible refine Kd.C_drew ?_))); (case side2 => exact (Kd.R_reads' HO233.out).2.1); rintro e w' ⟨rfl, ⟨nd, rfl⟩⟩; refine ⟨_, rfl, ?_⟩))
                          go_roundg kj4
                          case measure => have := HK1.out; have := HJ4.out; omega
                          case rel => exact ⟨(y231), (ji15), (false), (wrap64 (x13_1 + 1)), (by first | rfl | (simp; done) | (simp only [← hji15] <;> (first | rfl | simp)) | (simp [*]; done)), (by first | rfl | (simp; done) | (simp [*]; done)), (by first | rfl | (simp; done) | (simp [*]; done)), H', ⟨by have := HK1.out; have := HJ4.out; omega⟩, ⟨by (with_reducible repeat (first | apply Kd.R_alloc | apply Kd.R_drewN | apply Kd.R_drew)); exact HO233.out⟩, ⟨by repeat (first | (with_reducible first | exact HB.out | apply below_alloc | apply pw_below_drewN | apply below_drew1 | refine below_set ?_ GE227.out) | exact HB.out)⟩⟩
                      · rw [if_neg c13] at H
                        have c13b0 : ((wrap64 (x13_1 + 1)) == (l0.length : Int)) = false := beq_eq_false_iff_ne.mpr c13
                        have c13b1 : ((wrap64 (x13_1 + 1)) != (l0.length : Int)) = true := bne_iff_ne.mpr c13
                        obtain ⟨ji29, hji29⟩ : ∃ j_ : Int, (wrap64 (x13_1 + 1)) = j_ := ⟨_, rfl⟩
                        replace H : (if 0 ≤ (ji29) then (if (ji29) < (l0.length : Int) then (if (rd_T32 l0 (ji29)).f5 = true then ((fixed_Sum.f kj4 y231).bind fun bt237 => (if x6_1 = true then (measure_Min.l0 kj4 l0 y231 (mx x5_1 bt237.1) bt237.2 l0 (l0.length : Int) ji29) else (measure_Min.l0 kj4 l0 y231 (mx x5_1 bt237.1) false l0 (l0.length : Int) ji29))) else (measure_Min.l0 kj4 l0 y231 x5_1 x6_1 l0 (l0.length : Int) ji29)) else (none)) else (none)) = some (r1, r2) := by first | (rw [hji29] at H; exact H) | (simp only [hji29] at H ⊢; exact H)
                        (try rw [hji29] at c13b0)
                        (try rw [hji29] at c13b1)
                        have hji29w : (IntKind.i64.wrap (x13_1 + 1)) = ji29 := (i64_w _).trans hji29
                        by_cases c30 : 0 ≤ (ji29)
                        · rw [if_pos c30] at H
                          have c30b0 : decide (0 ≤ (ji29)) = true := decide_eq_true c30
                          clear c30
                          by_cases c31 : (ji29) < (l0.length : Int)
                          · rw [if_pos c31] at H
                            have c31b0 : decide ((ji29) < (l0.length : Int)) = true := decide_eq_true c31
                            clear c31
                            obtain ⟨bq32, hbq32⟩ : ∃ b_ : Bool, b_ = ((rd_T32 l0 (ji29)).f5) := ⟨_, rfl⟩
                            replace H : (if bq32 = true then ((fixed_Sum.f kj4 y231).bind fun bt237 => (if x6_1 = true then (measure_Min.l0 kj4 l0 y231 (mx x5_1 bt237.1) bt237.2 l0 (l0.length : Int) ji29) else (measure_Min.l0 kj4 l0 y231 (mx x5_1 bt237.1) false l0 (l0.length : Int) ji29))) else (measure_Min.l0 kj4 l0 y231 x5_1 x6_1 l0 (l0.length : Int) ji29)) = some (r1, r2) := by rw [← hbq32] at H; exact H
                            have Nbq32 := Aside0.mk hbq32
                            clear hbq32
                            by_cases c33 : bq32 = true
                            · subst c33
                              have H1 : ((fixed_Sum.f kj4 y231).bind fun bt237 => (if x6_1 = true then (measure_Min.l0 kj4 l0 y231 (mx x5_1 bt237.1) bt237.2 l0 (l0.length : Int) ji29) else (measure_Min.l0 kj4 l0 y231 (mx x5_1 bt237.1) false l0 (l0.length : Int) ji29))) = some (r1, r2) := by rw [if_pos rfl] at H; exact H
                              clear H
                              have H := H1
                              clear H1
                              replace H := Option.bind_eq_some_iff.mp H
                              obtain ⟨⟨t237, t238⟩, A340, H⟩ := H
                              replace H : (if x6_1 = true then (measure_Min.l0 kj4 l0 y231 (mx x5_1 t237) t238 l0 (l0.length : Int) ji29) else (measure_Min.l0 kj4 l0 y231 (mx x5_1 t237) false l0 (l0.length : Int) ji29)) = some (r1, r2) := H
                              have A34 := Aside0.mk A340
                              clear A340
                              obtain ⟨ji35, hji35⟩ : ∃ j_ : Int, (mx x5_1 t237) = j_ := ⟨_, rfl⟩
                              replace H : (if x6_1 = true then (measure_Min.l0 kj4 l0 y231 ji35 t238 l0 (l0.length : Int) ji29) else (measure_Min.l0 kj4 l0 y231 ji35 false l0 (l0.length : Int) ji29)) = some (r1, r2) := by first | (rw [hji35] at H; exact H) | (simp only [hji35] at H ⊢; exact H)
                              (try rw [hji35] at A34)
                              have hji35_ : (if x5_1 < t237 then t237 else x5_1) = ji35 := hji35
                              by_cases c36 : x6_1 = true
                              · subst c36
                                have H1 : (measure_Min.l0 kj4 l0 y231 ji35 t238 l0 (l0.length : Int) ji29) = some (r1, r2) := by rw [if_pos rfl] at H; exact H
                                clear H
                                have H := H1
                                clear H1
                                have H' := Aside0.mk H
                                clear H
                                obtain ⟨Ao37, co37, eo37⟩ := Kd.R_slice HO_4.out
                                subst eo37
                                have hcz38_0 : wc.cell? ⟨gb227, 0, none⟩ = some (.int .i64 ((rd_T32 l0 x13_1).f0)) := (blk_cell BK227.out 0).trans rfl
                                have hcz38_1 : wc.cell? ⟨gb227, 1, none⟩ = some (.int .i64 ((rd_T32 l0 x13_1).f1)) := (blk_cell BK227.out 1).trans rfl
                                have hcz38_2 : wc.cell? ⟨gb227, 2, none⟩ = some (.int .i64 ((rd_T32 l0 x13_1).f2)) := (blk_cell BK227.out 2).trans rfl
                                have hcz38_3 : wc.cell? ⟨gb227, 3, none⟩ = some (.int .i64 ((rd_T32 l0 x13_1).f3)) := (blk_cell BK227.out 3).trans rfl
                                have hcz38_4 : wc.cell? ⟨gb227, 4, none⟩ = some (.string ((rd_T32 l0 x13_1).f4)) := (blk_cell BK227.out 4).trans rfl
                                have hcz38_5 : wc.cell? ⟨gb227, 5, none⟩ = some (.bool ((rd_T32 l0 x13_1).f5)) := (blk_cell BK227.out 5).trans rfl
                                have hfz38_0 := blk_frozen BK227.out 0
                                have hfz38_1 := blk_frozen BK227.out 1
                                have hfz38_2 := blk_frozen BK227.out 2
                                have hfz38_3 := blk_frozen BK227.out 3
                                have hfz38_4 := blk_frozen BK227.out 4
                                have hfz38_5 := blk_frozen BK227.out 5
                                go_wp2_with (first | ((with_reducible refine gate_builtin (b := .append) (xs := #[.tmp 23, .tmp 26]) rfl ?_); at_builtin; refine Kd.R_append (Kd.int .i64) (w0 := w) w.heap.size rfl (.tmp 23) (.tmp 26) 53 2 (.int .i64 0) 8 rfl Try.underlying53 info2 rfl (by decide) (by omega) (.slice Ao37 x4_4.length co37) x4_4 ((rd_T32 l0 x13_1).f3) [.int .i64 ((rd_T32 l0 x13_1).f3)] (fun _ => True) (fun _ => False) rfl rfl ?aP (fun _ hk => hk.elim) ?aF ?aO ?aB ?aS ?aL ?_; (case aP => exact rfl); (case aB => exact (by repeat (first | (with_reducible first | exact HB.out | apply below_alloc | apply pw_below_drewN | apply below_drew1 | refine below_set ?_ GE227.out) | exact HB.out))); (case aF => exact (fun _ _ => trivial)); (case aO => exact (by (with_reducible repeat (first | apply Kd.R_alloc | apply Kd.R_drewN | apply Kd.R_drew)); exact HO_4.out)); (case aS => exact (below_size (by repeat (first | (with_reducible first | exact HB.out | apply below_alloc | apply pw_below_drewN | apply below_drew1 | refine below_set ?_ GE227.out) | exact HB.out)))); (case aL => have := LMc11.out; omega); intro v229 w39 ho hb hg hat; rw [← Ny228.out] at ho; have n0_ := Aside0.mk (blk_grown (g := gb227) (o := .cells #[.int .i64 ((rd_T32 l0 x13_1).f0), .int .i64 ((rd_T32 l0 x13_1).f1), .int .i64 ((rd_T32 l0 x13_1).f2), .int .i64 ((rd_T32 l0 x13_1).f3), .string ((rd_T32 l0 x13_1).f4), .bool ((rd_T32 l0 x13_1).f5)] 32 (0, 0)) (by (with_reducible repeat (first | refine blk_drewN ?_ _ | refine blk_drew ?_ | refine blk_alloc ?_ _)); exact BK227.out) hg (Kd.R_ne HO_4.out BK227.out (by decide))); have n1_ := Aside0.mk (hb); have n2_ := Aside0.mk (ho); clear BK227; clear HB; clear HO_4; have BK227 := n0_; have HB := n1_; have HO230 := n2_; clear n0_ n1_ n2_; clear ho hb hg hat; have hcz40_0 : w39.cell? ⟨gb227, 0, none⟩ = some (.int .i64 ((rd_T32 l0 x13_1).f0)) := (blk_cell BK227.out 0).trans rfl; have hcz40_1 : w39.cell? ⟨gb227, 1, none⟩ = some (.int .i64 ((rd_T32 l0 x13_1).f1)) := (blk_cell BK227.out 1).trans rfl; have hcz40_2 : w39.cell? ⟨gb227, 2, none⟩ = some (.int .i64 ((rd_T32 l0 x13_1).f2)) := (blk_cell BK227.out 2).trans rfl; have hcz40_3 : w39.cell? ⟨gb227, 3, none⟩ = some (.int .i64 ((rd_T32 l0 x13_1).f3)) := (blk_cell BK227.out 3).trans rfl; have hcz40_4 : w39.cell? ⟨gb227, 4, none⟩ = some (.string ((rd_T32 l0 x13_1).f4)) := (blk_cell BK227.out 4).trans rfl; have hcz40_5 : w39.cell? ⟨gb227, 5, none⟩ = some (.bool ((rd_T32 l0 x13_1).f5)) := (blk_cell BK227.out 5).trans rfl; have hfz40_0 := blk_frozen BK227.out 0; have hfz40_1 := blk_frozen BK227.out 1; have hfz40_2 := blk_frozen BK227.out 2; have hfz40_3 := blk_frozen BK227.out 3; have hfz40_4 := blk_frozen BK227.out 4; have hfz40_5 := blk_frozen BK227.out 5) | ((with_reducible refine gate_builtin (b := .append) (xs := #[.tmp 28, .tmp 31]) rfl ?_); at_builtin; refine Kd.R_append (Kd.int .i64) (w0 := w) w.heap.size rfl (.tmp 28) (.tmp 31) 53 2 (.int .i64 0) 8 rfl Try.underlying53 info2 rfl (by decide) (by omega) v229 y228 ((rd_T32 l0 x13_1).f1) [.int .i64 ((rd_T32 l0 x13_1).f1)] (fun _ => True) (fun _ => False) rfl rfl ?aP (fun _ hk => hk.elim) ?aF ?aO ?aB ?aS ?aL ?_; (case aP => exact rfl); (case aB => exact (by repeat (first | (with_reducible first | exact HB.out | apply below_alloc | apply pw_below_drewN | apply below_drew1 | refine below_set ?_ GE227.out) | exact HB.out))); (case aF => exact (fun _ _ => trivial)); (case aO => exact (by (with_reducible repeat (first | apply Kd.R_alloc | apply Kd.R_drewN | apply Kd.R_drew)); exact HO230.out)); (case aS => exact (below_size (by repeat (first | (with_reducible first | exact HB.out | apply below_alloc | apply pw_below_drewN | apply below_drew1 | refine below_set ?_ GE227.out) | exact HB.out)))); (case aL => have := LMc12.out; omega); intro v232 w41 ho hb hg hat; rw [← Ny231.out] at ho; have n0_ := Aside0.mk (blk_grown (g := gb227) (o := .cells #[.int .i64 ((rd_T32 l0 x13_1).f0), .int .i64 ((rd_T32 l0 x13_1).f1), .int .i64 ((rd_T32 l0 x13_1).f2), .int .i64 ((rd_T32 l0 x13_1).f3), .string ((rd_T32 l0 x13_1).f4), .bool ((rd_T32 l0 x13_1).f5)] 32 (0, 0)) (by (with_reducible repeat (first | refine blk_drewN ?_ _ | refine blk_drew ?_ | refine blk_alloc ?_ _)); exact BK227.out) hg (Kd.R_ne HO230.out BK227.out (by decide))); have n1_ := Aside0.mk (hb); have n2_ := Aside0.mk (ho); clear BK227; clear HB; clear HO230; have BK227 := n0_; have HB := n1_; have HO233 := n2_; clear n0_ n1_ n2_; clear ho hb hg hat; have p236 : 0 ≤ ((ji29) : Int) := of_decide_eq_true (by first | (with_reducible assumption) | assumption); have q236 : (ji29) < (l0.length : Int) := of_decide_eq_true (by first | (with_reducible assumption) | assumption); obtain ⟨ad236, e236, hx236_0, hx236_1, hx236_2, hx236_3, hx236_4, hx236_5⟩ := at_T32 HR0.out (ji29) p236 q236; (try rw [← Nbq32.out] at hx236_5); obtain rfl : ad226 = ad236 := (by injection e236); replace hx236_0 := (HB.out.cell (World.block_lt_of_cell? w _ hx236_0)).trans hx236_0; replace hx236_1 := (HB.out.cell (World.block_lt_of_cell? w _ hx236_1)).trans hx236_1; replace hx236_2 := (HB.out.cell (World.block_lt_of_cell? w _ hx236_2)).trans hx236_2; replace hx236_3 := (HB.out.cell (World.block_lt_of_cell? w _ hx236_3)).trans hx236_3; replace hx236_4 := (HB.out.cell (World.block_lt_of_cell? w _ hx236_4)).trans hx236_4; replace hx236_5 := (HB.out.cell (World.block_lt_of_cell? w _ hx236_5)).trans hx236_5; replace p236 := eq_true p236; replace q236 := eq_true q236; obtain ⟨Ao42, co42, eo42⟩ := Kd.R_slice HO233.out; subst eo42) | ((with_reducible refine gate_callee (f := 22) rfl ?_); refine goesL_ (some 48) rfl rfl Try.func22 (by kernel_rfl) rfl #[.slice Ao42 y231.length co42] rfl (by (try simp only [List.map_toArray, List.map_cons, List.map_nil]); first | done | rfl | (simp only [List.length_drop, List.length_take]; rfl)) ?_; (with_reducible refine (fixed_Sum.calls kj4 _ _ y231 t237 t238 _ ?side1 ?side2 A34.out).mono ?_); (case side1 => repeat (first | exact (Kd.R_reads' HO233.out).2.2 | (with_reducible refine Kd.C_alloc ?_ _) | (with_reducible refine Kd.C_drewN ?_ _) | (with_reducible refine Kd.C_drew ?_))); (case side2 => exact (Kd.R_reads' HO233.out).2.1); rintro e w' ⟨rfl, ⟨nd, rfl⟩⟩; refine ⟨_, rfl, ?_⟩))
                                go_roundg kj4
                                case measure => have := HK1.out; have := HJ4.out; omega
                                case rel => exact ⟨(y231), (ji35), (t238), (ji29), (by first | rfl | (simp; done) | (simp only [← hji35] <;> (first | rfl | simp)) | (simp [*]; done)), (by first | rfl | (simp; done) | (simp [*]; done)), (by first | rfl | (simp; done) | (simp only [← hji29] <;> (first | rfl | simp)) | (simp [*]; done)), H', ⟨by have := HK1.out; have := HJ4.out; omega⟩, ⟨by (with_reducible repeat (first | apply Kd.R_alloc | apply Kd.R_drewN | apply Kd.R_drew)); exact HO233.out⟩, ⟨by repeat (first | (with_reducible first | exact HB.out | apply below_alloc | apply pw_below_drewN | apply below_drew1 | refine below_set ?_ GE227.out) | exact HB.out)⟩⟩
                              · replace c36 := Bool.eq_false_iff.mpr c36
                                subst c36
                                have H1 : (measure_Min.l0 kj4 l0 y231 ji35 false l0 (l0.length : Int) ji29) = some (r1, r2) := by rw [if_neg (show ¬ (false = true) by decide)] at H; exact H
                                clear H
                                have H := H1
                                clear H1
                                have H' := Aside0.mk H
                                clear H
                                obtain ⟨Ao43, co43, eo43⟩ := Kd.R_slice HO_4.out
                                subst eo43
                                have hcz44_0 : wc.cell? ⟨gb227, 0, none⟩ = some (.int .i64 ((rd_T32 l0 x13_1).f0)) := (blk_cell BK227.out 0).trans rfl
                                have hcz44_1 : wc.cell? ⟨gb227, 1, none⟩ = some (.int .i64 ((rd_T32 l0 x13_1).f1)) := (blk_cell BK227.out 1).trans rfl
                                have hcz44_2 : wc.cell? ⟨gb227, 2, none⟩ = some (.int .i64 ((rd_T32 l0 x13_1).f2)) := (blk_cell BK227.out 2).trans rfl
                                have hcz44_3 : wc.cell? ⟨gb227, 3, none⟩ = some (.int .i64 ((rd_T32 l0 x13_1).f3)) := (blk_cell BK227.out 3).trans rfl
                                have hcz44_4 : wc.cell? ⟨gb227, 4, none⟩ = some (.string ((rd_T32 l0 x13_1).f4)) := (blk_cell BK227.out 4).trans rfl
                                have hcz44_5 : wc.cell? ⟨gb227, 5, none⟩ = some (.bool ((rd_T32 l0 x13_1).f5)) := (blk_cell BK227.out 5).trans rfl
                                have hfz44_0 := blk_frozen BK227.out 0
                                have hfz44_1 := blk_frozen BK227.out 1
                                have hfz44_2 := blk_frozen BK227.out 2
                                have hfz44_3 := blk_frozen BK227.out 3
                                have hfz44_4 := blk_frozen BK227.out 4
                                have hfz44_5 := blk_frozen BK227.out 5
                                go_wp2_with (first | ((with_reducible refine gate_builtin (b := .append) (xs := #[.tmp 23, .tmp 26]) rfl ?_); at_builtin; refine Kd.R_append (Kd.int .i64) (w0 := w) w.heap.size rfl (.tmp 23) (.tmp 26) 53 2 (.int .i64 0) 8 rfl Try.underlying53 info2 rfl (by decide) (by omega) (.slice Ao43 x4_4.length co43) x4_4 ((rd_T32 l0 x13_1).f3) [.int .i64 ((rd_T32 l0 x13_1).f3)] (fun _ => True) (fun _ => False) rfl rfl ?aP (fun _ hk => hk.elim) ?aF ?aO ?aB ?aS ?aL ?_; (case aP => exact rfl); (case aB => exact (by repeat (first | (with_reducible first | exact HB.out | apply below_alloc | apply pw_below_drewN | apply below_drew1 | refine below_set ?_ GE227.out) | exact HB.out))); (case aF => exact (fun _ _ => trivial)); (case aO => exact (by (with_reducible repeat (first | apply Kd.R_alloc | apply Kd.R_drewN | apply Kd.R_drew)); exact HO_4.out)); (case aS => exact (below_size (by repeat (first | (with_reducible first | exact HB.out | apply below_alloc | apply pw_below_drewN | apply below_drew1 | refine below_set ?_ GE227.out) | exact HB.out)))); (case aL => have := LMc11.out; omega); intro v229 w45 ho hb hg hat; rw [← Ny228.out] at ho; have n0_ := Aside0.mk (blk_grown (g := gb227) (o := .cells #[.int .i64 ((rd_T32 l0 x13_1).f0), .int .i64 ((rd_T32 l0 x13_1).f1), .int .i64 ((rd_T32 l0 x13_1).f2), .int .i64 ((rd_T32 l0 x13_1).f3), .string ((rd_T32 l0 x13_1).f4), .bool ((rd_T32 l0 x13_1).f5)] 32 (0, 0)) (by (with_reducible repeat (first | refine blk_drewN ?_ _ | refine blk_drew ?_ | refine blk_alloc ?_ _)); exact BK227.out) hg (Kd.R_ne HO_4.out BK227.out (by decide))); have n1_ := Aside0.mk (hb); have n2_ := Aside0.mk (ho); clear BK227; clear HB; clear HO_4; have BK227 := n0_; have HB := n1_; have HO230 := n2_; clear n0_ n1_ n2_; clear ho hb hg hat; have hcz46_0 : w45.cell? ⟨gb227, 0, none⟩ = some (.int .i64 ((rd_T32 l0 x13_1).f0)) := (blk_cell BK227.out 0).trans rfl; have hcz46_1 : w45.cell? ⟨gb227, 1, none⟩ = some (.int .i64 ((rd_T32 l0 x13_1).f1)) := (blk_cell BK227.out 1).trans rfl; have hcz46_2 : w45.cell? ⟨gb227, 2, none⟩ = some (.int .i64 ((rd_T32 l0 x13_1).f2)) := (blk_cell BK227.out 2).trans rfl; have hcz46_3 : w45.cell? ⟨gb227, 3, none⟩ = some (.int .i64 ((rd_T32 l0 x13_1).f3)) := (blk_cell BK227.out 3).trans rfl; have hcz46_4 : w45.cell? ⟨gb227, 4, none⟩ = some (.string ((rd_T32 l0 x13_1).f4)) := (blk_cell BK227.out 4).trans rfl; have hcz46_5 : w45.cell? ⟨gb227, 5, none⟩ = some (.bool ((rd_T32 l0 x13_1).f5)) := (blk_cell BK227.out 5).trans rfl; have hfz46_0 := blk_frozen BK227.out 0; have hfz46_1 := blk_frozen BK227.out 1; have hfz46_2 := blk_frozen BK227.out 2; have hfz46_3 := blk_frozen BK227.out 3; have hfz46_4 := blk_frozen BK227.out 4; have hfz46_5 := blk_frozen BK227.out 5) | ((with_reducible refine gate_builtin (b := .append) (xs := #[.tmp 28, .tmp 31]) rfl ?_); at_builtin; refine Kd.R_append (Kd.int .i64) (w0 := w) w.heap.size rfl (.tmp 28) (.tmp 31) 53 2 (.int .i64 0) 8 rfl Try.underlying53 info2 rfl (by decide) (by omega) v229 y228 ((rd_T32 l0 x13_1).f1) [.int .i64 ((rd_T32 l0 x13_1).f1)] (fun _ => True) (fun _ => False) rfl rfl ?aP (fun _ hk => hk.elim) ?aF ?aO ?aB ?aS ?aL ?_; (case aP => exact rfl); (case aB => exact (by repeat (first | (with_reducible first | exact HB.out | apply below_alloc | apply pw_below_drewN | apply below_drew1 | refine below_set ?_ GE227.out) | exact HB.out))); (case aF => exact (fun _ _ => trivial)); (case aO => exact (by (with_reducible repeat (first | apply Kd.R_alloc | apply Kd.R_drewN | apply Kd.R_drew)); exact HO230.out)); (case aS => exact (below_size (by repeat (first | (with_reducible first | exact HB.out | apply below_alloc | apply pw_below_drewN | apply below_drew1 | refine below_set ?_ GE227.out) | exact HB.out)))); (case aL => have := LMc12.out; omega); intro v232 w47 ho hb hg hat; rw [← Ny231.out] at ho; have n0_ := Aside0.mk (blk_grown (g := gb227) (o := .cells #[.int .i64 ((rd_T32 l0 x13_1).f0), .int .i64 ((rd_T32 l0 x13_1).f1), .int .i64 ((rd_T32 l0 x13_1).f2), .int .i64 ((rd_T32 l0 x13_1).f3), .string ((rd_T32 l0 x13_1).f4), .bool ((rd_T32 l0 x13_1).f5)] 32 (0, 0)) (by (with_reducible repeat (first | refine blk_drewN ?_ _ | refine blk_drew ?_ | refine blk_alloc ?_ _)); exact BK227.out) hg (Kd.R_ne HO230.out BK227.out (by decide))); have n1_ := Aside0.mk (hb); have n2_ := Aside0.mk (ho); clear BK227; clear HB; clear HO230; have BK227 := n0_; have HB := n1_; have HO233 := n2_; clear n0_ n1_ n2_; clear ho hb hg hat; have p236 : 0 ≤ ((ji29) : Int) := of_decide_eq_true (by first | (with_reducible assumption) | assumption); have q236 : (ji29) < (l0.length : Int) := of_decide_eq_true (by first | (with_reducible assumption) | assumption); obtain ⟨ad236, e236, hx236_0, hx236_1, hx236_2, hx236_3, hx236_4, hx236_5⟩ := at_T32 HR0.out (ji29) p236 q236; (try rw [← Nbq32.out] at hx236_5); obtain rfl : ad226 = ad236 := (by injection e236); replace hx236_0 := (HB.out.cell (World.block_lt_of_cell? w _ hx236_0)).trans hx236_0; replace hx236_1 := (HB.out.cell (World.block_lt_of_cell? w _ hx236_1)).trans hx236_1; replace hx236_2 := (HB.out.cell (World.block_lt_of_cell? w _ hx236_2)).trans hx236_2; replace hx236_3 := (HB.out.cell (World.block_lt_of_cell? w _ hx236_3)).trans hx236_3; replace hx236_4 := (HB.out.cell (World.block_lt_of_cell? w _ hx236_4)).trans hx236_4; replace hx236_5 := (HB.out.cell (World.block_lt_of_cell? w _ hx236_5)).trans hx236_5; replace p236 := eq_true p236; replace q236 := eq_true q236; obtain ⟨Ao48, co48, eo48⟩ := Kd.R_slice HO233.out; subst eo48) | ((with_reducible refine gate_callee (f := 22) rfl ?_); refine goesL_ (some 48) rfl rfl Try.func22 (by kernel_rfl) rfl #[.slice Ao48 y231.length co48] rfl (by (try simp only [List.map_toArray, List.map_cons, List.map_nil]); first | done | rfl | (simp only [List.length_drop, List.length_take]; rfl)) ?_; (with_reducible refine (fixed_Sum.calls kj4 _ _ y231 t237 t238 _ ?side1 ?side2 A34.out).mono ?_); (case side1 => repeat (first | exact (Kd.R_reads' HO233.out).2.2 | (with_reducible refine Kd.C_alloc ?_ _) | (with_reducible refine Kd.C_drewN ?_ _) | (with_reducible refine Kd.C_drew ?_))); (case side2 => exact (Kd.R_reads' HO233.out).2.1); rintro e w' ⟨rfl, ⟨nd, rfl⟩⟩; refine ⟨_, rfl, ?_⟩))
                                go_roundg kj4
                                case measure => have := HK1.out; have := HJ4.out; omega
                                case rel => exact ⟨(y231), (ji35), (false), (ji29), (by first | rfl | (simp; done) | (simp only [← hji35] <;> (first | rfl | simp)) | (simp [*]; done)), (by first | rfl | (simp; done) | (simp [*]; done)), (by first | rfl | (simp; done) | (simp only [← hji29] <;> (first | rfl | simp)) | (simp [*]; done)), H', ⟨by have := HK1.out; have := HJ4.out; omega⟩, ⟨by (with_reducible repeat (first | apply Kd.R_alloc | apply Kd.R_drewN | apply Kd.R_drew)); exact HO233.out⟩, ⟨by repeat (first | (with_reducible first | exact HB.out | apply below_alloc | apply pw_below_drewN | apply below_drew1 | refine below_set ?_ GE227.out) | exact HB.out)⟩⟩
                            · replace c33 := Bool.eq_false_iff.mpr c33
                              subst c33
                              have H1 : (measure_Min.l0 kj4 l0 y231 x5_1 x6_1 l0 (l0.length : Int) ji29) = some (r1, r2) := by rw [if_neg (show ¬ (false = true) by decide)] at H; exact H
                              clear H
                              have H := H1
                              clear H1
                              have H' := Aside0.mk H
                              clear H
                              obtain ⟨Ao49, co49, eo49⟩ := Kd.R_slice HO_4.out
                              subst eo49
                              have hcz50_0 : wc.cell? ⟨gb227, 0, none⟩ = some (.int .i64 ((rd_T32 l0 x13_1).f0)) := (blk_cell BK227.out 0).trans rfl
                              have hcz50_1 : wc.cell? ⟨gb227, 1, none⟩ = some (.int .i64 ((rd_T32 l0 x13_1).f1)) := (blk_cell BK227.out 1).trans rfl
                              have hcz50_2 : wc.cell? ⟨gb227, 2, none⟩ = some (.int .i64 ((rd_T32 l0 x13_1).f2)) := (blk_cell BK227.out 2).trans rfl
                              have hcz50_3 : wc.cell? ⟨gb227, 3, none⟩ = some (.int .i64 ((rd_T32 l0 x13_1).f3)) := (blk_cell BK227.out 3).trans rfl
                              have hcz50_4 : wc.cell? ⟨gb227, 4, none⟩ = some (.string ((rd_T32 l0 x13_1).f4)) := (blk_cell BK227.out 4).trans rfl
                              have hcz50_5 : wc.cell? ⟨gb227, 5, none⟩ = some (.bool ((rd_T32 l0 x13_1).f5)) := (blk_cell BK227.out 5).trans rfl
                              have hfz50_0 := blk_frozen BK227.out 0
                              have hfz50_1 := blk_frozen BK227.out 1
                              have hfz50_2 := blk_frozen BK227.out 2
                              have hfz50_3 := blk_frozen BK227.out 3
                              have hfz50_4 := blk_frozen BK227.out 4
                              have hfz50_5 := blk_frozen BK227.out 5
                              go_wp2_with (first | ((with_reducible refine gate_builtin (b := .append) (xs := #[.tmp 23, .tmp 26]) rfl ?_); at_builtin; refine Kd.R_append (Kd.int .i64) (w0 := w) w.heap.size rfl (.tmp 23) (.tmp 26) 53 2 (.int .i64 0) 8 rfl Try.underlying53 info2 rfl (by decide) (by omega) (.slice Ao49 x4_4.length co49) x4_4 ((rd_T32 l0 x13_1).f3) [.int .i64 ((rd_T32 l0 x13_1).f3)] (fun _ => True) (fun _ => False) rfl rfl ?aP (fun _ hk => hk.elim) ?aF ?aO ?aB ?aS ?aL ?_; (case aP => exact rfl); (case aB => exact (by repeat (first | (with_reducible first | exact HB.out | apply below_alloc | apply pw_below_drewN | apply below_drew1 | refine below_set ?_ GE227.out) | exact HB.out))); (case aF => exact (fun _ _ => trivial)); (case aO => exact (by (with_reducible repeat (first | apply Kd.R_alloc | apply Kd.R_drewN | apply Kd.R_drew)); exact HO_4.out)); (case aS => exact (below_size (by repeat (first | (with_reducible first | exact HB.out | apply below_alloc | apply pw_below_drewN | apply below_drew1 | refine below_set ?_ GE227.out) | exact HB.out)))); (case aL => have := LMc11.out; omega); intro v229 w51 ho hb hg hat; rw [← Ny228.out] at ho; have n0_ := Aside0.mk (blk_grown (g := gb227) (o := .cells #[.int .i64 ((rd_T32 l0 x13_1).f0), .int .i64 ((rd_T32 l0 x13_1).f1), .int .i64 ((rd_T32 l0 x13_1).f2), .int .i64 ((rd_T32 l0 x13_1).f3), .string ((rd_T32 l0 x13_1).f4), .bool ((rd_T32 l0 x13_1).f5)] 32 (0, 0)) (by (with_reducible repeat (first | refine blk_drewN ?_ _ | refine blk_drew ?_ | refine blk_alloc ?_ _)); exact BK227.out) hg (Kd.R_ne HO_4.out BK227.out (by decide))); have n1_ := Aside0.mk (hb); have n2_ := Aside0.mk (ho); clear BK227; clear HB; clear HO_4; have BK227 := n0_; have HB := n1_; have HO230 := n2_; clear n0_ n1_ n2_; clear ho hb hg hat; have hcz52_0 : w51.cell? ⟨gb227, 0, none⟩ = some (.int .i64 ((rd_T32 l0 x13_1).f0)) := (blk_cell BK227.out 0).trans rfl; have hcz52_1 : w51.cell? ⟨gb227, 1, none⟩ = some (.int .i64 ((rd_T32 l0 x13_1).f1)) := (blk_cell BK227.out 1).trans rfl; have hcz52_2 : w51.cell? ⟨gb227, 2, none⟩ = some (.int .i64 ((rd_T32 l0 x13_1).f2)) := (blk_cell BK227.out 2).trans rfl; have hcz52_3 : w51.cell? ⟨gb227, 3, none⟩ = some (.int .i64 ((rd_T32 l0 x13_1).f3)) := (blk_cell BK227.out 3).trans rfl; have hcz52_4 : w51.cell? ⟨gb227, 4, none⟩ = some (.string ((rd_T32 l0 x13_1).f4)) := (blk_cell BK227.out 4).trans rfl; have hcz52_5 : w51.cell? ⟨gb227, 5, none⟩ = some (.bool ((rd_T32 l0 x13_1).f5)) := (blk_cell BK227.out 5).trans rfl; have hfz52_0 := blk_frozen BK227.out 0; have hfz52_1 := blk_frozen BK227.out 1; have hfz52_2 := blk_frozen BK227.out 2; have hfz52_3 := blk_frozen BK227.out 3; have hfz52_4 := blk_frozen BK227.out 4; have hfz52_5 := blk_frozen BK227.out 5) | ((with_reducible refine gate_builtin (b := .append) (xs := #[.tmp 28, .tmp 31]) rfl ?_); at_builtin; refine Kd.R_append (Kd.int .i64) (w0 := w) w.heap.size rfl (.tmp 28) (.tmp 31) 53 2 (.int .i64 0) 8 rfl Try.underlying53 info2 rfl (by decide) (by omega) v229 y228 ((rd_T32 l0 x13_1).f1) [.int .i64 ((rd_T32 l0 x13_1).f1)] (fun _ => True) (fun _ => False) rfl rfl ?aP (fun _ hk => hk.elim) ?aF ?aO ?aB ?aS ?aL ?_; (case aP => exact rfl); (case aB => exact (by repeat (first | (with_reducible first | exact HB.out | apply below_alloc | apply pw_below_drewN | apply below_drew1 | refine below_set ?_ GE227.out) | exact HB.out))); (case aF => exact (fun _ _ => trivial)); (case aO => exact (by (with_reducible repeat (first | apply Kd.R_alloc | apply Kd.R_drewN | apply Kd.R_drew)); exact HO230.out)); (case aS => exact (below_size (by repeat (first | (with_reducible first | exact HB.out | apply below_alloc | apply pw_below_drewN | apply below_drew1 | refine below_set ?_ GE227.out) | exact HB.out)))); (case aL => have := LMc12.out; omega); intro v232 w53 ho hb hg hat; rw [← Ny231.out] at ho; have n0_ := Aside0.mk (blk_grown (g := gb227) (o := .cells #[.int .i64 ((rd_T32 l0 x13_1).f0), .int .i64 ((rd_T32 l0 x13_1).f1), .int .i64 ((rd_T32 l0 x13_1).f2), .int .i64 ((rd_T32 l0 x13_1).f3), .string ((rd_T32 l0 x13_1).f4), .bool ((rd_T32 l0 x13_1).f5)] 32 (0, 0)) (by (with_reducible repeat (first | refine blk_drewN ?_ _ | refine blk_drew ?_ | refine blk_alloc ?_ _)); exact BK227.out) hg (Kd.R_ne HO230.out BK227.out (by decide))); have n1_ := Aside0.mk (hb); have n2_ := Aside0.mk (ho); clear BK227; clear HB; clear HO230; have BK227 := n0_; have HB := n1_; have HO233 := n2_; clear n0_ n1_ n2_; clear ho hb hg hat; have p236 : 0 ≤ ((ji29) : Int) := of_decide_eq_true (by first | (with_reducible assumption) | assumption); have q236 : (ji29) < (l0.length : Int) := of_decide_eq_true (by first | (with_reducible assumption) | assumption); obtain ⟨ad236, e236, hx236_0, hx236_1, hx236_2, hx236_3, hx236_4, hx236_5⟩ := at_T32 HR0.out (ji29) p236 q236; (try rw [← Nbq32.out] at hx236_5); obtain rfl : ad226 = ad236 := (by injection e236); replace hx236_0 := (HB.out.cell (World.block_lt_of_cell? w _ hx236_0)).trans hx236_0; replace hx236_1 := (HB.out.cell (World.block_lt_of_cell? w _ hx236_1)).trans hx236_1; replace hx236_2 := (HB.out.cell (World.block_lt_of_cell? w _ hx236_2)).trans hx236_2; replace hx236_3 := (HB.out.cell (World.block_lt_of_cell? w _ hx236_3)).trans hx236_3; replace hx236_4 := (HB.out.cell (World.block_lt_of_cell? w _ hx236_4)).trans hx236_4; replace hx236_5 := (HB.out.cell (World.block_lt_of_cell? w _ hx236_5)).trans hx236_5; replace p236 := eq_true p236; replace q236 := eq_true q236))
                              go_roundg kj4
                              case measure => have := HK1.out; have := HJ4.out; omega
                              case rel => exact ⟨(y231), (x5_1), (x6_1), (ji29), (by first | rfl | (simp; done) | (simp [*]; done)), (by first | rfl | (simp; done) | (simp [*]; done)), (by first | rfl | (simp; done) | (simp only [← hji29] <;> (first | rfl | simp)) | (simp [*]; done)), H', ⟨by have := HK1.out; have := HJ4.out; omega⟩, ⟨by (with_reducible repeat (first | apply Kd.R_alloc | apply Kd.R_drewN | apply Kd.R_drew)); exact HO233.out⟩, ⟨by repeat (first | (with_reducible first | exact HB.out | apply below_alloc | apply pw_below_drewN | apply below_drew1 | refine below_set ?_ GE227.out) | exact HB.out)⟩⟩
                          · rw [if_neg c31] at H
                            exact absurd H (by simp)
                        · rw [if_neg c30] at H
                          exact absurd H (by simp)
                    · rw [if_neg c12] at H
                      exact absurd H (by simp)
                  · rw [if_neg c11] at H
                    exact absurd H (by simp)
                · rw [if_neg c10] at H
                  have c10b0 : decide (0 < (x4_4.length : Int)) = false := decide_eq_false c10
                  have c10b1 : decide (0 < x4_4.length) = false := decide_eq_false (by omega)
                  clear c10
                  by_cases c54 : x4_4.length < 17592186044416
                  · rw [if_pos c54] at H
                    have LMc54 := Aside0.mk c54
                    clear c54
                    obtain ⟨y239, hy239⟩ : ∃ y_ : List Int, y_ = (x4_4 ++ [((rd_T32 l0 x13_1).f1)]) := ⟨_, rfl⟩
                    replace H : (if (wrap64 (x13_1 + 1)) = (l0.length : Int) then ((fixed_Sum.f kj4 y239).bind fun bt242 => (if x6_1 = true then (measure_Min.l0 kj4 l0 y239 (mx x5_1 bt242.1) bt242.2 l0 (l0.length : Int) (wrap64 (x13_1 + 1))) else (measure_Min.l0 kj4 l0 y239 (mx x5_1 bt242.1) false l0 (l0.length : Int) (wrap64 (x13_1 + 1))))) else (if 0 ≤ (wrap64 (x13_1 + 1)) then (if (wrap64 (x13_1 + 1)) < (l0.length : Int) then (if (rd_T32 l0 (wrap64 (x13_1 + 1))).f5 = true then ((fixed_Sum.f kj4 y239).bind fun bt245 => (if x6_1 = true then (measure_Min.l0 kj4 l0 y239 (mx x5_1 bt245.1) bt245.2 l0 (l0.length : Int) (wrap64 (x13_1 + 1))) else (measure_Min.l0 kj4 l0 y239 (mx x5_1 bt245.1) false l0 (l0.length : Int) (wrap64 (x13_1 + 1))))) else (measure_Min.l0 kj4 l0 y239 x5_1 x6_1 l0 (l0.length : Int) (wrap64 (x13_1 + 1)))) else (none)) else (none))) = some (r1, r2) := by first | (rw [hy239]; with_reducible exact H) | (have H2_ := (Option.bind_some _ _).symm.trans H; rw [hy239]; with_reducible exact H2_) | (have H2_ := (Option.bind_some _ _).symm.trans H; with_reducible exact H2_) | with_reducible exact H | (rw [hy239]; exact H) | exact H
                    have Ny239 := Aside0.mk hy239
                    clear hy239
                    by_cases c55 : (wrap64 (x13_1 + 1)) = (l0.length : Int)
                    · rw [if_pos c55] at H
                      have c55b0 : ((wrap64 (x13_1 + 1)) == (l0.length : Int)) = true := beq_iff_eq.mpr c55
                      have c55b1 : ((wrap64 (x13_1 + 1)) != (l0.length : Int)) = false := bne_eq_false_iff_eq.mpr c55
                      clear c55
                      replace H := Option.bind_eq_some_iff.mp H
                      obtain ⟨⟨t242, t243⟩, A560, H⟩ := H
                      replace H : (if x6_1 = true then (measure_Min.l0 kj4 l0 y239 (mx x5_1 t242) t243 l0 (l0.length : Int) (wrap64 (x13_1 + 1))) else (measure_Min.l0 kj4 l0 y239 (mx x5_1 t242) false l0 (l0.length : Int) (wrap64 (x13_1 + 1)))) = some (r1, r2) := H
                      have A56 := Aside0.mk A560
                      clear A560
                      obtain ⟨ji57, hji57⟩ : ∃ j_ : Int, (mx x5_1 t242) = j_ := ⟨_, rfl⟩
                      replace H : (if x6_1 = true then (measure_Min.l0 kj4 l0 y239 ji57 t243 l0 (l0.length : Int) (wrap64 (x13_1 + 1))) else (measure_Min.l0 kj4 l0 y239 ji57 false l0 (l0.length : Int) (wrap64 (x13_1 + 1)))) = some (r1, r2) := by first | (rw [hji57] at H; exact H) | (simp only [hji57] at H ⊢; exact H)
                      (try rw [hji57] at A56)
                      have hji57_ : (if x5_1 < t242 then t242 else x5_1) = ji57 := hji57
                      by_cases c58 : x6_1 = true
                      · subst c58
                        have H1 : (measure_Min.l0 kj4 l0 y239 ji57 t243 l0 (l0.length : Int) (wrap64 (x13_1 + 1))) = some (r1, r2) := by rw [if_pos rfl] at H; exact H
                        clear H
                        have H := H1
                        clear H1
                        have H' := Aside0.mk H
                        clear H
                        obtain ⟨Ao59, co59, eo59⟩ := Kd.R_slice HO_4.out
                        subst eo59
                        have hcz60_0 : wc.cell? ⟨gb227, 0, none⟩ = some (.int .i64 ((rd_T32 l0 x13_1).f0)) := (blk_cell BK227.out 0).trans rfl
                        have hcz60_1 : wc.cell? ⟨gb227, 1, none⟩ = some (.int .i64 ((rd_T32 l0 x13_1).f1)) := (blk_cell BK227.out 1).trans rfl
                        have hcz60_2 : wc.cell? ⟨gb227, 2, none⟩ = some (.int .i64 ((rd_T32 l0 x13_1).f2)) := (blk_cell BK227.out 2).trans rfl
                        have hcz60_3 : wc.cell? ⟨gb227, 3, none⟩ = some (.int .i64 ((rd_T32 l0 x13_1).f3)) := (blk_cell BK227.out 3).trans rfl
                        have hcz60_4 : wc.cell? ⟨gb227, 4, none⟩ = some (.string ((rd_T32 l0 x13_1).f4)) := (blk_cell BK227.out 4).trans rfl
                        have hcz60_5 : wc.cell? ⟨gb227, 5, none⟩ = some (.bool ((rd_T32 l0 x13_1).f5)) := (blk_cell BK227.out 5).trans rfl
                        have hfz60_0 := blk_frozen BK227.out 0
                        have hfz60_1 := blk_frozen BK227.out 1
                        have hfz60_2 := blk_frozen BK227.out 2
                        have hfz60_3 := blk_frozen BK227.out 3
                        have hfz60_4 := blk_frozen BK227.out 4
                        have hfz60_5 := blk_frozen BK227.out 5
                        go_wp2_with (first | ((with_reducible refine gate_builtin (b := .append) (xs := #[.tmp 28, .tmp 31]) rfl ?_); at_builtin; refine Kd.R_append (Kd.int .i64) (w0 := w) w.heap.size rfl (.tmp 28) (.tmp 31) 53 2 (.int .i64 0) 8 rfl Try.underlying53 info2 rfl (by decide) (by omega) (.slice Ao59 x4_4.length co59) x4_4 ((rd_T32 l0 x13_1).f1) [.int .i64 ((rd_T32 l0 x13_1).f1)] (fun _ => True) (fun _ => False) rfl rfl ?aP (fun _ hk => hk.elim) ?aF ?aO ?aB ?aS ?aL ?_; (case aP => exact rfl); (case aB => exact (by repeat (first | (with_reducible first | exact HB.out | apply below_alloc | apply pw_below_drewN | apply below_drew1 | refine below_set ?_ GE227.out) | exact HB.out))); (case aF => exact (fun _ _ => trivial)); (case aO => exact (by (with_reducible repeat (first | apply Kd.R_alloc | apply Kd.R_drewN | apply Kd.R_drew)); exact HO_4.out)); (case aS => exact (below_size (by repeat (first | (with_reducible first | exact HB.out | apply below_alloc | apply pw_below_drewN | apply below_drew1 | refine below_set ?_ GE227.out) | exact HB.out)))); (case aL => have := LMc54.out; omega); intro v240 w61 ho hb hg hat; rw [← Ny239.out] at ho; have n0_ := Aside0.mk (blk_grown (g := gb227) (o := .cells #[.int .i64 ((rd_T32 l0 x13_1).f0), .int .i64 ((rd_T32 l0 x13_1).f1), .int .i64 ((rd_T32 l0 x13_1).f2), .int .i64 ((rd_T32 l0 x13_1).f3), .string ((rd_T32 l0 x13_1).f4), .bool ((rd_T32 l0 x13_1).f5)] 32 (0, 0)) (by (with_reducible repeat (first | refine blk_drewN ?_ _ | refine blk_drew ?_ | refine blk_alloc ?_ _)); exact BK227.out) hg (Kd.R_ne HO_4.out BK227.out (by decide))); have n1_ := Aside0.mk (hb); have n2_ := Aside0.mk (ho); clear BK227; clear HB; clear HO_4; have BK227 := n0_; have HB := n1_; have HO241 := n2_; clear n0_ n1_ n2_; clear ho hb hg hat; obtain ⟨Ao62, co62, eo62⟩ := Kd.R_slice HO241.out; subst eo62) | ((with_reducible refine gate_callee (f := 22) rfl ?_); refine goesL_ (some 48) rfl rfl Try.func22 (by kernel_rfl) rfl #[.slice Ao62 y239.length co62] rfl (by (try simp only [List.map_toArray, List.map_cons, List.map_nil]); first | done | rfl | (simp only [List.length_drop, List.length_take]; rfl)) ?_; (with_reducible refine (fixed_Sum.calls kj4 _ _ y239 t242 t243 _ ?side1 ?side2 A56.out).mono ?_); (case side1 => repeat (first | exact (Kd.R_reads' HO241.out).2.2 | (with_reducible refine Kd.C_alloc ?_ _) | (with_reducible refine Kd.C_drewN ?_ _) | (with_reducible refine Kd.C_drew ?_))); (case side2 => exact (Kd.R_reads' HO241.out).2.1); rintro e w' ⟨rfl, ⟨nd, rfl⟩⟩; refine ⟨_, rfl, ?_⟩))
                        go_roundg kj4
                        case measure => have := HK1.out; have := HJ4.out; omega
                        case rel => exact ⟨(y239), (ji57), (t243), (wrap64 (x13_1 + 1)), (by first | rfl | (simp; done) | (simp only [← hji57] <;> (first | rfl | simp)) | (simp [*]; done)), (by first | rfl | (simp; done) | (simp [*]; done)), (by first | rfl | (simp; done) | (simp [*]; done)), H', ⟨by have := HK1.out; have := HJ4.out; omega⟩, ⟨by (with_reducible repeat (first | apply Kd.R_alloc | apply Kd.R_drewN | apply Kd.R_drew)); exact HO241.out⟩, ⟨by repeat (first | (with_reducible first | exact HB.out | apply below_alloc | apply pw_below_drewN | apply below_drew1 | refine below_set ?_ GE227.out) | exact HB.out)⟩⟩
                      · replace c58 := Bool.eq_false_iff.mpr c58
                        subst c58
                        have H1 : (measure_Min.l0 kj4 l0 y239 ji57 false l0 (l0.length : Int) (wrap64 (x13_1 + 1))) = some (r1, r2) := by rw [if_neg (show ¬ (false = true) by decide)] at H; exact H
                        clear H
                        have H := H1
                        clear H1
                        have H' := Aside0.mk H
                        clear H
                        obtain ⟨Ao63, co63, eo63⟩ := Kd.R_slice HO_4.out
                        subst eo63
                        have hcz64_0 : wc.cell? ⟨gb227, 0, none⟩ = some (.int .i64 ((rd_T32 l0 x13_1).f0)) := (blk_cell BK227.out 0).trans rfl
                        have hcz64_1 : wc.cell? ⟨gb227, 1, none⟩ = some (.int .i64 ((rd_T32 l0 x13_1).f1)) := (blk_cell BK227.out 1).trans rfl
                        have hcz64_2 : wc.cell? ⟨gb227, 2, none⟩ = some (.int .i64 ((rd_T32 l0 x13_1).f2)) := (blk_cell BK227.out 2).trans rfl
                        have hcz64_3 : wc.cell? ⟨gb227, 3, none⟩ = some (.int .i64 ((rd_T32 l0 x13_1).f3)) := (blk_cell BK227.out 3).trans rfl
                        have hcz64_4 : wc.cell? ⟨gb227, 4, none⟩ = some (.string ((rd_T32 l0 x13_1).f4)) := (blk_cell BK227.out 4).trans rfl
                        have hcz64_5 : wc.cell? ⟨gb227, 5, none⟩ = some (.bool ((rd_T32 l0 x13_1).f5)) := (blk_cell BK227.out 5).trans rfl
                        have hfz64_0 := blk_frozen BK227.out 0
                        have hfz64_1 := blk_frozen BK227.out 1
                        have hfz64_2 := blk_frozen BK227.out 2
                        have hfz64_3 := blk_frozen BK227.out 3
                        have hfz64_4 := blk_frozen BK227.out 4
                        have hfz64_5 := blk_frozen BK227.out 5
                        go_wp2_with (first | ((with_reducible refine gate_builtin (b := .append) (xs := #[.tmp 28, .tmp 31]) rfl ?_); at_builtin; refine Kd.R_append (Kd.int .i64) (w0 := w) w.heap.size rfl (.tmp 28) (.tmp 31) 53 2 (.int .i64 0) 8 rfl Try.underlying53 info2 rfl (by decide) (by omega) (.slice Ao63 x4_4.length co63) x4_4 ((rd_T32 l0 x13_1).f1) [.int .i64 ((rd_T32 l0 x13_1).f1)] (fun _ => True) (fun _ => False) rfl rfl ?aP (fun _ hk => hk.elim) ?aF ?aO ?aB ?aS ?aL ?_; (case aP => exact rfl); (case aB => exact (by repeat (first | (with_reducible first | exact HB.out | apply below_alloc | apply pw_below_drewN | apply below_drew1 | refine below_set ?_ GE227.out) | exact HB.out))); (case aF => exact (fun _ _ => trivial)); (case aO => exact (by (with_reducible repeat (first | apply Kd.R_alloc | apply Kd.R_drewN | apply Kd.R_drew)); exact HO_4.out)); (case aS => exact (below_size (by repeat (first | (with_reducible first | exact HB.out | apply below_alloc | apply pw_below_drewN | apply below_drew1 | refine below_set ?_ GE227.out) | exact HB.out)))); (case aL => have := LMc54.out; omega); intro v240 w65 ho hb hg hat; rw [← Ny239.out] at ho; have n0_ := Aside0.mk (blk_grown (g := gb227) (o := .cells #[.int .i64 ((rd_T32 l0 x13_1).f0), .int .i64 ((rd_T32 l0 x13_1).f1), .int .i64 ((rd_T32 l0 x13_1).f2), .int .i64 ((rd_T32 l0 x13_1).f3), .string ((rd_T32 l0 x13_1).f4), .bool ((rd_T32 l0 x13_1).f5)] 32 (0, 0)) (by (with_reducible repeat (first | refine blk_drewN ?_ _ | refine blk_drew ?_ | refine blk_alloc ?_ _)); exact BK227.out) hg (Kd.R_ne HO_4.out BK227.out (by decide))); have n1_ := Aside0.mk (hb); have n2_ := Aside0.mk (ho); clear BK227; clear HB; clear HO_4; have BK227 := n0_; have HB := n1_; have HO241 := n2_; clear n0_ n1_ n2_; clear ho hb hg hat; obtain ⟨Ao66, co66, eo66⟩ := Kd.R_slice HO241.out; subst eo66) | ((with_reducible refine gate_callee (f := 22) rfl ?_); refine goesL_ (some 48) rfl rfl Try.func22 (by kernel_rfl) rfl #[.slice Ao66 y239.length co66] rfl (by (try simp only [List.map_toArray, List.map_cons, List.map_nil]); first | done | rfl | (simp only [List.length_drop, List.length_take]; rfl)) ?_; (with_reducible refine (fixed_Sum.calls kj4 _ _ y239 t242 t243 _ ?side1 ?side2 A56.out).mono ?_); (case side1 => repeat (first | exact (Kd.R_reads' HO241.out).2.2 | (with_reducible refine Kd.C_alloc ?_ _) | (with_reducible refine Kd.C_drewN ?_ _) | (with_reducible refine Kd.C_drew ?_))); (case side2 => exact (Kd.R_reads' HO241.out).2.1); rintro e w' ⟨rfl, ⟨nd, rfl⟩⟩; refine ⟨_, rfl, ?_⟩))
                        go_roundg kj4
                        case measure => have := HK1.out; have := HJ4.out; omega
                        case rel => exact ⟨(y239), (ji57), (false), (wrap64 (x13_1 + 1)), (by first | rfl | (simp; done) | (simp only [← hji57] <;> (first | rfl | simp)) | (simp [*]; done)), (by first | rfl | (simp; done) | (simp [*]; done)), (by first | rfl | (simp; done) | (simp [*]; done)), H', ⟨by have := HK1.out; have := HJ4.out; omega⟩, ⟨by (with_reducible repeat (first | apply Kd.R_alloc | apply Kd.R_drewN | apply Kd.R_drew)); exact HO241.out⟩, ⟨by repeat (first | (with_reducible first | exact HB.out | apply below_alloc | apply pw_below_drewN | apply below_drew1 | refine below_set ?_ GE227.out) | exact HB.out)⟩⟩
                    · rw [if_neg c55] at H
                      have c55b0 : ((wrap64 (x13_1 + 1)) == (l0.length : Int)) = false := beq_eq_false_iff_ne.mpr c55
                      have c55b1 : ((wrap64 (x13_1 + 1)) != (l0.length : Int)) = true := bne_iff_ne.mpr c55
                      obtain ⟨ji67, hji67⟩ : ∃ j_ : Int, (wrap64 (x13_1 + 1)) = j_ := ⟨_, rfl⟩
                      replace H : (if 0 ≤ (ji67) then (if (ji67) < (l0.length : Int) then (if (rd_T32 l0 (ji67)).f5 = true then ((fixed_Sum.f kj4 y239).bind fun bt245 => (if x6_1 = true then (measure_Min.l0 kj4 l0 y239 (mx x5_1 bt245.1) bt245.2 l0 (l0.length : Int) ji67) else (measure_Min.l0 kj4 l0 y239 (mx x5_1 bt245.1) false l0 (l0.length : Int) ji67))) else (measure_Min.l0 kj4 l0 y239 x5_1 x6_1 l0 (l0.length : Int) ji67)) else (none)) else (none)) = some (r1, r2) := by first | (rw [hji67] at H; exact H) | (simp only [hji67] at H ⊢; exact H)
                      (try rw [hji67] at c55b0)
                      (try rw [hji67] at c55b1)
                      have hji67w : (IntKind.i64.wrap (x13_1 + 1)) = ji67 := (i64_w _).trans hji67
                      by_cases c68 : 0 ≤ (ji67)
                      · rw [if_pos c68] at H
                        have c68b0 : decide (0 ≤ (ji67)) = true := decide_eq_true c68
                        clear c68
                        by_cases c69 : (ji67) < (l0.length : Int)
                        · rw [if_pos c69] at H
                          have c69b0 : decide ((ji67) < (l0.length : Int)) = true := decide_eq_true c69
                          clear c69
                          obtain ⟨bq70, hbq70⟩ : ∃ b_ : Bool, b_ = ((rd_T32 l0 (ji67)).f5) := ⟨_, rfl⟩
                          replace H : (if bq70 = true then ((fixed_Sum.f kj4 y239).bind fun bt245 => (if x6_1 = true then (measure_Min.l0 kj4 l0 y239 (mx x5_1 bt245.1) bt245.2 l0 (l0.length : Int) ji67) else (measure_Min.l0 kj4 l0 y239 (mx x5_1 bt245.1) false l0 (l0.length : Int) ji67))) else (measure_Min.l0 kj4 l0 y239 x5_1 x6_1 l0 (l0.length : Int) ji67)) = some (r1, r2) := by rw [← hbq70] at H; exact H
                          have Nbq70 := Aside0.mk hbq70
                          clear hbq70
                          by_cases c71 : bq70 = true
                          · subst c71
                            have H1 : ((fixed_Sum.f kj4 y239).bind fun bt245 => (if x6_1 = true then (measure_Min.l0 kj4 l0 y239 (mx x5_1 bt245.1) bt245.2 l0 (l0.length : Int) ji67) else (measure_Min.l0 kj4 l0 y239 (mx x5_1 bt245.1) false l0 (l0.length : Int) ji67))) = some (r1, r2) := by rw [if_pos rfl] at H; exact H
                            clear H
                            have H := H1
                            clear H1
                            replace H := Option.bind_eq_some_iff.mp H
                            obtain ⟨⟨t245, t246⟩, A720, H⟩ := H
                            replace H : (if x6_1 = true then (measure_Min.l0 kj4 l0 y239 (mx x5_1 t245) t246 l0 (l0.length : Int) ji67) else (measure_Min.l0 kj4 l0 y239 (mx x5_1 t245) false l0 (l0.length : Int) ji67)) = some (r1, r2) := H
                            have A72 := Aside0.mk A720
                            clear A720
                            obtain ⟨ji73, hji73⟩ : ∃ j_ : Int, (mx x5_1 t245) = j_ := ⟨_, rfl⟩
                            replace H : (if x6_1 = true then (measure_Min.l0 kj4 l0 y239 ji73 t246 l0 (l0.length : Int) ji67) else (measure_Min.l0 kj4 l0 y239 ji73 false l0 (l0.length : Int) ji67)) = some (r1, r2) := by first | (rw [hji73] at H; exact H) | (simp only [hji73] at H ⊢; exact H)
                            (try rw [hji73] at A72)
                            have hji73_ : (if x5_1 < t245 then t245 else x5_1) = ji73 := hji73
                            by_cases c74 : x6_1 = true
                            · subst c74
                              have H1 : (measure_Min.l0 kj4 l0 y239 ji73 t246 l0 (l0.length : Int) ji67) = some (r1, r2) := by rw [if_pos rfl] at H; exact H
                              clear H
                              have H := H1
                              clear H1
                              have H' := Aside0.mk H
                              clear H
                              obtain ⟨Ao75, co75, eo75⟩ := Kd.R_slice HO_4.out
                              subst eo75
                              have hcz76_0 : wc.cell? ⟨gb227, 0, none⟩ = some (.int .i64 ((rd_T32 l0 x13_1).f0)) := (blk_cell BK227.out 0).trans rfl
                              have hcz76_1 : wc.cell? ⟨gb227, 1, none⟩ = some (.int .i64 ((rd_T32 l0 x13_1).f1)) := (blk_cell BK227.out 1).trans rfl
                              have hcz76_2 : wc.cell? ⟨gb227, 2, none⟩ = some (.int .i64 ((rd_T32 l0 x13_1).f2)) := (blk_cell BK227.out 2).trans rfl
                              have hcz76_3 : wc.cell? ⟨gb227, 3, none⟩ = some (.int .i64 ((rd_T32 l0 x13_1).f3)) := (blk_cell BK227.out 3).trans rfl
                              have hcz76_4 : wc.cell? ⟨gb227, 4, none⟩ = some (.string ((rd_T32 l0 x13_1).f4)) := (blk_cell BK227.out 4).trans rfl
                              have hcz76_5 : wc.cell? ⟨gb227, 5, none⟩ = some (.bool ((rd_T32 l0 x13_1).f5)) := (blk_cell BK227.out 5).trans rfl
                              have hfz76_0 := blk_frozen BK227.out 0
                              have hfz76_1 := blk_frozen BK227.out 1
                              have hfz76_2 := blk_frozen BK227.out 2
                              have hfz76_3 := blk_frozen BK227.out 3
                              have hfz76_4 := blk_frozen BK227.out 4
                              have hfz76_5 := blk_frozen BK227.out 5
                              go_wp2_with (first | ((with_reducible refine gate_builtin (b := .append) (xs := #[.tmp 28, .tmp 31]) rfl ?_); at_builtin; refine Kd.R_append (Kd.int .i64) (w0 := w) w.heap.size rfl (.tmp 28) (.tmp 31) 53 2 (.int .i64 0) 8 rfl Try.underlying53 info2 rfl (by decide) (by omega) (.slice Ao75 x4_4.length co75) x4_4 ((rd_T32 l0 x13_1).f1) [.int .i64 ((rd_T32 l0 x13_1).f1)] (fun _ => True) (fun _ => False) rfl rfl ?aP (fun _ hk => hk.elim) ?aF ?aO ?aB ?aS ?aL ?_; (case aP => exact rfl); (case aB => exact (by repeat (first | (with_reducible first | exact HB.out | apply below_alloc | apply pw_below_drewN | apply below_drew1 | refine below_set ?_ GE227.out) | exact HB.out))); (case aF => exact (fun _ _ => trivial)); (case aO => exact (by (with_reducible repeat (first | apply Kd.R_alloc | apply Kd.R_drewN | apply Kd.R_drew)); exact HO_4.out)); (case aS => exact (below_size (by repeat (first | (with_reducible first | exact HB.out | apply below_alloc | apply pw_below_drewN | apply below_drew1 | refine below_set ?_ GE227.out) | exact HB.out)))); (case aL => have := LMc54.out; omega); intro v240 w77 ho hb hg hat; rw [← Ny239.out] at ho; have n0_ := Aside0.mk (blk_grown (g := gb227) (o := .cells #[.int .i64 ((rd_T32 l0 x13_1).f0), .int .i64 ((rd_T32 l0 x13_1).f1), .int .i64 ((rd_T32 l0 x13_1).f2), .int .i64 ((rd_T32 l0 x13_1).f3), .string ((rd_T32 l0 x13_1).f4), .bool ((rd_T32 l0 x13_1).f5)] 32 (0, 0)) (by (with_reducible repeat (first | refine blk_drewN ?_ _ | refine blk_drew ?_ | refine blk_alloc ?_ _)); exact BK227.out) hg (Kd.R_ne HO_4.out BK227.out (by decide))); have n1_ := Aside0.mk (hb); have n2_ := Aside0.mk (ho); clear BK227; clear HB; clear HO_4; have BK227 := n0_; have HB := n1_; have HO241 := n2_; clear n0_ n1_ n2_; clear ho hb hg hat; have p244 : 0 ≤ ((ji67) : Int) := of_decide_eq_true (by first | (with_reducible assumption) | assumption); have q244 : (ji67) < (l0.length : Int) := of_decide_eq_true (by first | (with_reducible assumption) | assumption); obtain ⟨ad244, e244, hx244_0, hx244_1, hx244_2, hx244_3, hx244_4, hx244_5⟩ := at_T32 HR0.out (ji67) p244 q244; (try rw [← Nbq70.out] at hx244_5); obtain rfl : ad226 = ad244 := (by injection e244); replace hx244_0 := (HB.out.cell (World.block_lt_of_cell? w _ hx244_0)).trans hx244_0; replace hx244_1 := (HB.out.cell (World.block_lt_of_cell? w _ hx244_1)).trans hx244_1; replace hx244_2 := (HB.out.cell (World.block_lt_of_cell? w _ hx244_2)).trans hx244_2; replace hx244_3 := (HB.out.cell (World.block_lt_of_cell? w _ hx244_3)).trans hx244_3; replace hx244_4 := (HB.out.cell (World.block_lt_of_cell? w _ hx244_4)).trans hx244_4; replace hx244_5 := (HB.out.cell (World.block_lt_of_cell? w _ hx244_5)).trans hx244_5; replace p244 := eq_true p244; replace q244 := eq_true q244; obtain ⟨Ao78, co78, eo78⟩ := Kd.R_slice HO241.out; subst eo78) | ((with_reducible refine gate_callee (f := 22) rfl ?_); refine goesL_ (some 48) rfl rfl Try.func22 (by kernel_rfl) rfl #[.slice Ao78 y239.length co78] rfl (by (try simp only [List.map_toArray, List.map_cons, List.map_nil]); first | done | rfl | (simp only [List.length_drop, List.length_take]; rfl)) ?_; (with_reducible refine (fixed_Sum.calls kj4 _ _ y239 t245 t246 _ ?side1 ?side2 A72.out).mono ?_); (case side1 => repeat (first | exact (Kd.R_reads' HO241.out).2.2 | (with_reducible refine Kd.C_alloc ?_ _) | (with_reducible refine Kd.C_drewN ?_ _) | (with_reducible refine Kd.C_drew ?_))); (case side2 => exact (Kd.R_reads' HO241.out).2.1); rintro e w' ⟨rfl, ⟨nd, rfl⟩⟩; refine ⟨_, rfl, ?_⟩))
                              go_roundg kj4
                              case measure => have := HK1.out; have := HJ4.out; omega
                              case rel => exact ⟨(y239), (ji73), (t246), (ji67), (by first | rfl | (simp; done) | (simp only [← hji73] <;> (first | rfl | simp)) | (simp [*]; done)), (by first | rfl | (simp; done) | (simp [*]; done)), (by first | rfl | (simp; done) | (simp only [← hji67] <;> (first | rfl | simp)) | (simp [*]; done)), H', ⟨by have := HK1.out; have := HJ4.out; omega⟩, ⟨by (with_reducible repeat (first | apply Kd.R_alloc | apply Kd.R_drewN | apply Kd.R_drew)); exact HO241.out⟩, ⟨by repeat (first | (with_reducible first | exact HB.out | apply below_alloc | apply pw_below_drewN | apply below_drew1 | refine below_set ?_ GE227.out) | exact HB.out)⟩⟩
                            · replace c74 := Bool.eq_false_iff.mpr c74
                              subst c74
                              have H1 : (measure_Min.l0 kj4 l0 y239 ji73 false l0 (l0.length : Int) ji67) = some (r1, r2) := by rw [if_neg (show ¬ (false = true) by decide)] at H; exact H
                              clear H
                              have H := H1
                              clear H1
                              have H' := Aside0.mk H
                              clear H
                              obtain ⟨Ao79, co79, eo79⟩ := Kd.R_slice HO_4.out
                              subst eo79
                              have hcz80_0 : wc.cell? ⟨gb227, 0, none⟩ = some (.int .i64 ((rd_T32 l0 x13_1).f0)) := (blk_cell BK227.out 0).trans rfl
                              have hcz80_1 : wc.cell? ⟨gb227, 1, none⟩ = some (.int .i64 ((rd_T32 l0 x13_1).f1)) := (blk_cell BK227.out 1).trans rfl
                              have hcz80_2 : wc.cell? ⟨gb227, 2, none⟩ = some (.int .i64 ((rd_T32 l0 x13_1).f2)) := (blk_cell BK227.out 2).trans rfl
                              have hcz80_3 : wc.cell? ⟨gb227, 3, none⟩ = some (.int .i64 ((rd_T32 l0 x13_1).f3)) := (blk_cell BK227.out 3).trans rfl
                              have hcz80_4 : wc.cell? ⟨gb227, 4, none⟩ = some (.string ((rd_T32 l0 x13_1).f4)) := (blk_cell BK227.out 4).trans rfl
                              have hcz80_5 : wc.cell? ⟨gb227, 5, none⟩ = some (.bool ((rd_T32 l0 x13_1).f5)) := (blk_cell BK227.out 5).trans rfl
                              have hfz80_0 := blk_frozen BK227.out 0
                              have hfz80_1 := blk_frozen BK227.out 1
                              have hfz80_2 := blk_frozen BK227.out 2
                              have hfz80_3 := blk_frozen BK227.out 3
                              have hfz80_4 := blk_frozen BK227.out 4
                              have hfz80_5 := blk_frozen BK227.out 5
                              go_wp2_with (first | ((with_reducible refine gate_builtin (b := .append) (xs := #[.tmp 28, .tmp 31]) rfl ?_); at_builtin; refine Kd.R_append (Kd.int .i64) (w0 := w) w.heap.size rfl (.tmp 28) (.tmp 31) 53 2 (.int .i64 0) 8 rfl Try.underlying53 info2 rfl (by decide) (by omega) (.slice Ao79 x4_4.length co79) x4_4 ((rd_T32 l0 x13_1).f1) [.int .i64 ((rd_T32 l0 x13_1).f1)] (fun _ => True) (fun _ => False) rfl rfl ?aP (fun _ hk => hk.elim) ?aF ?aO ?aB ?aS ?aL ?_; (case aP => exact rfl); (case aB => exact (by repeat (first | (with_reducible first | exact HB.out | apply below_alloc | apply pw_below_drewN | apply below_drew1 | refine below_set ?_ GE227.out) | exact HB.out))); (case aF => exact (fun _ _ => trivial)); (case aO => exact (by (with_reducible repeat (first | apply Kd.R_alloc | apply Kd.R_drewN | apply Kd.R_drew)); exact HO_4.out)); (case aS => exact (below_size (by repeat (first | (with_reducible first | exact HB.out | apply below_alloc | apply pw_below_drewN | apply below_drew1 | refine below_set ?_ GE227.out) | exact HB.out)))); (case aL => have := LMc54.out; omega); intro v240 w81 ho hb hg hat; rw [← Ny239.out] at ho; have n0_ := Aside0.mk (blk_grown (g := gb227) (o := .cells #[.int .i64 ((rd_T32 l0 x13_1).f0), .int .i64 ((rd_T32 l0 x13_1).f1), .int .i64 ((rd_T32 l0 x13_1).f2), .int .i64 ((rd_T32 l0 x13_1).f3), .string ((rd_T32 l0 x13_1).f4), .bool ((rd_T32 l0 x13_1).f5)] 32 (0, 0)) (by (with_reducible repeat (first | refine blk_drewN ?_ _ | refine blk_drew ?_ | refine blk_alloc ?_ _)); exact BK227.out) hg (Kd.R_ne HO_4.out BK227.out (by decide))); have n1_ := Aside0.mk (hb); have n2_ := Aside0.mk (ho); clear BK227; clear HB; clear HO_4; have BK227 := n0_; have HB := n1_; have HO241 := n2_; clear n0_ n1_ n2_; clear ho hb hg hat; have p244 : 0 ≤ ((ji67) : Int) := of_decide_eq_true (by first | (with_reducible assumption) | assumption); have q244 : (ji67) < (l0.length : Int) := of_decide_eq_true (by first | (with_reducible assumption) | assumption); obtain ⟨ad244, e244, hx244_0, hx244_1, hx244_2, hx244_3, hx244_4, hx244_5⟩ := at_T32 HR0.out (ji67) p244 q244; (try rw [← Nbq70.out] at hx244_5); obtain rfl : ad226 = ad244 := (by injection e244); replace hx244_0 := (HB.out.cell (World.block_lt_of_cell? w _ hx244_0)).trans hx244_0; replace hx244_1 := (HB.out.cell (World.block_lt_of_cell? w _ hx244_1)).trans hx244_1; replace hx244_2 := (HB.out.cell (World.block_lt_of_cell? w _ hx244_2)).trans hx244_2; replace hx244_3 := (HB.out.cell (World.block_lt_of_cell? w _ hx244_3)).trans hx244_3; replace hx244_4 := (HB.out.cell (World.block_lt_of_cell? w _ hx244_4)).trans hx244_4; replace hx244_5 := (HB.out.cell (World.block_lt_of_cell? w _ hx244_5)).trans hx244_5; replace p244 := eq_true p244; replace q244 := eq_true q244; obtain ⟨Ao82, co82, eo82⟩ := Kd.R_slice HO241.out; subst eo82) | ((with_reducible refine gate_callee (f := 22) rfl ?_); refine goesL_ (some 48) rfl rfl Try.func22 (by kernel_rfl) rfl #[.slice Ao82 y239.length co82] rfl (by (try simp only [List.map_toArray, List.map_cons, List.map_nil]); first | done | rfl | (simp only [List.length_drop, List.length_take]; rfl)) ?_; (with_reducible refine (fixed_Sum.calls kj4 _ _ y239 t245 t246 _ ?side1 ?side2 A72.out).mono ?_); (case side1 => repeat (first | exact (Kd.R_reads' HO241.out).2.2 | (with_reducible refine Kd.C_alloc ?_ _) | (with_reducible refine Kd.C_drewN ?_ _) | (with_reducible refine Kd.C_drew ?_))); (case side2 => exact (Kd.R_reads' HO241.out).2.1); rintro e w' ⟨rfl, ⟨nd, rfl⟩⟩; refine ⟨_, rfl, ?_⟩))
                              go_roundg kj4
                              case measure => have := HK1.out; have := HJ4.out; omega
                              case rel => exact ⟨(y239), (ji73), (false), (ji67), (by first | rfl | (simp; done) | (simp only [← hji73] <;> (first | rfl | simp)) | (simp [*]; done)), (by first | rfl | (simp; done) | (simp [*]; done)), (by first | rfl | (simp; done) | (simp only [← hji67] <;> (first | rfl | simp)) | (simp [*]; done)), H', ⟨by have := HK1.out; have := HJ4.out; omega⟩, ⟨by (with_reducible repeat (first | apply Kd.R_alloc | apply Kd.R_drewN | apply Kd.R_drew)); exact HO241.out⟩, ⟨by repeat (first | (with_reducible first | exact HB.out | apply below_alloc | apply pw_below_drewN | apply below_drew1 | refine below_set ?_ GE227.out) | exact HB.out)⟩⟩
                          · replace c71 := Bool.eq_false_iff.mpr c71
                            subst c71
                            have H1 : (measure_Min.l0 kj4 l0 y239 x5_1 x6_1 l0 (l0.length : Int) ji67) = some (r1, r2) := by rw [if_neg (show ¬ (false = true) by decide)] at H; exact H
                            clear H
                            have H := H1
                            clear H1
                            have H' := Aside0.mk H
                            clear H
                            obtain ⟨Ao83, co83, eo83⟩ := Kd.R_slice HO_4.out
                            subst eo83
                            have hcz84_0 : wc.cell? ⟨gb227, 0, none⟩ = some (.int .i64 ((rd_T32 l0 x13_1).f0)) := (blk_cell BK227.out 0).trans rfl
                            have hcz84_1 : wc.cell? ⟨gb227, 1, none⟩ = some (.int .i64 ((rd_T32 l0 x13_1).f1)) := (blk_cell BK227.out 1).trans rfl
                            have hcz84_2 : wc.cell? ⟨gb227, 2, none⟩ = some (.int .i64 ((rd_T32 l0 x13_1).f2)) := (blk_cell BK227.out 2).trans rfl
                            have hcz84_3 : wc.cell? ⟨gb227, 3, none⟩ = some (.int .i64 ((rd_T32 l0 x13_1).f3)) := (blk_cell BK227.out 3).trans rfl
                            have hcz84_4 : wc.cell? ⟨gb227, 4, none⟩ = some (.string ((rd_T32 l0 x13_1).f4)) := (blk_cell BK227.out 4).trans rfl
                            have hcz84_5 : wc.cell? ⟨gb227, 5, none⟩ = some (.bool ((rd_T32 l0 x13_1).f5)) := (blk_cell BK227.out 5).trans rfl
                            have hfz84_0 := blk_frozen BK227.out 0
                            have hfz84_1 := blk_frozen BK227.out 1
                            have hfz84_2 := blk_frozen BK227.out 2
                            have hfz84_3 := blk_frozen BK227.out 3
                            have hfz84_4 := blk_frozen BK227.out 4
                            have hfz84_5 := blk_frozen BK227.out 5
                            go_wp2_with (first | ((with_reducible refine gate_builtin (b := .append) (xs := #[.tmp 28, .tmp 31]) rfl ?_); at_builtin; refine Kd.R_append (Kd.int .i64) (w0 := w) w.heap.size rfl (.tmp 28) (.tmp 31) 53 2 (.int .i64 0) 8 rfl Try.underlying53 info2 rfl (by decide) (by omega) (.slice Ao83 x4_4.length co83) x4_4 ((rd_T32 l0 x13_1).f1) [.int .i64 ((rd_T32 l0 x13_1).f1)] (fun _ => True) (fun _ => False) rfl rfl ?aP (fun _ hk => hk.elim) ?aF ?aO ?aB ?aS ?aL ?_; (case aP => exact rfl); (case aB => exact (by repeat (first | (with_reducible first | exact HB.out | apply below_alloc | apply pw_below_drewN | apply below_drew1 | refine below_set ?_ GE227.out) | exact HB.out))); (case aF => exact (fun _ _ => trivial)); (case aO => exact (by (with_reducible repeat (first | apply Kd.R_alloc | apply Kd.R_drewN | apply Kd.R_drew)); exact HO_4.out)); (case aS => exact (below_size (by repeat (first | (with_reducible first | exact HB.out | apply below_alloc | apply pw_below_drewN | apply below_drew1 | refine below_set ?_ GE227.out) | exact HB.out)))); (case aL => have := LMc54.out; omega); intro v240 w85 ho hb hg hat; rw [← Ny239.out] at ho; have n0_ := Aside0.mk (blk_grown (g := gb227) (o := .cells #[.int .i64 ((rd_T32 l0 x13_1).f0), .int .i64 ((rd_T32 l0 x13_1).f1), .int .i64 ((rd_T32 l0 x13_1).f2), .int .i64 ((rd_T32 l0 x13_1).f3), .string ((rd_T32 l0 x13_1).f4), .bool ((rd_T32 l0 x13_1).f5)] 32 (0, 0)) (by (with_reducible repeat (first | refine blk_drewN ?_ _ | refine blk_drew ?_ | refine blk_alloc ?_ _)); exact BK227.out) hg (Kd.R_ne HO_4.out BK227.out (by decide))); have n1_ := Aside0.mk (hb); have n2_ := Aside0.mk (ho); clear BK227; clear HB; clear HO_4; have BK227 := n0_; have HB := n1_; have HO241 := n2_; clear n0_ n1_ n2_; clear ho hb hg hat; have p244 : 0 ≤ ((ji67) : Int) := of_decide_eq_true (by first | (with_reducible assumption) | assumption); have q244 : (ji67) < (l0.length : Int) := of_decide_eq_true (by first | (with_reducible assumption) | assumption); obtain ⟨ad244, e244, hx244_0, hx244_1, hx244_2, hx244_3, hx244_4, hx244_5⟩ := at_T32 HR0.out (ji67) p244 q244; (try rw [← Nbq70.out] at hx244_5); obtain rfl : ad226 = ad244 := (by injection e244); replace hx244_0 := (HB.out.cell (World.block_lt_of_cell? w _ hx244_0)).trans hx244_0; replace hx244_1 := (HB.out.cell (World.block_lt_of_cell? w _ hx244_1)).trans hx244_1; replace hx244_2 := (HB.out.cell (World.block_lt_of_cell? w _ hx244_2)).trans hx244_2; replace hx244_3 := (HB.out.cell (World.block_lt_of_cell? w _ hx244_3)).trans hx244_3; replace hx244_4 := (HB.out.cell (World.block_lt_of_cell? w _ hx244_4)).trans hx244_4; replace hx244_5 := (HB.out.cell (World.block_lt_of_cell? w _ hx244_5)).trans hx244_5; replace p244 := eq_true p244; replace q244 := eq_true q244))
                            go_roundg kj4
                            case measure => have := HK1.out; have := HJ4.out; omega
                            case rel => exact ⟨(y239), (x5_1), (x6_1), (ji67), (by first | rfl | (simp; done) | (simp [*]; done)), (by first | rfl | (simp; done) | (simp [*]; done)), (by first | rfl | (simp; done) | (simp only [← hji67] <;> (first | rfl | simp)) | (simp [*]; done)), H', ⟨by have := HK1.out; have := HJ4.out; omega⟩, ⟨by (with_reducible repeat (first | apply Kd.R_alloc | apply Kd.R_drewN | apply Kd.R_drew)); exact HO241.out⟩, ⟨by repeat (first | (with_reducible first | exact HB.out | apply below_alloc | apply pw_below_drewN | apply below_drew1 | refine below_set ?_ GE227.out) | exact HB.out)⟩⟩
                        · rw [if_neg c69] at H
                          exact absurd H (by simp)
                      · rw [if_neg c68] at H
                        exact absurd H (by simp)
                  · rw [if_neg c54] at H
                    exact absurd H (by simp)
          · rw [if_neg c4] at H
            exact absurd H (by simp)
        · rw [if_neg c3] at H
          exact absurd H (by simp)
      · rw [if_neg c2] at H
        have c2b0 : decide (x13_1 < (l0.length : Int)) = false := decide_eq_false c2
        clear c2
        simp only [Option.some.injEq, Prod.mk.injEq] at H
        obtain ⟨rfl, rfl⟩ := H
        go_wp2
        go_ret2
        exact ⟨by first | rfl | (simp [errW_none, errW_some] <;> rfl) | (simp [*, errW_none, errW_some] <;> rfl), by repeat (first | (with_reducible first | exact HB.out | apply below_alloc | apply pw_below_drewN | apply below_drew1) | exact HB.out)⟩

/-! ### measure_Max: function 11 -/
def measure_Max.l0 : Nat → List Int → List (S32) → Int → Int → Option (Int × Bool)
  | 0, _, _, _, _ => none
  | k + 1, x4, x7, x8, x9 => if x9 < x8 then (if 0 ≤ x9 then (if x9 < (x7.length : Int) then ((some (([(rd_T32 x7 x9).f3, (rd_T32 x7 x9).f1] : List Int) : List Int)).bind fun y249 => (if x4.length + y249.length < 17592186044416 then (measure_Max.l0 k (x4 ++ y249) x7 x8 (wrap64 (x9 + 1))) else (none))) else (none)) else (none)) else ((fixed_Sum.f k x4).bind fun bt255 => (some (bt255.1, bt255.2)))
def measure_Max.f (k : Nat) (l0 : List (S32)) : Option (Int × Bool) := measure_Max.l0 k ([] : List Int) l0 (l0.length : Int) 0
theorem measure_Max.mono_l : ∀ k, (∀ y0 y1 y2 y3, LeO (measure_Max.l0 k y0 y1 y2 y3) (measure_Max.l0 (k + 1) y0 y1 y2 y3))
  | 0 => fun _ _ _ _ r h => by simp [measure_Max.l0] at h
  | k + 1 => by
    have ih0 := measure_Max.mono_l k
    · intro y0 y1 y2 y3
      unfold measure_Max.l0
      repeat' first
      | (with_reducible exact ih0 _ _ _ _)
      | (with_reducible exact fixed_Sum.mono _ _)
      | (with_reducible exact LeO.refl _)
      | (with_reducible exact LeO.none _)
      | (with_reducible refine LeO.ite ?_ ?_)
      | (with_reducible refine LeO.bind ?_ (fun _ => ?_))
      | exact ih0 _ _ _ _
      | exact fixed_Sum.mono _ _
      | exact LeO.none _
      | refine LeO.ite ?_ ?_
      | refine LeO.bind ?_ (fun _ => ?_)
theorem measure_Max.mono : ∀ a0 k, LeO (measure_Max.f k a0) (measure_Max.f (k + 1) a0) := by
  intro a0 k
  have ih0 := measure_Max.mono_l k
  unfold measure_Max.f
  repeat' first
      | (with_reducible exact ih0 _ _ _ _)
      | (with_reducible exact fixed_Sum.mono _ _)
      | (with_reducible exact LeO.refl _)
      | (with_reducible exact LeO.none _)
      | (with_reducible refine LeO.ite ?_ ?_)
      | (with_reducible refine LeO.bind ?_ (fun _ => ?_))
      | exact ih0 _ _ _ _
      | exact fixed_Sum.mono _ _
      | exact LeO.none _
      | refine LeO.ite ?_ ?_
      | refine LeO.bind ?_ (fun _ => ?_)
set_option maxHeartbeats 8000000 in
set_option maxRecDepth 100000 in
theorem measure_Max.calls (k : Nat) (A0 : Option Addr) (c0 : Nat) (l0 : List (S32)) (r1 : Int) (r2 : Bool) (w : World) (hr0 : Kd.C k32 w A0 l0.length l0) (hc0 : l0.length ≤ c0) (h : measure_Max.f k l0 = some (r1, r2)) :
    Calls Try.prog 11 #[.slice A0 l0.length c0] w fun e w' => e = .returned (.tuple #[.int .i64 r1, .bool r2]) ∧ Below w.heap.size w w' := by
  have hu32 := Try.underlying32
  have HR0 := Aside0.mk hr0
  have HC0 := Aside0.mk hc0
  clear hr0 hc0
  have HB := Aside0.mk (Below.refl w.heap.size w)
  have H : (measure_Max.l0 k ([] : List Int) l0 (l0.length : Int) 0) = some (r1, r2) := h
  clear h
  have H' := Aside0.mk H
  clear H
  go_enter Try.func11, Try.ntmps11
  go_wp2
  go_loopg [4, 9] k (fun kq v4 v9 w' => ∃ (x4_1 : List Int) (x9_1 : Int), v9 = .int .i64 x9_1 ∧ Aside0 (measure_Max.l0 kq x4_1 l0 (l0.length : Int) x9_1 = some (r1, r2)) ∧ Aside0 (kq ≤ k) ∧ Aside0 (Kd.R (Kd.int .i64) 2 w' w.heap.size (fun _ => True) v4 x4_1) ∧ Aside0 (Below w.heap.size w w'))
  case atStart => exact ⟨(([] : List Int)), (0), (by first | rfl | (simp; done) | (simp [*]; done)), H', ⟨Nat.le_refl _⟩, ⟨by first | exact Kd.R_nil _ _ _ _ _ | exact Kd.N_nil _ _ _ _ _ | exact Kd.V_nil _ _ _ _ _ | exact Kd.Q_nil _ _ _ _ _ | exact Kd.S_nil _ _ _ _ _⟩, ⟨by repeat (first | (with_reducible first | exact HB.out | apply below_alloc | apply pw_below_drewN | apply below_drew1) | exact HB.out)⟩⟩
  case round =>
    clear H'
    try clear c1
    obtain ⟨x4_1, x9_1, rfl, HA, HK1, HO_4, HB⟩ := hrel
    cases gk with
    | zero => exact absurd HA.out (by simp [measure_Max.l0])
    | succ k1 =>
      have H := HA.out
      clear HA
      simp only [measure_Max.l0] at H
      by_cases c2 : x9_1 < (l0.length : Int)
      · rw [if_pos c2] at H
        have c2b0 : decide (x9_1 < (l0.length : Int)) = true := decide_eq_true c2
        clear c2
        by_cases c3 : 0 ≤ x9_1
        · rw [if_pos c3] at H
          have c3b0 : decide (0 ≤ x9_1) = true := decide_eq_true c3
          clear c3
          by_cases c4 : x9_1 < (l0.length : Int)
          · rw [if_pos c4] at H
            have c4b0 : decide (x9_1 < (l0.length : Int)) = true := decide_eq_true c4
            clear c4
            obtain ⟨y249, hy249⟩ : ∃ y_ : List Int, y_ = (([(rd_T32 l0 x9_1).f3, (rd_T32 l0 x9_1).f1] : List Int)) := ⟨_, rfl⟩
            replace H : (if x4_1.length + y249.length < 17592186044416 then (measure_Max.l0 k1 (x4_1 ++ y249) l0 (l0.length : Int) (wrap64 (x9_1 + 1))) else (none)) = some (r1, r2) := by first | (rw [hy249]; with_reducible exact H) | (have H2_ := (Option.bind_some _ _).symm.trans H; rw [hy249]; with_reducible exact H2_) | (have H2_ := (Option.bind_some _ _).symm.trans H; with_reducible exact H2_) | with_reducible exact H | (rw [hy249]; exact H) | exact H
            have Ny249 := Aside0.mk hy249
            clear hy249
            by_cases c5 : x4_1.length + y249.length < 17592186044416
            · rw [if_pos c5] at H
              have LMc5 := Aside0.mk c5
              clear c5
              obtain ⟨y252, hy252⟩ : ∃ y_ : List Int, y_ = (x4_1 ++ y249) := ⟨_, rfl⟩
              replace H : (measure_Max.l0 k1 y252 l0 (l0.length : Int) (wrap64 (x9_1 + 1))) = some (r1, r2) := by first | (rw [hy252]; with_reducible exact H) | (have H2_ := (Option.bind_some _ _).symm.trans H; rw [hy252]; with_reducible exact H2_) | (have H2_ := (Option.bind_some _ _).symm.trans H; with_reducible exact H2_) | with_reducible exact H | (rw [hy252]; exact H) | exact H
              have Ny252 := Aside0.mk hy252
              clear hy252
              have H' := Aside0.mk H
              clear H
              have p247 : 0 ≤ (x9_1 : Int) := of_decide_eq_true (by first | (with_reducible assumption) | assumption)
              have q247 : x9_1 < (l0.length : Int) := of_decide_eq_true (by first | (with_reducible assumption) | assumption)
              obtain ⟨ad247, e247, hx247_0, hx247_1, hx247_2, hx247_3, hx247_4, hx247_5⟩ := at_T32 HR0.out x9_1 p247 q247
              cases e247
              replace hx247_0 := (HB.out.cell (World.block_lt_of_cell? w _ hx247_0)).trans hx247_0
              replace hx247_1 := (HB.out.cell (World.block_lt_of_cell? w _ hx247_1)).trans hx247_1
              replace hx247_2 := (HB.out.cell (World.block_lt_of_cell? w _ hx247_2)).trans hx247_2
              replace hx247_3 := (HB.out.cell (World.block_lt_of_cell? w _ hx247_3)).trans hx247_3
              replace hx247_4 := (HB.out.cell (World.block_lt_of_cell? w _ hx247_4)).trans hx247_4
              replace hx247_5 := (HB.out.cell (World.block_lt_of_cell? w _ hx247_5)).trans hx247_5
              replace p247 := eq_true p247
              replace q247 := eq_true q247
              go_wp2_with (first | ((with_reducible refine gate_dst (N := 6) rfl ?_); refine box_event ?hg (N := 6) ?hd (cs := #[.int .i64 0, .int .i64 0, .int .i64 0, .int .i64 0, .string (⟨#[]⟩ : ByteArray), .bool false]) (t := 32) ?hr ?_; (case hd => rfl); (case hg => rfl); (case hr => first | (go_simp; done) | (go_simp; rfl)); intro gb248 hg w6 hbox hb; have n0_ := Aside0.mk (Kd.R_below (by (with_reducible repeat (first | apply Kd.R_alloc | apply Kd.R_drewN | apply Kd.R_drew)); exact HO_4.out) hb); have n1_ := Aside0.mk (below_step (by repeat (first | (with_reducible first | exact HB.out | apply below_alloc | apply pw_below_drewN | apply below_drew1) | exact HB.out)) hb); have n2_ := Aside0.mk (hbox); have n3_ := Aside0.mk ((by rw [hg]; exact (below_size (by repeat (first | (with_reducible first | exact HB.out | apply below_alloc | apply pw_below_drewN | apply below_drew1) | exact HB.out))) : w.heap.size ≤ gb248)); have n4_ := Aside0.mk ((by rw [hg]; exact (below_size (by repeat (first | (with_reducible first | exact HB.out | apply below_alloc | apply pw_below_drewN | apply below_drew1) | exact HB.out))) : w.heap.size ≤ gb248)); clear HO_4; clear HB; have HO_4 := n0_; have HB := n1_; have BK248 := n2_; have GW248 := n3_; have GE248 := n4_; clear n0_ n1_ n2_ n3_ n4_; clear hb hbox hg; have hcz7_0 : w6.cell? ⟨gb248, 0, none⟩ = some (.int .i64 0) := (blk_cell BK248.out 0).trans rfl; have hcz7_1 : w6.cell? ⟨gb248, 1, none⟩ = some (.int .i64 0) := (blk_cell BK248.out 1).trans rfl; have hcz7_2 : w6.cell? ⟨gb248, 2, none⟩ = some (.int .i64 0) := (blk_cell BK248.out 2).trans rfl; have hcz7_3 : w6.cell? ⟨gb248, 3, none⟩ = some (.int .i64 0) := (blk_cell BK248.out 3).trans rfl; have hcz7_4 : w6.cell? ⟨gb248, 4, none⟩ = some (.string (⟨#[]⟩ : ByteArray)) := (blk_cell BK248.out 4).trans rfl; have hcz7_5 : w6.cell? ⟨gb248, 5, none⟩ = some (.bool false) := (blk_cell BK248.out 5).trans rfl; have hfz7_0 := blk_frozen BK248.out 0; have hfz7_1 := blk_frozen BK248.out 1; have hfz7_2 := blk_frozen BK248.out 2; have hfz7_3 := blk_frozen BK248.out 3; have hfz7_4 := blk_frozen BK248.out 4; have hfz7_5 := blk_frozen BK248.out 5) | ((with_reducible refine gate_dst (N := 18) rfl ?_); refine Kd.R_lit (Kd.int .i64) _ 2 ?hg (N := 18) ?hd (xs := ([(rd_T32 l0 x9_1).f3, (rd_T32 l0 x9_1).f1] : List Int)) (inner := [.int .i64 ((rd_T32 l0 x9_1).f3), .int .i64 ((rd_T32 l0 x9_1).f1)]) (ok := fun _ => True) (okp := fun _ => True) ?hr ?hp (fun _ hk => hk) trivial (Below.refl _ _) (Nat.le_refl _) (by simp) ?_; (case hd => rfl); (case hg => rfl); (case hr => first | (go_simp; done) | (go_simp; rfl)); (case hp => exact (Reps.one (show Kd.M (Kd.int .i64) _ _ _ ((rd_T32 l0 x9_1).f3) [.int .i64 ((rd_T32 l0 x9_1).f3)] from rfl) (Reps.one (show Kd.M (Kd.int .i64) _ _ _ ((rd_T32 l0 x9_1).f1) [.int .i64 ((rd_T32 l0 x9_1).f1)] from rfl) (Reps.none _ _)))); intro v250 w8 ho9 hb hg_ hnew_; clear hg_ hnew_; (first | rw [← Ny249.out] at ho9 | (simp only [Int.reduceToNat] at ho9; rw [← Ny249.out] at ho9)); have n0_ := Aside0.mk (Kd.R_elder' (by (with_reducible repeat (first | apply Kd.R_alloc | apply Kd.R_drewN | apply Kd.R_drew)); exact (Kd.R_mono (Kd.R_far (p := ⟨gb248, 5, none⟩) (Kd.R_far (p := ⟨gb248, 4, none⟩) (Kd.R_far (p := ⟨gb248, 3, none⟩) (Kd.R_far (p := ⟨gb248, 2, none⟩) (Kd.R_far (p := ⟨gb248, 1, none⟩) (Kd.R_far (p := ⟨gb248, 0, none⟩) (Kd.R_types HO_4.out BK248.out (by decide)) (fun _ hk => hk.2) (.int .i64 ((rd_T32 l0 x9_1).f0))) (fun _ hk => hk.2) (.int .i64 ((rd_T32 l0 x9_1).f1))) (fun _ hk => hk.2) (.int .i64 ((rd_T32 l0 x9_1).f2))) (fun _ hk => hk.2) (.int .i64 ((rd_T32 l0 x9_1).f3))) (fun _ hk => hk.2) (.string ((rd_T32 l0 x9_1).f4))) (fun _ hk => hk.2) (.bool ((rd_T32 l0 x9_1).f5))) (fun _ h_ => h_.1))) (Kd.R_base ho9) hb); have n1_ := Aside0.mk (Kd.R_lower (Kd.R_new' ho9 (Kd.R_lt (by (with_reducible repeat (first | apply Kd.R_alloc | apply Kd.R_drewN | apply Kd.R_drew)); exact (Kd.R_mono (Kd.R_far (p := ⟨gb248, 5, none⟩) (Kd.R_far (p := ⟨gb248, 4, none⟩) (Kd.R_far (p := ⟨gb248, 3, none⟩) (Kd.R_far (p := ⟨gb248, 2, none⟩) (Kd.R_far (p := ⟨gb248, 1, none⟩) (Kd.R_far (p := ⟨gb248, 0, none⟩) (Kd.R_types HO_4.out BK248.out (by decide)) (fun _ hk => hk.2) (.int .i64 ((rd_T32 l0 x9_1).f0))) (fun _ hk => hk.2) (.int .i64 ((rd_T32 l0 x9_1).f1))) (fun _ hk => hk.2) (.int .i64 ((rd_T32 l0 x9_1).f2))) (fun _ hk => hk.2) (.int .i64 ((rd_T32 l0 x9_1).f3))) (fun _ hk => hk.2) (.string ((rd_T32 l0 x9_1).f4))) (fun _ hk => hk.2) (.bool ((rd_T32 l0 x9_1).f5))) (fun _ h_ => h_.1))))) (below_size (by repeat (first | (with_reducible first | exact HB.out | apply below_alloc | apply pw_below_drewN | apply below_drew1 | refine below_set ?_ GE248.out) | exact HB.out)))); have n2_ := Aside0.mk (blk_below (g := gb248) (o := .cells #[.int .i64 ((rd_T32 l0 x9_1).f0), .int .i64 ((rd_T32 l0 x9_1).f1), .int .i64 ((rd_T32 l0 x9_1).f2), .int .i64 ((rd_T32 l0 x9_1).f3), .string ((rd_T32 l0 x9_1).f4), .bool ((rd_T32 l0 x9_1).f5)] 32 (0, 0)) (by (with_reducible repeat (first | refine blk_drewN ?_ _ | refine blk_drew ?_ | refine blk_alloc ?_ _)); refine blk_put (cs := #[.int .i64 ((rd_T32 l0 x9_1).f0), .int .i64 ((rd_T32 l0 x9_1).f1), .int .i64 ((rd_T32 l0 x9_1).f2), .int .i64 ((rd_T32 l0 x9_1).f3), .string ((rd_T32 l0 x9_1).f4), .bool false]) ?_ 5 _ rfl; (with_reducible repeat (first | refine blk_drewN ?_ _ | refine blk_drew ?_ | refine blk_alloc ?_ _)); refine blk_put (cs := #[.int .i64 ((rd_T32 l0 x9_1).f0), .int .i64 ((rd_T32 l0 x9_1).f1), .int .i64 ((rd_T32 l0 x9_1).f2), .int .i64 ((rd_T32 l0 x9_1).f3), .string (⟨#[]⟩ : ByteArray), .bool false]) ?_ 4 _ rfl; (with_reducible repeat (first | refine blk_drewN ?_ _ | refine blk_drew ?_ | refine blk_alloc ?_ _)); refine blk_put (cs := #[.int .i64 ((rd_T32 l0 x9_1).f0), .int .i64 ((rd_T32 l0 x9_1).f1), .int .i64 ((rd_T32 l0 x9_1).f2), .int .i64 0, .string (⟨#[]⟩ : ByteArray), .bool false]) ?_ 3 _ rfl; (with_reducible repeat (first | refine blk_drewN ?_ _ | refine blk_drew ?_ | refine blk_alloc ?_ _)); refine blk_put (cs := #[.int .i64 ((rd_T32 l0 x9_1).f0), .int .i64 ((rd_T32 l0 x9_1).f1), .int .i64 0, .int .i64 0, .string (⟨#[]⟩ : ByteArray), .bool false]) ?_ 2 _ rfl; (with_reducible repeat (first | refine blk_drewN ?_ _ | refine blk_drew ?_ | refine blk_alloc ?_ _)); refine blk_put (cs := #[.int .i64 ((rd_T32 l0 x9_1).f0), .int .i64 0, .int .i64 0, .int .i64 0, .string (⟨#[]⟩ : ByteArray), .bool false]) ?_ 1 _ rfl; (with_reducible repeat (first | refine blk_drewN ?_ _ | refine blk_drew ?_ | refine blk_alloc ?_ _)); refine blk_put (cs := #[.int .i64 0, .int .i64 0, .int .i64 0, .int .i64 0, .string (⟨#[]⟩ : ByteArray), .bool false]) ?_ 0 _ rfl; (with_reducible repeat (first | refine blk_drewN ?_ _ | refine blk_drew ?_ | refine blk_alloc ?_ _)); exact BK248.out) hb); have n3_ := Aside0.mk (below_step (by repeat (first | (with_reducible first | exact HB.out | apply below_alloc | apply pw_below_drewN | apply below_drew1 | refine below_set ?_ GE248.out) | exact HB.out)) hb); clear HO_4; clear BK248; clear HB; have HO_4 := n0_; have HO251 := n1_; have BK248 := n2_; have HB := n3_; clear n0_ n1_ n2_ n3_; clear hb ho9; obtain ⟨Ao11, co11, eo11⟩ := Kd.R_slice HO251.out; subst eo11) | ((with_reducible refine gate_builtin (b := .append) (xs := #[.tmp 13, .tmp 18]) rfl ?_); at_builtin; refine Kd.R_append_rows (Kd.int .i64) (w0 := w) w.heap.size rfl (.tmp 13) (.tmp 18) 53 2 (.int .i64 0) 8 rfl Try.underlying53 info2 rfl (by decide) (by omega) u4 x4_1 y249 _ _ _ (fun k_ => some k_ ≠ (.slice Ao11 y249.length co11 : Value).ownBlock) (fun _ => False) rfl rfl ?aO ?aR (fun _ _ h => h) (fun _ h => h.elim) ?aF ?aB ?aS ?aL ?_; (case aR => repeat (first | exact (Kd.R_reads' HO251.out).2.2 | (with_reducible refine Kd.C_alloc ?_ _) | (with_reducible refine Kd.C_drewN ?_ _) | (with_reducible refine Kd.C_drew ?_))); (case aB => exact (by repeat (first | (with_reducible first | exact HB.out | apply below_alloc | apply pw_below_drewN | apply below_drew1 | refine below_set ?_ GE248.out) | exact HB.out))); (case aF => exact (fun k_ hk => Kd.fresh' (Kd.R_lt (by (with_reducible repeat (first | apply Kd.R_alloc | apply Kd.R_drewN | apply Kd.R_drew)); exact HO251.out)) k_ hk)); (case aO => exact (by (with_reducible repeat (first | apply Kd.R_alloc | apply Kd.R_drewN | apply Kd.R_drew)); exact Kd.R_mono HO_4.out (fun _ hk => hk.2))); (case aS => exact (below_size (by repeat (first | (with_reducible first | exact HB.out | apply below_alloc | apply pw_below_drewN | apply below_drew1 | refine below_set ?_ GE248.out) | exact HB.out)))); (case aL => have := LMc5.out; omega); intro v253 w10 ho hb hg hat; rw [← Ny252.out] at ho; have n0_ := Aside0.mk (blk_grown (g := gb248) (o := .cells #[.int .i64 ((rd_T32 l0 x9_1).f0), .int .i64 ((rd_T32 l0 x9_1).f1), .int .i64 ((rd_T32 l0 x9_1).f2), .int .i64 ((rd_T32 l0 x9_1).f3), .string ((rd_T32 l0 x9_1).f4), .bool ((rd_T32 l0 x9_1).f5)] 32 (0, 0)) (by (with_reducible repeat (first | refine blk_drewN ?_ _ | refine blk_drew ?_ | refine blk_alloc ?_ _)); exact BK248.out) hg (Kd.R_ne HO_4.out BK248.out (by decide))); have n1_ := Aside0.mk (Kd.R_after (ok := (fun _ => True)) (by (with_reducible repeat (first | apply Kd.R_alloc | apply Kd.R_drewN | apply Kd.R_drew)); exact HO251.out) hg hat); have n2_ := Aside0.mk (hb); have n3_ := Aside0.mk (ho); clear BK248; clear HO251; clear HB; clear HO_4; have BK248 := n0_; have HO251 := n1_; have HB := n2_; have HO254 := n3_; clear n0_ n1_ n2_ n3_; clear ho hb hg hat))
              go_roundg k1
              case measure => have := HK1.out; omega
              case rel => exact ⟨(y252), (wrap64 (x9_1 + 1)), (by first | rfl | (simp; done) | (simp [*]; done)), H', ⟨by have := HK1.out; omega⟩, ⟨by (with_reducible repeat (first | apply Kd.R_alloc | apply Kd.R_drewN | apply Kd.R_drew)); exact Kd.R_mono HO254.out (fun _ hk => trivial)⟩, ⟨by repeat (first | (with_reducible first | exact HB.out | apply below_alloc | apply pw_below_drewN | apply below_drew1 | refine below_set ?_ GE248.out) | exact HB.out)⟩⟩
            · rw [if_neg c5] at H
              exact absurd H (by simp)
          · rw [if_neg c4] at H
            exact absurd H (by simp)
        · rw [if_neg c3] at H
          exact absurd H (by simp)
      · rw [if_neg c2] at H
        have c2b0 : decide (x9_1 < (l0.length : Int)) = false := decide_eq_false c2
        clear c2
        replace H := Option.bind_eq_some_iff.mp H
        obtain ⟨⟨t255, t256⟩, A120, H⟩ := H
        replace H : (some (t255, t256)) = some (r1, r2) := H
        have A12 := Aside0.mk A120
        clear A120
        simp only [Option.some.injEq, Prod.mk.injEq] at H
        obtain ⟨rfl, rfl⟩ := H
        obtain ⟨Ao13, co13, eo13⟩ := Kd.R_slice HO_4.out
        subst eo13
        go_wp2_with (first | ((with_reducible refine gate_callee (f := 22) rfl ?_); refine goesL_ (some 22) rfl rfl Try.func22 (by kernel_rfl) rfl #[.slice Ao13 x4_1.length co13] rfl (by (try simp only [List.map_toArray, List.map_cons, List.map_nil]); first | done | rfl | (simp only [List.length_drop, List.length_take]; rfl)) ?_; (with_reducible refine (fixed_Sum.calls k1 _ _ x4_1 t255 t256 _ ?side1 ?side2 A12.out).mono ?_); (case side1 => repeat (first | exact (Kd.R_reads' HO_4.out).2.2 | (with_reducible refine Kd.C_alloc ?_ _) | (with_reducible refine Kd.C_drewN ?_ _) | (with_reducible refine Kd.C_drew ?_))); (case side2 => exact (Kd.R_reads' HO_4.out).2.1); rintro e w' ⟨rfl, ⟨nd, rfl⟩⟩; refine ⟨_, rfl, ?_⟩))
        go_ret2
        exact ⟨by first | rfl | (simp [errW_none, errW_some] <;> rfl) | (simp [*, errW_none, errW_some] <;> rfl), by repeat (first | (with_reducible first | exact HB.out | apply below_alloc | apply pw_below_drewN | apply below_drew1) | exact HB.out)⟩

end Go.Proofs.Ythkipbnigokcfaa.Q
