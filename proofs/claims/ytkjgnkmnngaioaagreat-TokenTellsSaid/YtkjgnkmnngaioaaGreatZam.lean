/- THE LAW scrim/scrimlaw04.TokenTells: called with any arguments that can be read, it returns true, and each argument reads behind the call as before. No condition. -/
import Derived.Test.YtkjgnkmnngaioaaGreatZad
import Derived.Test.YtkjgnkmnngaioaaGreatZaf
import Derived.Test.YtkjgnkmnngaioaaGreatZal
import Derived.Test.YtkjgnkmnngaioaaGreatZak
import Derived.Test.YtkjgnkmnngaioaaGreatZag
import Derived.Test.YtkjgnkmnngaioaaGreatZaa
import Derived.Test.YtkjgnkmnngaioaaGreatRows
import Derived.ChangeSlices
import Derived.SizedLaws
import Derived.Below
import Derived.ChangeOld
import Derived.ShutString
import Derived.OpenShut
import Derived.ProofKit
import Derived.WalkKit
namespace Go.Proofs.YtkjgnkmnngaioaaGreat.Q
open Go.RowKit Go.Proofs.YtkjgnkmnngaioaaGreatW.PrintWords Go.Proofs.YtkjgnkmnngaioaaGreatW.PrintLast Go.Proofs.YtkjgnkmnngaioaaGreatW.PrintMore
attribute [local go_sem] max2_int min2_int max_two min_two max_three min_three max_four min_four   -- for this text's walks alone
set_option linter.unusedVariables false
set_option linter.unusedSimpArgs false
def scrimlaw04_own.l0 : Nat → List (S71) → List (S46) → Int → Int → Option ((List (S71)))
  | 0, _, _, _, _ => none
  | k + 1, x3, x7, x8, x9 => if x9 < x8 then (if 0 ≤ x9 then (if x9 < (x7.length : Int) then (if x3.length < 2199023255552 then (scrimlaw04_own.l0 k (x3 ++ [(⟨(rd_T46 x7 x9).f0, (rd_T46 x7 x9).f1, (rd_T46 x7 x9).f2, (rd_T46 x7 x9).f3⟩ : S71)]) x7 x8 (wrap64 (x9 + 1))) else (none)) else (none)) else (none)) else (some x3)
def scrimlaw04_own.f (k : Nat) (l0 : List (S46)) : Option ((List (S71))) := scrimlaw04_own.l0 k (([] : List (S71))) l0 (l0.length : Int) 0
set_option maxHeartbeats 8000000 in
set_option maxRecDepth 100000 in
theorem scrimlaw04_own.calls (k : Nat) (P0_ : Nat → Prop) (A0 : Option Addr) (c0 : Nat) (l0 : List (S46)) (r : List (S71)) (w : World) (hs0 : Kd.V k46 46 w w.heap.size (fun k_ => P0_ k_) (.slice A0 l0.length c0) l0) (h : scrimlaw04_own.f k l0 = some r) :
    Calls Tryz.prog 16 #[.slice A0 l0.length c0] w fun e w' => ∃ v0_ : Value, e = .returned (v0_) ∧ Kd.N k71 71 w' w.heap.size (fun k_ => (P0_ k_ ∨ w.heap.size ≤ k_)) v0_ r ∧ Below w.heap.size w w' := by
  have hu46 := Tryz.underlying46
  have HO0 := Aside0.mk (show Kd.V k46 46 w w.heap.size (fun k_ => (P0_ k_ ∨ w.heap.size ≤ k_)) (.slice A0 l0.length c0) l0 from Kd.V_mono hs0 (fun k_ hk => .inl hk))
  have HB := Aside0.mk (Below.refl w.heap.size w)
  have H : (scrimlaw04_own.l0 k (([] : List (S71))) l0 (l0.length : Int) 0) = some r := h
  clear h
  obtain ⟨y132, hy132⟩ : ∃ y_ : List (S71), y_ = (([] : List (S71))) := ⟨_, rfl⟩
  replace H : (scrimlaw04_own.l0 k y132 l0 (l0.length : Int) 0) = some r := by first | (rw [hy132]; with_reducible exact H) | (have H2_ := (Option.bind_some _ _).symm.trans H; rw [hy132]; with_reducible exact H2_) | (have H2_ := (Option.bind_some _ _).symm.trans H; with_reducible exact H2_) | with_reducible exact H | (rw [hy132]; exact H) | exact H
  have Ny132 := Aside0.mk hy132
  clear hy132
  have H' := Aside0.mk H
  clear H
  go_enter Tryz.func16, Tryz.ntmps16
  go_wp2_with (first | ((with_reducible refine gate_dst (N := 6) rfl ?_); refine Kd.N_lit k71 _ 71 ?hg (N' := 6) ?hd (xs := ([] : List (S71))) (inner := []) (ok := (fun k_ => (P0_ k_ ∨ w.heap.size ≤ k_))) (okp := (fun k_ => (P0_ k_ ∨ w.heap.size ≤ k_))) ?hr ?hp (fun _ hk => hk) ((show ∀ k_, w.heap.size ≤ k_ → (fun k_ => (P0_ k_ ∨ w.heap.size ≤ k_)) k_ from fun k_ hk => (.inr (Nat.le_trans (below_size (by repeat (first | (with_reducible first | exact HB.out | apply below_alloc | apply pw_below_drewN | apply below_drew1) | exact HB.out))) hk))) _ (Nat.le_refl _)) (Below.refl _ _) (Nat.le_refl _) (by simp) ?_; (case hd => rfl); (case hg => rfl); (case hr => first | (go_simp; done) | (go_simp; rfl)); (case hp => exact (Reps.none _ _)); intro v133 w2 ho3 hb hg_ hnew_; clear hg_ hnew_; (first | rw [← Ny132.out] at ho3 | (simp only [Int.reduceToNat] at ho3; rw [← Ny132.out] at ho3)); have n0_ := Aside0.mk (Kd.V_elder' (by (with_reducible repeat (first | apply Kd.V_alloc | apply Kd.V_drewN | apply Kd.V_drew)); exact HO0.out) (Kd.N_base ho3) hb); have n1_ := Aside0.mk (Kd.N_lower ho3 (below_size (by repeat (first | (with_reducible first | exact HB.out | apply below_alloc | apply pw_below_drewN | apply below_drew1) | exact HB.out)))); have n2_ := Aside0.mk (below_step (by repeat (first | (with_reducible first | exact HB.out | apply below_alloc | apply pw_below_drewN | apply below_drew1) | exact HB.out)) hb); clear HO0; clear HB; have HO0 := n0_; have HO134 := n1_; have HB := n2_; clear n0_ n1_ n2_; clear hb ho3))
  go_loopg [3, 9] k (fun kq v3 v9 w' => ∃ (x3_1 : List (S71)) (x9_1 : Int), v9 = .int .i64 x9_1 ∧ Aside0 (scrimlaw04_own.l0 kq x3_1 l0 (l0.length : Int) x9_1 = some r) ∧ Aside0 (kq ≤ k) ∧ Aside0 (Kd.N k71 71 w' w.heap.size (fun k_ => (P0_ k_ ∨ w.heap.size ≤ k_)) v3 x3_1) ∧ Aside0 (Kd.V k46 46 w' w.heap.size (fun k_ => (P0_ k_ ∨ w.heap.size ≤ k_) ∧ some k_ ≠ (v3 : Value).ownBlock) (.slice A0 l0.length c0) l0) ∧ Aside0 (Below w.heap.size w w'))
  case atStart => exact ⟨(y132), (0), (by first | rfl | (simp; done) | (simp [*]; done)), H', ⟨Nat.le_refl _⟩, ⟨by (with_reducible repeat (first | apply Kd.N_alloc | apply Kd.N_drewN | apply Kd.N_drew)); exact HO134.out⟩, ⟨by (with_reducible repeat (first | apply Kd.V_alloc | apply Kd.V_drewN | apply Kd.V_drew)); exact HO0.out⟩, ⟨by repeat (first | (with_reducible first | exact HB.out | apply below_alloc | apply pw_below_drewN | apply below_drew1) | exact HB.out)⟩⟩
  case round =>
    clear H'
    try clear c1
    try clear p2
    obtain ⟨x3_1, x9_1, rfl, HA, HK1, HO_3, HO_7, HB⟩ := hrel
    cases gk with
    | zero => exact absurd HA.out (by simp [scrimlaw04_own.l0])
    | succ k1 =>
      have H := HA.out
      clear HA
      simp only [scrimlaw04_own.l0] at H
      by_cases c4 : x9_1 < (l0.length : Int)
      · rw [if_pos c4] at H
        have c4b0 : decide (x9_1 < (l0.length : Int)) = true := decide_eq_true c4
        clear c4
        by_cases c5 : 0 ≤ x9_1
        · rw [if_pos c5] at H
          have c5b0 : decide (0 ≤ x9_1) = true := decide_eq_true c5
          clear c5
          by_cases c6 : x9_1 < (l0.length : Int)
          · rw [if_pos c6] at H
            have c6b0 : decide (x9_1 < (l0.length : Int)) = true := decide_eq_true c6
            clear c6
            by_cases c7 : x3_1.length < 2199023255552
            · rw [if_pos c7] at H
              have LMc7 := Aside0.mk c7
              clear c7
              obtain ⟨y137, hy137⟩ : ∃ y_ : List (S71), y_ = (x3_1 ++ [(⟨(rd_T46 l0 x9_1).f0, (rd_T46 l0 x9_1).f1, (rd_T46 l0 x9_1).f2, (rd_T46 l0 x9_1).f3⟩ : S71)]) := ⟨_, rfl⟩
              replace H : (scrimlaw04_own.l0 k1 y137 l0 (l0.length : Int) (wrap64 (x9_1 + 1))) = some r := by first | (rw [hy137]; with_reducible exact H) | (have H2_ := (Option.bind_some _ _).symm.trans H; rw [hy137]; with_reducible exact H2_) | (have H2_ := (Option.bind_some _ _).symm.trans H; with_reducible exact H2_) | with_reducible exact H | (rw [hy137]; exact H) | exact H
              have Ny137 := Aside0.mk hy137
              clear hy137
              have H' := Aside0.mk H
              clear H
              have p135 : 0 ≤ (x9_1 : Int) := of_decide_eq_true (by first | (with_reducible assumption) | assumption)
              have q135 : x9_1 < (l0.length : Int) := of_decide_eq_true (by first | (with_reducible assumption) | assumption)
              obtain ⟨ad135, A135_3, c135_3, e135, hx135_0, hx135_1, hx135_2, hx135_3, hl135_3, hi135_3⟩ := at_T46 (Kd.V_reads' HO_7.out).2.2 x9_1 p135 q135
              cases e135
              obtain ⟨ce135, hce135, hMe135, hcc135⟩ := Kd.V_get HO_7.out z46 x9_1 p135 (by first | exact q135 | exact of_decide_eq_true (by first | (with_reducible assumption) | assumption) | (have e_ := (Kd.V_reads' HO_7.out).1; omega))
              obtain ⟨ua135_3, uc135_3, rfl, ul135_3, ge135_3⟩ := k46_openF hMe135
              have hv135_3 := hcc135 3 _ rfl
              rw [add_field _ _ 3 (by omega)] at hv135_3
              replace hv135_3 := Option.some.inj (hv135_3.symm.trans hx135_3)
              injection hv135_3 with hva_ hvn_ hvc_
              rw [hva_] at ge135_3
              rw [hvc_] at ul135_3
              have HL135_3 := Aside0.mk (show Kd.V k70 70 _ w.heap.size _ _ ((rd_T46 l0 x9_1).f3) from Kd.V_mk ul135_3 ge135_3)
              clear hva_ hvn_ hvc_ ge135_3 ul135_3
              clear hcc135 hce135
              have HR135_3 := Aside0.mk hi135_3
              have HC135_3 := Aside0.mk hl135_3
              clear hi135_3 hl135_3
              replace p135 := eq_true p135
              replace q135 := eq_true q135
              go_wp2_with (first | ((with_reducible refine gate_dst (N := 5) rfl ?_); refine box_event ?hg (N := 5) ?hd (cs := #[.int .i64 0, .string (⟨#[]⟩ : ByteArray), .string (⟨#[]⟩ : ByteArray), .slice none 0 0]) (t := 46) ?hr ?_; (case hd => rfl); (case hg => rfl); (case hr => first | (go_simp; done) | (go_simp; rfl)); intro gb136 hg w8 hbox hb; have n0_ := Aside0.mk (Kd.N_below (Kd.N_elderB (by (with_reducible repeat (first | apply Kd.N_alloc | apply Kd.N_drewN | apply Kd.N_drew)); exact HO_3.out) gb136 (Nat.le_of_eq hg.symm)) hb); have n1_ := Aside0.mk (Kd.V_below (Kd.V_elderB (by (with_reducible repeat (first | apply Kd.V_alloc | apply Kd.V_drewN | apply Kd.V_drew)); exact HO_7.out) gb136 (Nat.le_of_eq hg.symm)) hb); have n2_ := Aside0.mk (Kd.V_below (Kd.V_elderB (by (with_reducible repeat (first | apply Kd.V_alloc | apply Kd.V_drewN | apply Kd.V_drew)); exact HL135_3.out) gb136 (Nat.le_of_eq hg.symm)) hb); have n3_ := Aside0.mk (Kd.C_below (by repeat (first | (with_reducible exact HR135_3.out) | (with_reducible refine Kd.C_alloc ?_ _) | (with_reducible refine Kd.C_drewN ?_ _) | (with_reducible refine Kd.C_drew ?_) | exact HR135_3.out)) hb); have n4_ := Aside0.mk (below_step (by repeat (first | (with_reducible first | exact HB.out | apply below_alloc | apply pw_below_drewN | apply below_drew1) | exact HB.out)) hb); have n5_ := Aside0.mk (hbox); have n6_ := Aside0.mk ((by rw [hg]; exact (below_size (by repeat (first | (with_reducible first | exact HB.out | apply below_alloc | apply pw_below_drewN | apply below_drew1) | exact HB.out))) : w.heap.size ≤ gb136)); have n7_ := Aside0.mk ((by rw [hg]; exact (below_size (by repeat (first | (with_reducible first | exact HB.out | apply below_alloc | apply pw_below_drewN | apply below_drew1) | exact HB.out))) : w.heap.size ≤ gb136)); clear HO_3; clear HO_7; clear HL135_3; clear HR135_3; clear HB; have HO_3 := n0_; have HO_7 := n1_; have HL135_3 := n2_; have HR135_3 := n3_; have HB := n4_; have BK136 := n5_; have GW136 := n6_; have GE136 := n7_; clear n0_ n1_ n2_ n3_ n4_ n5_ n6_ n7_; clear hb hbox hg; have hcz9_0 : w8.cell? ⟨gb136, 0, none⟩ = some (.int .i64 0) := (blk_cell BK136.out 0).trans rfl; have hcz9_1 : w8.cell? ⟨gb136, 1, none⟩ = some (.string (⟨#[]⟩ : ByteArray)) := (blk_cell BK136.out 1).trans rfl; have hcz9_2 : w8.cell? ⟨gb136, 2, none⟩ = some (.string (⟨#[]⟩ : ByteArray)) := (blk_cell BK136.out 2).trans rfl; have hcz9_3 : w8.cell? ⟨gb136, 3, none⟩ = some (.slice none 0 0) := (blk_cell BK136.out 3).trans rfl; have hfz9_0 := blk_frozen BK136.out 0; have hfz9_1 := blk_frozen BK136.out 1; have hfz9_2 := blk_frozen BK136.out 2; have hfz9_3 := blk_frozen BK136.out 3) | ((with_reducible refine gate_store (t := 46) (p := 5) rfl ?_); refine store_event (t := 46) (p := 5) (v := ?vo_w10) (w1 := ((((w8.setCell ⟨gb136, 0, none⟩ (.int .i64 ((rd_T46 l0 x9_1).f0))).setCell ⟨gb136, 1, none⟩ (.string ((rd_T46 l0 x9_1).f1))).setCell ⟨gb136, 2, none⟩ (.string ((rd_T46 l0 x9_1).f2))).setCell ⟨gb136, 3, none⟩ (.slice A135_3 ((rd_T46 l0 x9_1).f3).length c135_3))) ?hg ?ho ?hn ?hr ?_; (case ho => rfl); (case hg => rfl); (case hn => rfl); (case hr => first | (go_simp; done) | (go_simp; rfl)); intro w10 hw; have n0_ : Aside0 (Kd.N k71 71 w10 w.heap.size (fun k_ => (P0_ k_ ∨ w.heap.size ≤ k_) ∧ k_ ≠ gb136) u3 x3_1) := ⟨(by rw [hw]; exact (by (with_reducible repeat (first | apply Kd.N_alloc | apply Kd.N_drewN | apply Kd.N_drew)); exact Kd.N_mono (Kd.N_far (p := ⟨gb136, 3, none⟩) (Kd.N_far (p := ⟨gb136, 2, none⟩) (Kd.N_far (p := ⟨gb136, 1, none⟩) (Kd.N_far (p := ⟨gb136, 0, none⟩) (Kd.N_mono HO_3.out (fun k_ hk => (⟨hk, hk.2⟩ : _ ∧ k_ ≠ gb136))) (fun _ hk => hk.2) (.int .i64 ((rd_T46 l0 x9_1).f0))) (fun _ hk => hk.2) (.string ((rd_T46 l0 x9_1).f1))) (fun _ hk => hk.2) (.string ((rd_T46 l0 x9_1).f2))) (fun _ hk => hk.2) (.slice A135_3 ((rd_T46 l0 x9_1).f3).length c135_3)) (fun _ hk => ⟨hk.1.1, hk.1.2⟩)))⟩; have n1_ : Aside0 (Kd.V k46 46 w10 w.heap.size (fun k_ => (P0_ k_ ∨ w.heap.size ≤ k_) ∧ some k_ ≠ (u3 : Value).ownBlock ∧ k_ ≠ gb136) (.slice (some ad135) l0.length c0) l0) := ⟨(by rw [hw]; exact (by (with_reducible repeat (first | apply Kd.V_alloc | apply Kd.V_drewN | apply Kd.V_drew)); exact Kd.V_mono (Kd.V_far (p := ⟨gb136, 3, none⟩) (Kd.V_far (p := ⟨gb136, 2, none⟩) (Kd.V_far (p := ⟨gb136, 1, none⟩) (Kd.V_far (p := ⟨gb136, 0, none⟩) (Kd.V_mono HO_7.out (fun k_ hk => (⟨hk, hk.2⟩ : _ ∧ k_ ≠ gb136))) (fun _ hk => hk.2) (.int .i64 ((rd_T46 l0 x9_1).f0))) (fun _ hk => hk.2) (.string ((rd_T46 l0 x9_1).f1))) (fun _ hk => hk.2) (.string ((rd_T46 l0 x9_1).f2))) (fun _ hk => hk.2) (.slice A135_3 ((rd_T46 l0 x9_1).f3).length c135_3)) (fun _ hk => ⟨hk.1.1.1, ⟨hk.1.1.2, hk.1.2⟩⟩)))⟩; have n2_ : Aside0 (Kd.V k70 70 w10 w.heap.size (fun k_ => (P0_ k_ ∨ w.heap.size ≤ k_) ∧ some k_ ≠ (u3 : Value).ownBlock ∧ k_ ≠ gb136) (.slice A135_3 ((rd_T46 l0 x9_1).f3).length c135_3) ((rd_T46 l0 x9_1).f3)) := ⟨(by rw [hw]; exact (by (with_reducible repeat (first | apply Kd.V_alloc | apply Kd.V_drewN | apply Kd.V_drew)); exact Kd.V_mono (Kd.V_far (p := ⟨gb136, 3, none⟩) (Kd.V_far (p := ⟨gb136, 2, none⟩) (Kd.V_far (p := ⟨gb136, 1, none⟩) (Kd.V_far (p := ⟨gb136, 0, none⟩) (Kd.V_mono HL135_3.out (fun k_ hk => (⟨hk, hk.2⟩ : _ ∧ k_ ≠ gb136))) (fun _ hk => hk.2) (.int .i64 ((rd_T46 l0 x9_1).f0))) (fun _ hk => hk.2) (.string ((rd_T46 l0 x9_1).f1))) (fun _ hk => hk.2) (.string ((rd_T46 l0 x9_1).f2))) (fun _ hk => hk.2) (.slice A135_3 ((rd_T46 l0 x9_1).f3).length c135_3)) (fun _ hk => ⟨hk.1.1.1, ⟨hk.1.1.2, hk.1.2⟩⟩)))⟩; have n3_ : Aside0 (w10.heap[gb136]? = some (.cells #[.int .i64 ((rd_T46 l0 x9_1).f0), .string ((rd_T46 l0 x9_1).f1), .string ((rd_T46 l0 x9_1).f2), .slice A135_3 ((rd_T46 l0 x9_1).f3).length c135_3] 46 (0, 0))) := ⟨(by rw [hw]; exact (by (with_reducible repeat (first | refine blk_drewN ?_ _ | refine blk_drew ?_ | refine blk_alloc ?_ _)); refine blk_put (cs := #[.int .i64 ((rd_T46 l0 x9_1).f0), .string ((rd_T46 l0 x9_1).f1), .string ((rd_T46 l0 x9_1).f2), .slice none 0 0]) ?_ 3 _ rfl; (with_reducible repeat (first | refine blk_drewN ?_ _ | refine blk_drew ?_ | refine blk_alloc ?_ _)); refine blk_put (cs := #[.int .i64 ((rd_T46 l0 x9_1).f0), .string ((rd_T46 l0 x9_1).f1), .string (⟨#[]⟩ : ByteArray), .slice none 0 0]) ?_ 2 _ rfl; (with_reducible repeat (first | refine blk_drewN ?_ _ | refine blk_drew ?_ | refine blk_alloc ?_ _)); refine blk_put (cs := #[.int .i64 ((rd_T46 l0 x9_1).f0), .string (⟨#[]⟩ : ByteArray), .string (⟨#[]⟩ : ByteArray), .slice none 0 0]) ?_ 1 _ rfl; (with_reducible repeat (first | refine blk_drewN ?_ _ | refine blk_drew ?_ | refine blk_alloc ?_ _)); refine blk_put (cs := #[.int .i64 0, .string (⟨#[]⟩ : ByteArray), .string (⟨#[]⟩ : ByteArray), .slice none 0 0]) ?_ 0 _ rfl; (with_reducible repeat (first | refine blk_drewN ?_ _ | refine blk_drew ?_ | refine blk_alloc ?_ _)); exact BK136.out))⟩; have n4_ : Aside0 (Below w.heap.size w w10) := ⟨(by rw [hw]; exact (by repeat (first | (with_reducible first | exact HB.out | apply below_alloc | apply pw_below_drewN | apply below_drew1 | refine below_set ?_ GE136.out) | exact HB.out)))⟩; clear hw; clear HO_3; clear HO_7; clear HL135_3; clear BK136; clear HB; have HO_3 := n0_; have HO_7 := n1_; have HL135_3 := n2_; have BK136 := n3_; have HB := n4_; clear n0_ n1_ n2_ n3_ n4_; have hcz11_0 : w10.cell? ⟨gb136, 0, none⟩ = some (.int .i64 ((rd_T46 l0 x9_1).f0)) := (blk_cell BK136.out 0).trans rfl; have hcz11_1 : w10.cell? ⟨gb136, 1, none⟩ = some (.string ((rd_T46 l0 x9_1).f1)) := (blk_cell BK136.out 1).trans rfl; have hcz11_2 : w10.cell? ⟨gb136, 2, none⟩ = some (.string ((rd_T46 l0 x9_1).f2)) := (blk_cell BK136.out 2).trans rfl; have hcz11_3 : w10.cell? ⟨gb136, 3, none⟩ = some (.slice A135_3 ((rd_T46 l0 x9_1).f3).length c135_3) := (blk_cell BK136.out 3).trans rfl; have hfz11_0 := blk_frozen BK136.out 0; have hfz11_1 := blk_frozen BK136.out 1; have hfz11_2 := blk_frozen BK136.out 2; have hfz11_3 := blk_frozen BK136.out 3) | ((with_reducible refine gate_builtin (b := .append) (xs := #[.tmp 13, .tmp 15]) rfl ?_); at_builtin; refine Kd.N_append k71 (w0 := w) w.heap.size rfl (.tmp 13) (.tmp 15) 27 71 (.agg #[(.int .i64 0), (.string ⟨#[]⟩), (.string ⟨#[]⟩), (.slice none 0 0)]) 64 rfl Tryz.underlying27 info71 rfl (by decide) (by omega) u3 x3_1 (⟨(rd_T46 l0 x9_1).f0, (rd_T46 l0 x9_1).f1, (rd_T46 l0 x9_1).f2, (rd_T46 l0 x9_1).f3⟩ : S71) [.int .i64 ((rd_T46 l0 x9_1).f0), .string ((rd_T46 l0 x9_1).f1), .string ((rd_T46 l0 x9_1).f2), .slice A135_3 ((rd_T46 l0 x9_1).f3).length c135_3] (fun k_ => (P0_ k_ ∨ w.heap.size ≤ k_) ∧ k_ ≠ gb136) (fun k_ => ((fun k_ => (P0_ k_ ∨ w.heap.size ≤ k_) ∧ k_ ≠ gb136)) k_ ∧ some k_ ≠ (u3 : Value).ownBlock) rfl rfl ?aP (fun _ hk => hk) ?aF ?aO ?aB ?aS ?aL ?_; (case aP => exact (k71_mkF _ _ (⟨(rd_T46 l0 x9_1).f0, (rd_T46 l0 x9_1).f1, (rd_T46 l0 x9_1).f2, (rd_T46 l0 x9_1).f3⟩ : S71) (Kd.V_reads' (Kd.V_mono (ok' := (fun k_ => ((fun k_ => (P0_ k_ ∨ w.heap.size ≤ k_) ∧ k_ ≠ gb136)) k_ ∧ some k_ ≠ (u3 : Value).ownBlock)) (HL135_3.out) (fun k_ hk => ⟨⟨hk.1, hk.2.2⟩, hk.2.1⟩))).2.1 (Kd.V_F (Kd.V_mono (ok' := (fun k_ => ((fun k_ => (P0_ k_ ∨ w.heap.size ≤ k_) ∧ k_ ≠ gb136)) k_ ∧ some k_ ≠ (u3 : Value).ownBlock)) (HL135_3.out) (fun k_ hk => ⟨⟨hk.1, hk.2.2⟩, hk.2.1⟩))))); (case aB => exact (by repeat (first | (with_reducible first | exact HB.out | apply below_alloc | apply pw_below_drewN | apply below_drew1 | refine below_set ?_ GE136.out) | exact HB.out))); (case aF => exact (fun k_ hk => ⟨(.inr (Nat.le_trans (below_size (by repeat (first | (with_reducible first | exact HB.out | apply below_alloc | apply pw_below_drewN | apply below_drew1 | refine below_set ?_ GE136.out) | exact HB.out))) hk)), Kd.freshB (g := gb136) (o := .cells #[.int .i64 ((rd_T46 l0 x9_1).f0), .string ((rd_T46 l0 x9_1).f1), .string ((rd_T46 l0 x9_1).f2), .slice A135_3 ((rd_T46 l0 x9_1).f3).length c135_3] 46 (0, 0)) (by (with_reducible repeat (first | refine blk_drewN ?_ _ | refine blk_drew ?_ | refine blk_alloc ?_ _)); exact BK136.out) k_ hk⟩)); (case aO => exact (by (with_reducible repeat (first | apply Kd.N_alloc | apply Kd.N_drewN | apply Kd.N_drew)); exact HO_3.out)); (case aS => exact (below_size (by repeat (first | (with_reducible first | exact HB.out | apply below_alloc | apply pw_below_drewN | apply below_drew1 | refine below_set ?_ GE136.out) | exact HB.out)))); (case aL => have := LMc7.out; omega); intro v138 w12 ho hb hg hat; rw [← Ny137.out] at ho; have n0_ := Aside0.mk (Kd.V_afterv (ok := (fun k_ => (P0_ k_ ∨ w.heap.size ≤ k_) ∧ k_ ≠ gb136)) (by (with_reducible repeat (first | apply Kd.V_alloc | apply Kd.V_drewN | apply Kd.V_drew)); exact Kd.V_mono HO_7.out (fun _ hk => ⟨⟨hk.1, hk.2.2⟩, hk.2.1⟩)) hg hat); have n1_ := Aside0.mk (Kd.V_afterv (ok := (fun k_ => (P0_ k_ ∨ w.heap.size ≤ k_) ∧ k_ ≠ gb136)) (by (with_reducible repeat (first | apply Kd.V_alloc | apply Kd.V_drewN | apply Kd.V_drew)); exact Kd.V_mono HL135_3.out (fun _ hk => ⟨⟨hk.1, hk.2.2⟩, hk.2.1⟩)) hg hat); have n2_ := Aside0.mk (blk_grown (g := gb136) (o := .cells #[.int .i64 ((rd_T46 l0 x9_1).f0), .string ((rd_T46 l0 x9_1).f1), .string ((rd_T46 l0 x9_1).f2), .slice A135_3 ((rd_T46 l0 x9_1).f3).length c135_3] 46 (0, 0)) (by (with_reducible repeat (first | refine blk_drewN ?_ _ | refine blk_drew ?_ | refine blk_alloc ?_ _)); exact BK136.out) hg (Kd.N_ne HO_3.out BK136.out (by decide))); have n3_ := Aside0.mk (hb); have n4_ := Aside0.mk (ho); clear HO_7; clear HL135_3; clear BK136; clear HB; clear HO_3; have HO_7 := n0_; have HL135_3 := n1_; have BK136 := n2_; have HB := n3_; have HO139 := n4_; clear n0_ n1_ n2_ n3_ n4_; clear ho hb hg hat))
              go_roundg k1
              case measure => have := HK1.out; omega
              case rel => exact ⟨(y137), (wrap64 (x9_1 + 1)), (by first | rfl | (simp; done) | (simp [*]; done)), H', ⟨by have := HK1.out; omega⟩, ⟨by (with_reducible repeat (first | apply Kd.N_alloc | apply Kd.N_drewN | apply Kd.N_drew)); exact Kd.N_mono HO139.out (fun _ hk => hk.1)⟩, ⟨by (with_reducible repeat (first | apply Kd.V_alloc | apply Kd.V_drewN | apply Kd.V_drew)); exact Kd.V_mono HO_7.out (fun _ hk => ⟨hk.1.1, hk.2⟩)⟩, ⟨by repeat (first | (with_reducible first | exact HB.out | apply below_alloc | apply pw_below_drewN | apply below_drew1 | refine below_set ?_ GE136.out) | exact HB.out)⟩⟩
            · rw [if_neg c7] at H
              exact absurd H (by simp)
          · rw [if_neg c6] at H
            exact absurd H (by simp)
        · rw [if_neg c5] at H
          exact absurd H (by simp)
      · rw [if_neg c4] at H
        have c4b0 : decide (x9_1 < (l0.length : Int)) = false := decide_eq_false c4
        clear c4
        obtain rfl := Option.some.inj H
        go_wp2
        go_ret
        exact ⟨_, by first | rfl | (simp [errW_none, errW_some] <;> rfl) | (simp [*, errW_none, errW_some] <;> rfl), by (with_reducible repeat (first | apply Kd.N_alloc | apply Kd.N_drewN | apply Kd.N_drew)); exact HO_3.out, by repeat (first | (with_reducible first | exact HB.out | apply below_alloc | apply pw_below_drewN | apply below_drew1) | exact HB.out)⟩
end Go.Proofs.YtkjgnkmnngaioaaGreat.Q
namespace Go.Proofs.YtkjgnkmnngaioaaGreat.Q
open Go.RowKit Go.Proofs.YtkjgnkmnngaioaaGreat.Mem Go.Proofs.YtkjgnkmnngaioaaGreatW.PrintWords Go.Proofs.YtkjgnkmnngaioaaGreatW.PrintLast Go.Proofs.YtkjgnkmnngaioaaGreatW.PrintMore
set_option linter.unusedVariables false
set_option linter.unusedSimpArgs false
def awA : S70 := ⟨⟨#[105, 100]⟩, ⟨#[97]⟩⟩
def awT : List S46 := [⟨1, ⟨#[112]⟩, ⟨#[]⟩, [awA]⟩, ⟨3, ⟨#[]⟩, ⟨#[120]⟩, []⟩, ⟨2, ⟨#[112]⟩, ⟨#[]⟩, []⟩, ⟨3, ⟨#[]⟩, ⟨#[60, 60]⟩, []⟩]
def awR : List S71 := [⟨1, ⟨#[112]⟩, ⟨#[]⟩, [awA]⟩, ⟨3, ⟨#[]⟩, ⟨#[120]⟩, []⟩, ⟨2, ⟨#[112]⟩, ⟨#[]⟩, []⟩, ⟨3, ⟨#[]⟩, ⟨#[60, 60]⟩, []⟩]
theorem aw_read : token_Read.f ⟨#[60, 80, 32, 105, 100, 61, 34, 97, 34, 62, 120, 60, 47, 112, 62, 38, 108, 116, 59, 60]⟩ = some (awT, 0) := by kernel_rfl
theorem aw_name1 : token_Name.f ⟨#[97, 45, 49]⟩ = some true := by kernel_rfl
theorem aw_name2 : token_Name.f ⟨#[65]⟩ = some false := by kernel_rfl
theorem aw_tell : token_Tell.f ⟨#[38, 97, 109, 112, 59, 108, 116, 59]⟩ = some ⟨#[38, 108, 116, 59]⟩ := by kernel_rfl
theorem aw_sign : token_Sign.f ⟨#[60, 34]⟩ true = some ⟨#[38, 108, 116, 59, 38, 113, 117, 111, 116, 59]⟩ := by kernel_rfl
theorem aw_own : scrimlaw04_own.f 6 awT = some awR := by kernel_rfl
theorem aw_same : scrimref04_Same.f 12 awR awR = some true := by decide +kernel
theorem attr_reads {W : World} {B1 : Nat} (h : Blk W B1 #[.string ⟨#[105, 100]⟩, .string ⟨#[97]⟩] 70) : Kd.C k70 W (some ⟨B1, 0, none⟩) [awA].length [awA] := by
  refine ⟨rfl, by simp, fun _ => ⟨_, rfl, fun j r hr => ?_⟩⟩
  rcases j with _ | j
  · simp only [List.getElem?_cons_zero, Option.some.injEq] at hr
    subst hr
    refine ⟨_, rfl, k70_mk W awA, fun i u hu => ?_⟩
    have ea : (⟨B1, 0, none⟩ : Addr).add (0 * k70.sz + i) = ⟨B1, i, none⟩ := by rw [add_plain]; first | rfl | (congr 1; simp)
    rw [ea, h.cell]
    rcases i with _ | _ | i
    · simpa [awA] using hu
    · simpa [awA] using hu
    · simp at hu
  · simp at hr
theorem want_reads {W : World} {B1 B2 : Nat} (h1 : Blk W B1 #[.string ⟨#[105, 100]⟩, .string ⟨#[97]⟩] 70) (h2 : Blk W B2 #[.int .i64 1, .string ⟨#[112]⟩, .string ⟨#[]⟩, .slice (some ⟨B1, 0, none⟩) 1 1, .int .i64 3, .string ⟨#[]⟩, .string ⟨#[120]⟩, .slice none 0 0, .int .i64 2, .string ⟨#[112]⟩, .string ⟨#[]⟩, .slice none 0 0, .int .i64 3, .string ⟨#[]⟩, .string ⟨#[60, 60]⟩, .slice none 0 0] 71) : Kd.C k71 W (some ⟨B2, 0, none⟩) awR.length awR := by
  unfold awR
  refine ⟨rfl, by simp, fun _ => ⟨_, rfl, fun j r hr => ?_⟩⟩
  rcases j with _ | _ | _ | _ | j
  · simp only [List.getElem?_cons_succ, List.getElem?_cons_zero, Option.some.injEq] at hr
    subst hr
    refine ⟨_, rfl, k71_mk (A3 := some ⟨B1, 0, none⟩) (c3 := 1) W _ (by decide) (attr_reads h1), fun i u hu => ?_⟩
    have ea : (⟨B2, 0, none⟩ : Addr).add (0 * k71.sz + i) = ⟨B2, i, none⟩ := by rw [add_plain]; first | rfl | (congr 1; first | (simp [k71, Kd.iso, Kd.pair, Kd.int, Kd.string, Kd.slice, Kd.scalar]; done) | (simp [k71, Kd.iso, Kd.pair, Kd.int, Kd.string, Kd.slice, Kd.scalar]; omega))
    rw [ea, h2.cell]
    rcases i with _ | _ | _ | _ | i
    · simpa using hu
    · simpa using hu
    · simpa using hu
    · simpa using hu
    · simp at hu
  · simp only [List.getElem?_cons_succ, List.getElem?_cons_zero, Option.some.injEq] at hr
    subst hr
    refine ⟨_, rfl, k71_mk (A3 := none) (c3 := 0) W _ (by decide) ⟨rfl, by simp, fun h => absurd h (by simp)⟩, fun i u hu => ?_⟩
    have ea : (⟨B2, 0, none⟩ : Addr).add ((0 + 1) * k71.sz + i) = ⟨B2, 4 + i, none⟩ := by rw [add_plain]; first | rfl | (congr 1; first | (simp [k71, Kd.iso, Kd.pair, Kd.int, Kd.string, Kd.slice, Kd.scalar]; done) | (simp [k71, Kd.iso, Kd.pair, Kd.int, Kd.string, Kd.slice, Kd.scalar]; omega))
    rw [ea, h2.cell]
    rcases i with _ | _ | _ | _ | i
    · simpa using hu
    · simpa using hu
    · simpa using hu
    · simpa using hu
    · simp at hu
  · simp only [List.getElem?_cons_succ, List.getElem?_cons_zero, Option.some.injEq] at hr
    subst hr
    refine ⟨_, rfl, k71_mk (A3 := none) (c3 := 0) W _ (by decide) ⟨rfl, by simp, fun h => absurd h (by simp)⟩, fun i u hu => ?_⟩
    have ea : (⟨B2, 0, none⟩ : Addr).add ((0 + 1 + 1) * k71.sz + i) = ⟨B2, 8 + i, none⟩ := by rw [add_plain]; first | rfl | (congr 1; first | (simp [k71, Kd.iso, Kd.pair, Kd.int, Kd.string, Kd.slice, Kd.scalar]; done) | (simp [k71, Kd.iso, Kd.pair, Kd.int, Kd.string, Kd.slice, Kd.scalar]; omega))
    rw [ea, h2.cell]
    rcases i with _ | _ | _ | _ | i
    · simpa using hu
    · simpa using hu
    · simpa using hu
    · simpa using hu
    · simp at hu
  · simp only [List.getElem?_cons_succ, List.getElem?_cons_zero, Option.some.injEq] at hr
    subst hr
    refine ⟨_, rfl, k71_mk (A3 := none) (c3 := 0) W _ (by decide) ⟨rfl, by simp, fun h => absurd h (by simp)⟩, fun i u hu => ?_⟩
    have ea : (⟨B2, 0, none⟩ : Addr).add ((0 + 1 + 1 + 1) * k71.sz + i) = ⟨B2, 12 + i, none⟩ := by rw [add_plain]; first | rfl | (congr 1; first | (simp [k71, Kd.iso, Kd.pair, Kd.int, Kd.string, Kd.slice, Kd.scalar]; done) | (simp [k71, Kd.iso, Kd.pair, Kd.int, Kd.string, Kd.slice, Kd.scalar]; omega))
    rw [ea, h2.cell]
    rcases i with _ | _ | _ | _ | i
    · simpa using hu
    · simpa using hu
    · simpa using hu
    · simpa using hu
    · simp at hu
  · simp at hr
set_option maxRecDepth 100000 in
set_option maxHeartbeats 8000000 in
theorem awake_calls (w : World) : Calls Tryz.prog 12 #[] w fun e w' => e = .returned (.bool true) ∧ Below w.heap.size w w' := by
  go_enter Tryz.func12, Tryz.ntmps12
  go_wp2_with (go_at_call 13; refine (token_Read.calls _ awT 0 _ aw_read).mono ?_; rintro e w1 ⟨v, rfl, hs, hb⟩; have HS1 := Lib.hid hs; have HB1 := Lib.hid hb; obtain ⟨A1, c1, rfl⟩ := Kd.S_slice hs; clear hs hb)
  have HX1 := Lib.hid (show Blk ((w1.alloc (.cells #[.string ⟨#[105, 100]⟩, .string ⟨#[97]⟩] 70)).alloc (.cells #[.int .i64 1, .string ⟨#[112]⟩, .string ⟨#[]⟩, .slice (some ⟨w1.heap.size, 0, none⟩) 1 1, .int .i64 3, .string ⟨#[]⟩, .string ⟨#[120]⟩, .slice none 0 0, .int .i64 2, .string ⟨#[112]⟩, .string ⟨#[]⟩, .slice none 0 0, .int .i64 3, .string ⟨#[]⟩, .string ⟨#[60, 60]⟩, .slice none 0 0] 71)) w1.heap.size #[.string ⟨#[105, 100]⟩, .string ⟨#[97]⟩] 70 from (Blk.alloc w1 _ _).alloc_old _)
  have HX2 := Lib.hid (show Blk ((w1.alloc (.cells #[.string ⟨#[105, 100]⟩, .string ⟨#[97]⟩] 70)).alloc (.cells #[.int .i64 1, .string ⟨#[112]⟩, .string ⟨#[]⟩, .slice (some ⟨w1.heap.size, 0, none⟩) 1 1, .int .i64 3, .string ⟨#[]⟩, .string ⟨#[120]⟩, .slice none 0 0, .int .i64 2, .string ⟨#[112]⟩, .string ⟨#[]⟩, .slice none 0 0, .int .i64 3, .string ⟨#[]⟩, .string ⟨#[60, 60]⟩, .slice none 0 0] 71)) (w1.heap.size + 1) #[.int .i64 1, .string ⟨#[112]⟩, .string ⟨#[]⟩, .slice (some ⟨w1.heap.size, 0, none⟩) 1 1, .int .i64 3, .string ⟨#[]⟩, .string ⟨#[120]⟩, .slice none 0 0, .int .i64 2, .string ⟨#[112]⟩, .string ⟨#[]⟩, .slice none 0 0, .int .i64 3, .string ⟨#[]⟩, .string ⟨#[60, 60]⟩, .slice none 0 0] 71 from Blk.alloc_at _ _ _ (by simp))
  have HS2 := Lib.hid (Kd.S_alloc (Kd.S_alloc HS1.out (.cells #[.string ⟨#[105, 100]⟩, .string ⟨#[97]⟩] 70)) (.cells #[.int .i64 1, .string ⟨#[112]⟩, .string ⟨#[]⟩, .slice (some ⟨w1.heap.size, 0, none⟩) 1 1, .int .i64 3, .string ⟨#[]⟩, .string ⟨#[120]⟩, .slice none 0 0, .int .i64 2, .string ⟨#[112]⟩, .string ⟨#[]⟩, .slice none 0 0, .int .i64 3, .string ⟨#[]⟩, .string ⟨#[60, 60]⟩, .slice none 0 0] 71))
  have HB2 := Lib.hid (show Below w.heap.size w ((w1.alloc (.cells #[.string ⟨#[105, 100]⟩, .string ⟨#[97]⟩] 70)).alloc (.cells #[.int .i64 1, .string ⟨#[112]⟩, .string ⟨#[]⟩, .slice (some ⟨w1.heap.size, 0, none⟩) 1 1, .int .i64 3, .string ⟨#[]⟩, .string ⟨#[120]⟩, .slice none 0 0, .int .i64 2, .string ⟨#[112]⟩, .string ⟨#[]⟩, .slice none 0 0, .int .i64 3, .string ⟨#[]⟩, .string ⟨#[60, 60]⟩, .slice none 0 0] 71)) from below_alloc (below_alloc HB1.out _) _)
  generalize ((w1.alloc (.cells #[.string ⟨#[105, 100]⟩, .string ⟨#[97]⟩] 70)).alloc (.cells #[.int .i64 1, .string ⟨#[112]⟩, .string ⟨#[]⟩, .slice (some ⟨w1.heap.size, 0, none⟩) 1 1, .int .i64 3, .string ⟨#[]⟩, .string ⟨#[120]⟩, .slice none 0 0, .int .i64 2, .string ⟨#[112]⟩, .string ⟨#[]⟩, .slice none 0 0, .int .i64 3, .string ⟨#[]⟩, .string ⟨#[60, 60]⟩, .slice none 0 0] 71)) = W2 at HX1 HX2 HS2 HB2 ⊢
  refine Calls.mono (scrimlaw04_own.calls 6 (fun _ => True) A1 c1 awT awR _ (Kd.S_V HS2.out) aw_own) ?_
  rintro e w3 ⟨v0, rfl, hn, hb⟩
  obtain ⟨A3, c3, rfl, hc3, hr3⟩ := Kd.N_reads hn
  have HR3 := Lib.hid hr3
  have HC3 := Lib.hid hc3
  have HX3 := Lib.hid (HX1.out.below hb HX1.out.lt)
  have HY3 := Lib.hid (HX2.out.below hb HX2.out.lt)
  have HB3 := Lib.hid (HB2.out.trans (hb.mono HB2.out.size))
  clear hn hb hr3 hc3 HX1 HX2 HS2 HS1
  go_wp2_with fail
  refine Calls.mono (scrimref04_Same.calls 12 A3 c3 awR (some ⟨w1.heap.size + 1, 0, none⟩) 4 awR true _ HR3.out HC3.out (want_reads HX3.out HY3.out) (by decide) aw_same) ?_
  rintro e w4 ⟨rfl, hb⟩
  have HB4 := Lib.hid (HB3.out.trans (hb.mono HB3.out.size))
  clear hb
  go_wp2_with fail
  refine Calls.mono (token_Name.calls ⟨#[97, 45, 49]⟩ true _ aw_name1) ?_
  rintro e w5 ⟨rfl, hb⟩
  have HB5 := Lib.hid (HB4.out.trans (hb.mono HB4.out.size))
  clear hb
  go_wp2_with fail
  refine Calls.mono (token_Name.calls ⟨#[65]⟩ false _ aw_name2) ?_
  rintro e w6 ⟨rfl, hb⟩
  have HB6 := Lib.hid (HB5.out.trans (hb.mono HB5.out.size))
  clear hb
  go_wp2_with fail
  refine Calls.mono (token_Tell.calls _ _ _ aw_tell) ?_
  rintro e w7 ⟨rfl, hb⟩
  have HB7 := Lib.hid (HB6.out.trans (hb.mono HB6.out.size))
  clear hb
  go_wp2_with fail
  refine Calls.mono (token_Sign.calls _ _ _ _ aw_sign) ?_
  rintro e w8 ⟨rfl, hb⟩
  have HB8 := Lib.hid (HB7.out.trans (hb.mono HB7.out.size))
  clear hb
  go_wp2_with fail
  go_ret
  exact ⟨rfl, HB8.out⟩
def scrimlaw04_awake.f : Option Bool := some true
end Go.Proofs.YtkjgnkmnngaioaaGreat.Q
namespace Go.Proofs.YtkjgnkmnngaioaaGreat.Q
open Go.RowKit Go.Proofs.YtkjgnkmnngaioaaGreatW.PrintWords Go.Proofs.YtkjgnkmnngaioaaGreatW.PrintLast Go.Proofs.YtkjgnkmnngaioaaGreatW.PrintMore
set_option linter.unusedVariables false
theorem sa_self {l : List S70} (hl : l.length ≤ 1000000) : ∀ (f i : Nat), i ≤ l.length → l.length - i < f → scrimref04_SameAttrs.l0 f l l (i : Int) = some true
  | 0, i, _, h => absurd h (Nat.not_lt_zero _)
  | f + 1, i, h0, h => by
    unfold scrimref04_SameAttrs.l0
    by_cases hi : i < l.length
    · rw [if_pos (by omega), if_pos (by omega), if_pos (by omega), if_neg (by simp), IntWalk.wrap64_in _ (by omega), show (i : Int) + 1 = ((i + 1 : Nat) : Int) by omega]
      exact sa_self hl f (i + 1) (by omega) (by omega)
    · rw [if_neg (by omega)]
theorem sa_f {l : List S70} (hl : l.length ≤ 1000000) {k : Nat} (hk : l.length < k) : scrimref04_SameAttrs.f k l l = some true := by
  unfold scrimref04_SameAttrs.f
  rw [if_pos rfl]
  exact sa_self hl k 0 (Nat.zero_le _) (by omega)
theorem sm_self {l : List S71} {m : Nat} (hl : l.length ≤ 1000000) (hm : m ≤ 1000000) (ha : ∀ x ∈ l, x.f3.length ≤ m) : ∀ (f i : Nat), i ≤ l.length → l.length - i + m + 1 < f → scrimref04_Same.l0 f l l (i : Int) = some true
  | 0, i, _, h => absurd h (Nat.not_lt_zero _)
  | f + 1, i, h0, h => by
    unfold scrimref04_Same.l0
    by_cases hi : i < l.length
    · have hx : rd_T71 l (i : Int) ∈ l := by
        unfold rd_T71
        rw [Int.toNat_natCast, List.getD_eq_getElem?_getD, List.getElem?_eq_getElem hi]
        exact List.getElem_mem hi
      have h3 := ha _ hx
      rw [if_pos (by omega), if_pos (by omega), if_pos (by omega), if_pos rfl, if_pos rfl, if_pos rfl, sa_f (by omega) (by omega), Option.bind_some, if_pos rfl, IntWalk.wrap64_in _ (by omega), show (i : Int) + 1 = ((i + 1 : Nat) : Int) by omega]
      exact sm_self hl hm ha f (i + 1) (by omega) (by omega)
    · rw [if_neg (by omega)]
theorem sm_f {l : List S71} {m : Nat} (hl : l.length ≤ 1000000) (hm : m ≤ 1000000) (ha : ∀ x ∈ l, x.f3.length ≤ m) {k : Nat} (hk : l.length + m + 1 < k) : scrimref04_Same.f k l l = some true := by
  unfold scrimref04_Same.f
  rw [if_pos rfl]
  exact sm_self hl hm ha k 0 (Nat.zero_le _) (by omega)
def toR (x : S46) : S71 := ⟨x.f0, x.f1, x.f2, x.f3⟩
theorem ow_self {l : List S46} (hl : l.length ≤ 1000000) : ∀ (f i : Nat), i ≤ l.length → l.length - i < f → scrimlaw04_own.l0 f ((l.take i).map toR) l (l.length : Int) (i : Int) = some (l.map toR)
  | 0, i, _, h => absurd h (Nat.not_lt_zero _)
  | f + 1, i, h0, h => by
    unfold scrimlaw04_own.l0
    by_cases hi : i < l.length
    · have ht : (l.take i).map toR ++ [toR (rd_T46 l (i : Int))] = (l.take (i + 1)).map toR := by
        unfold rd_T46
        rw [Int.toNat_natCast, List.getD_eq_getElem?_getD, List.getElem?_eq_getElem hi, List.take_succ_eq_append_getElem hi, List.map_append]
        rfl
      rw [if_pos (by omega), if_pos (by omega), if_pos (by omega), if_pos (by rw [List.length_map, List.length_take]; omega), IntWalk.wrap64_in _ (by omega), show (i : Int) + 1 = ((i + 1 : Nat) : Int) by omega]
      have h2 := ow_self hl f (i + 1) (by omega) (by omega)
      rw [← ht] at h2
      exact h2
    · rw [if_neg (by omega), show i = l.length by omega, List.take_length]
theorem ow_f {l : List S46} (hl : l.length ≤ 1000000) {k : Nat} (hk : l.length < k) : scrimlaw04_own.f k l = some (l.map toR) := ow_self hl k 0 (Nat.zero_le _) (by omega)
end Go.Proofs.YtkjgnkmnngaioaaGreat.Q
namespace Go.Proofs.YtkjgnkmnngaioaaGreat.Q
open Go.RowKit Go.Proofs.YtkjgnkmnngaioaaGreat.Mem Go.Proofs.YtkjgnkmnngaioaaGreatW.PrintWords Go.Proofs.YtkjgnkmnngaioaaGreatW.PrintLast Go.Proofs.YtkjgnkmnngaioaaGreatW.PrintMore
set_option linter.unusedVariables false
set_option linter.unusedSimpArgs false
theorem opF_clF {m : List UInt8} {r : Nat × List S70 × Nat} (h : opF m = some r) : clF m = none := by
  unfold opF at h
  cases hn : nmF (m.drop 1) with
  | none => rw [hn] at h; cases h
  | some k =>
    have hns := nmF_some hn
    unfold clF
    by_cases h2 : m.length < 2
    · rw [if_pos h2]
    · rw [if_neg h2]
      have h3 : (m.drop 1).headD 0 = m.getD 1 0 := by
        rw [List.headD_eq_head?_getD, List.head?_drop, List.getD_eq_getElem?_getD]
      have h4 := hns.2.2.2.2
      rw [h3] at h4
      rw [if_pos (fun h5 => by rw [h5] at h4; revert h4; decide)]
theorem opF_le {m : List UInt8} {k : Nat} {as_ : List S70} {u : Nat} (h : opF m = some (k, as_, u)) : u ≤ m.length ∧ 0 < u := by
  unfold opF at h
  split at h
  · cases h
  · obtain ⟨r, hr, he⟩ := Option.map_eq_some_iff.1 h
    have := opL_le hr
    obtain ⟨r1, r2⟩ := r
    injection he with he1 he2
    injection he2 with he2 he3
    subst he3
    exact this
theorem opL_len {l : List UInt8} : ∀ {f o : Nat} {as_ : List S70} {r : List S70 × Nat}, opL l f o as_ = some r → as_.length ≤ o → r.1.length ≤ r.2
  | 0, _, _, _, h, _ => by cases h
  | f + 1, o, as_, r, h, ha => by
    rw [opL] at h
    split at h
    · injection h with h
      subst h
      dsimp only
      omega
    · split at h
      · cases h
      · rename_i k hk
        have := (nmF_some hk).2.1
        split at h
        · cases h
        · split at h
          · exact opL_len h (by have := addA_len as_ (st (lows ((l.drop (o + spLen (l.drop o))).take k))) (st (tellF (st ‹List UInt8›) 0)); omega)
          · split at h
            · cases h
            · exact opL_len h (by have := addA_len as_ (st (lows ((l.drop (o + spLen (l.drop o))).take k))) (st []); omega)
theorem tkF_len {m : List UInt8} {t : S46} {u : Nat} (h : tkF m = some (t, u)) : t.f3.length ≤ m.length := by
  unfold tkF at h
  split at h
  · injection h with h
    injection h with h1 h2
    subst h1
    exact Nat.zero_le _
  · split at h
    · rename_i k as_ u' ho
      injection h with h
      injection h with h1 h2
      subst h1
      have hu := opF_le ho
      unfold opF at ho
      split at ho
      · cases ho
      · obtain ⟨r, hr, he⟩ := Option.map_eq_some_iff.1 ho
        have := opL_len hr (Nat.zero_le _)
        obtain ⟨r1, r2⟩ := r
        injection he with he1 he2
        injection he2 with he2 he3
        subst he3 he2
        dsimp only at this ⊢
        omega
    · cases h
theorem rdL_few {l : List UInt8} {n : Nat} : ∀ (f o : Nat) (ts : List S46) (tx : List UInt8), l.length ≤ n → (∀ x ∈ ts, x.f3.length ≤ n) → ∀ x ∈ rdL l f o ts tx, x.f3.length ≤ n
  | 0, o, ts, tx, hn, h => by
    rw [rdL]
    intro x hx
    unfold endT at hx
    split at hx
    · exact h x hx
    · rcases List.mem_append.1 hx with hx | hx
      · exact h x hx
      · rw [List.mem_singleton.1 hx]; exact Nat.zero_le _
  | f + 1, o, ts, tx, hn, h => by
    have he : ∀ x ∈ endT ts tx, x.f3.length ≤ n := by
      intro x hx
      unfold endT at hx
      split at hx
      · exact h x hx
      · rcases List.mem_append.1 hx with hx | hx
        · exact h x hx
        · rw [List.mem_singleton.1 hx]; exact Nat.zero_le _
    rw [rdL]
    cases l[o]? with
    | none => exact he
    | some c =>
      dsimp only
      split
      · cases ht : tkF (l.drop o) with
        | none => exact rdL_few f _ _ _ hn h
        | some r =>
          obtain ⟨t, u⟩ := r
          dsimp only
          refine rdL_few f _ _ _ hn (fun x hx => ?_)
          rcases List.mem_append.1 hx with hx | hx
          · exact he x hx
          · rw [List.mem_singleton.1 hx]
            have := tkF_len ht
            rw [List.length_drop] at this
            omega
      · exact rdL_few f _ _ _ hn h
theorem endT_map {ts : List S46} {tx : List UInt8} : (endT ts tx).map toR = if tx = [] then ts.map toR else ts.map toR ++ [⟨3, ⟨#[]⟩, st (tellL tx), []⟩] := by
  unfold endT
  split
  · rfl
  · rw [List.map_append, tellF_st]; rfl
/-- Behind what is taken (or at the end). -/
theorem rd_put {s : ByteArray} (hs : s.size ≤ 100000) {ts : List S46} {from_ o : Nat} (hf : from_ ≤ o) (ho : o < s.size) (ht : ts.length ≤ 1000000) {t : S46} {x8 : Nat} {r : List S71 × Int}
    (h : Ev (fun k => scrimref04_Read.l0 k s ((endT ts ((s.data.toList.drop from_).take (o - from_)) ++ [t]).map toR) (x8 : Int) (x8 : Int)) r) :
    Ev (fun k => scrimref04_Read.j1 k s (ts.map toR) (from_ : Int) (o : Int) (x8 : Int) t.f0 t.f1 t.f2 t.f3) r := by
  refine Ev.step (fun k => by rw [scrimref04_Read.j1]) ?_
  rw [List.map_append, endT_map] at h
  by_cases hlt : from_ < o
  · have hne : (s.data.toList.drop from_).take (o - from_) ≠ [] := by
      intro e
      have := congrArg List.length e
      rw [List.length_take, List.length_drop, len_size] at this
      simp at this
      omega
    rw [if_neg hne] at h
    refine ev_pos (by omega) (ev_pos (by omega) (ev_pos (by omega) (ev_pos (by omega) ?_)))
    rw [Int.toNat_natCast, Int.toNat_natCast, ext_st]
    refine Ev.bind (tell_f (s := st ((s.data.toList.drop from_).take (o - from_))) (by rw [st_size, List.length_take]; omega)) ?_
    rw [st_list]
    refine ev_pos (by rw [List.length_map]; omega) (ev_bind1 rfl (ev_neg (by omega) (ev_pos (by rw [List.length_append, List.length_map]; simp; omega) ?_)))
    exact h
  · have he : (s.data.toList.drop from_).take (o - from_) = [] := by rw [show o - from_ = 0 by omega, List.take_zero]
    rw [if_pos he] at h
    refine ev_neg (by omega) (ev_neg (by omega) (ev_pos (by rw [List.length_map]; omega) ?_))
    exact h
theorem rd_end {s : ByteArray} (hs : s.size ≤ 100000) {ts : List S46} {from_ : Nat} (hf : from_ ≤ s.size) (ht : ts.length ≤ 1000000) {x8 k0 : Int} {n t : ByteArray} {as_ : List S70} :
    Ev (fun k => scrimref04_Read.j1 k s (ts.map toR) (from_ : Int) (s.size : Int) x8 k0 n t as_) ((endT ts ((s.data.toList.drop from_).take (s.size - from_))).map toR, (0 : Int)) := by
  refine Ev.step (fun k => by rw [scrimref04_Read.j1]) ?_
  rw [endT_map]
  by_cases hlt : from_ < s.size
  · have hne : (s.data.toList.drop from_).take (s.size - from_) ≠ [] := by
      intro e
      have := congrArg List.length e
      rw [List.length_take, List.length_drop, len_size] at this
      simp at this
      omega
    rw [if_neg hne]
    refine ev_pos (by omega) (ev_pos (by omega) (ev_pos (by omega) (ev_pos (by omega) ?_)))
    rw [Int.toNat_natCast, Int.toNat_natCast, ext_st]
    refine Ev.bind (tell_f (s := st ((s.data.toList.drop from_).take (s.size - from_))) (by rw [st_size, List.length_take]; omega)) ?_
    rw [st_list]
    exact ev_pos (by rw [List.length_map]; omega) (ev_bind1 rfl (ev_pos rfl (ev_one rfl)))
  · have he : (s.data.toList.drop from_).take (s.size - from_) = [] := by rw [show s.size - from_ = 0 by omega, List.take_zero]
    rw [if_pos he]
    exact ev_neg (by omega) (ev_pos rfl (ev_one rfl))
theorem take_on {l : List UInt8} {a o : Nat} {c : UInt8} {r : List UInt8} (ha : a ≤ o) (h : l.drop o = c :: r) : (l.drop a).take (o + 1 - a) = (l.drop a).take (o - a) ++ [c] := by
  have h1 : (l.drop a).drop (o - a) = c :: r := by rw [List.drop_drop, show a + (o - a) = o by omega, h]
  rw [show o + 1 - a = o - a + 1 by omega]
  exact take_more h1
theorem rd_on {s : ByteArray} (hs : s.size ≤ 100000) : ∀ (f o : Nat) (ts : List S46) (from_ : Nat), s.size - o < f → o ≤ s.size → from_ ≤ o → ts.length ≤ 2 * o →
    Ev (fun k => scrimref04_Read.l0 k s (ts.map toR) (from_ : Int) (o : Int)) ((rdL s.data.toList f o ts ((s.data.toList.drop from_).take (o - from_))).map toR, (0 : Int))
  | 0, o, ts, from_, hf, _, _, _ => absurd hf (Nat.not_lt_zero _)
  | f + 1, o, ts, from_, hf, ho, hfr, ht => by
    refine Ev.step (fun k => by rw [scrimref04_Read.l0]) ?_
    refine ev_pos (by omega) ?_
    rw [rdL]
    by_cases hlt : o < s.size
    · refine ev_pos (by omega) ?_
      obtain ⟨c, hc, hb⟩ := drop_at (s := s) hlt
      have hg : s.data.toList[o]? = some c := by rw [← List.head?_drop, hc]; rfl
      rw [hg]
      dsimp only
      refine Ev.bind (opening_f hs hlt) ?_
      have next : Ev (fun k => scrimref04_Read.l0 k s (ts.map toR) (from_ : Int) (wrap64 ((o : Int) + 1))) ((rdL s.data.toList f (o + 1) ts ((s.data.toList.drop from_).take (o - from_) ++ [c])).map toR, (0 : Int)) := by
        rw [w_one (by omega), ← take_on hfr hc]
        exact rd_on hs f (o + 1) ts from_ (by omega) (by omega) (by omega) (by omega)
      have some_ : ∀ (t : S46) (u : Nat), tkF (s.data.toList.drop o) = some (t, u) → Ev (fun k => scrimref04_Read.j1 k s (ts.map toR) (from_ : Int) (o : Int) ((o + u : Nat) : Int) t.f0 t.f1 t.f2 t.f3) ((rdL s.data.toList f (o + u) (endT ts ((s.data.toList.drop from_).take (o - from_)) ++ [t]) []).map toR, (0 : Int)) := by
        intro t u htk
        have hu := tkF_le htk
        rw [List.length_drop, len_size] at hu
        refine rd_put hs hfr hlt (by omega) ?_
        have hel := endT_len ts ((s.data.toList.drop from_).take (o - from_))
        have h := rd_on hs f (o + u) (endT ts ((s.data.toList.drop from_).take (o - from_)) ++ [t]) (o + u) (by omega) (by omega) (Nat.le_refl _) (by rw [List.length_append]; simp; omega)
        rw [Nat.sub_self, List.take_zero] at h
        exact h
      by_cases h60 : c = 60
      · have hh : (s.data.toList.drop o).head? = some 60 := by rw [hc, h60]; rfl
        rw [if_pos h60]
        cases hop : opF (s.data.toList.drop o) with
        | some r =>
          obtain ⟨k, as_, u⟩ := r
          have htk : tkF (s.data.toList.drop o) = some (⟨1, st (lows (((s.data.toList.drop o).drop 1).take k)), ⟨#[]⟩, as_⟩, u) := by unfold tkF; rw [opF_clF hop, hop]
          have hu := tkF_le htk
          have e : opP o (s.data.toList.drop o) = (1, st (lows (((s.data.toList.drop o).drop 1).take k)), ⟨#[]⟩, as_, ((o + u : Nat) : Int)) := by unfold opP; rw [if_pos hh, hop]
          rw [e, htk]
          dsimp only
          refine ev_neg (by omega) ?_
          exact some_ _ _ htk
        | none =>
          have e : opP o (s.data.toList.drop o) = noT := by unfold opP; rw [if_pos hh, hop]
          rw [e]
          refine ev_pos rfl ?_
          refine Ev.bind (closing_f hs hlt) ?_
          cases hcl : clF (s.data.toList.drop o) with
          | some r =>
            obtain ⟨k, u⟩ := r
            have htk : tkF (s.data.toList.drop o) = some (⟨2, st (lows (((s.data.toList.drop o).drop 2).take k)), ⟨#[]⟩, []⟩, u) := by unfold tkF; rw [hcl]
            have hu := tkF_le htk
            have e : clP o (s.data.toList.drop o) = (2, st (lows (((s.data.toList.drop o).drop 2).take k)), ⟨#[]⟩, [], ((o + u : Nat) : Int)) := by unfold clP; rw [if_pos hh, hcl]
            rw [e, htk]
            dsimp only
            refine ev_neg (by omega) ?_
            exact some_ _ _ htk
          | none =>
            have e : clP o (s.data.toList.drop o) = noT := by unfold clP; rw [if_pos hh, hcl]
            have htk : tkF (s.data.toList.drop o) = none := by unfold tkF; rw [hcl, hop]
            rw [e, htk]
            exact ev_pos rfl next
      · have hh : (s.data.toList.drop o).head? ≠ some 60 := by rw [hc]; intro h; injection h with h; exact h60 h
        rw [if_neg h60]
        have e : opP o (s.data.toList.drop o) = noT := by unfold opP; rw [if_neg hh]
        rw [e]
        refine ev_pos rfl ?_
        refine Ev.bind (closing_f hs hlt) ?_
        have e : clP o (s.data.toList.drop o) = noT := by unfold clP; rw [if_neg hh]
        rw [e]
        exact ev_pos rfl next
    · have hoe : o = s.size := by omega
      subst hoe
      rw [List.getElem?_eq_none (by rw [len_size]; omega)]
      dsimp only
      exact ev_neg (by omega) (rd_end hs hfr (by omega))
theorem read_f {s : ByteArray} (hs : s.size ≤ 4000) : Ev (fun k => scrimref04_Read.f k s) ((readF s.data.toList).map toR, (0 : Int)) := by
  unfold scrimref04_Read.f
  refine ev_neg (by omega) ?_
  have h := rd_on (s := s) (by omega) (s.data.toList.length + 1) 0 [] 0 (by rw [len_size]; omega) (Nat.zero_le _) (Nat.le_refl _) (Nat.zero_le _)
  rw [Nat.sub_self, List.take_zero] at h
  exact h
theorem rdL_len {l : List UInt8} : ∀ (f o : Nat) (ts : List S46) (tx : List UInt8), (rdL l f o ts tx).length ≤ ts.length + 2 * f + 1
  | 0, o, ts, tx => by rw [rdL]; have := endT_len ts tx; omega
  | f + 1, o, ts, tx => by
    have he := endT_len ts tx
    rw [rdL]
    cases l[o]? with
    | none => dsimp only; omega
    | some c =>
      dsimp only
      split
      · cases ht : tkF (l.drop o) with
        | none => have := rdL_len (l := l) f (o + 1) ts (tx ++ [c]); dsimp only; omega
        | some r =>
          obtain ⟨t, u⟩ := r
          have := rdL_len (l := l) f (o + u) (endT ts tx ++ [t]) []
          rw [List.length_append] at this
          simp at this
          dsimp only
          omega
      · have := rdL_len (l := l) f (o + 1) ts (tx ++ [c]); omega
/-- All that the law's calls tell, where the text is not too long. -/
structure Told (a0 : ByteArray) (a1 : Bool) where
  l : List S46
  m : List S71
  e : Int
  k1 : Nat
  k2 : Nat
  k3 : Nat
  k4 : Nat
  k5 : Nat
  k6 : Nat
  n : Bool
  t : ByteArray
  g : ByteArray
  hl : token_Read.f a0 = some (l, e)
  hm : scrimref04_Read.f k1 a0 = some (m, e)
  ho : scrimlaw04_own.f k2 l = some m
  hs : scrimref04_Same.f k3 m m = some true
  hn : token_Name.f a0 = some n
  hn' : scrimref04_Name.f k4 a0 = some n
  ht : token_Tell.f a0 = some t
  ht' : scrimref04_Tell.f k5 a0 = some t
  hg : token_Sign.f a0 a1 = some g
  hg' : scrimref04_Sign.f k6 a0 a1 = some g
theorem told (a0 : ByteArray) (a1 : Bool) (h5 : a0.size ≤ 5000) : Nonempty (Told a0 a1) := by
  obtain ⟨k4, h4⟩ := (name_f (s := a0) (by omega)).rounds
  obtain ⟨k5, h5'⟩ := (tell_f (s := a0) (by omega)).rounds
  obtain ⟨k6, h6⟩ := (sign_f (s := a0) (by omega) a1).rounds
  have hn : token_Name.f a0 = some (nameB a0.data.toList) := by unfold token_Name.f; rw [if_pos (by omega)]
  have ht : token_Tell.f a0 = some (st (tellL a0.data.toList)) := by unfold token_Tell.f; rw [if_pos (by omega), tellF_list]
  have hg : token_Sign.f a0 a1 = some (st (signF (sgn a1) a0.data.toList)) := by unfold token_Sign.f; rw [if_pos (by omega)]
  by_cases h : a0.size ≤ 4000
  · obtain ⟨k1, h1⟩ := (read_f h).rounds
    have hlen : (readF a0.data.toList).length ≤ 1000000 := by
      have := rdL_len (l := a0.data.toList) (a0.data.toList.length + 1) 0 [] []
      unfold readF
      rw [len_size] at this ⊢
      simp at this
      omega
    have hfew : ∀ x ∈ (readF a0.data.toList).map toR, x.f3.length ≤ 4000 := by
      intro x hx
      obtain ⟨y, hy, rfl⟩ := List.mem_map.1 hx
      exact rdL_few (l := a0.data.toList) (n := 4000) _ _ [] [] (by rw [len_size]; exact h) (fun x hx => by cases hx) y hy
    exact ⟨⟨_, _, 0, k1, _, _, k4, k5, k6, _, _, _, by unfold token_Read.f; rw [if_pos (by omega), if_pos h], h1, ow_f hlen (Nat.lt_succ_self _), sm_f (m := 4000) (by rw [List.length_map]; exact hlen) (by omega) hfew (Nat.lt_succ_self _), hn, h4, ht, h5', hg, h6⟩⟩
  · exact ⟨⟨[], [], 3, 0, _, _, k4, k5, k6, _, _, _, by unfold token_Read.f; rw [if_pos (by omega), if_neg h], by unfold scrimref04_Read.f; rw [if_pos (by omega)], ow_f (l := []) (Nat.zero_le _) (Nat.lt_succ_self _), sm_f (l := []) (m := 0) (Nat.zero_le _) (Nat.zero_le _) (fun x hx => by cases hx) (Nat.lt_succ_self _), hn, h4, ht, h5', hg, h6⟩⟩
set_option maxRecDepth 100000 in
set_option maxHeartbeats 4000000 in
theorem tells_walk (a0 : ByteArray) (a1 : Bool) (w : World) (hs : a0.size ≤ 140737488351232) :
    Calls Tryz.prog 3 #[.string a0, .bool a1] w fun e w' => e = .returned (.bool true) ∧ Below w.heap.size w w' := by
  by_cases h5 : 5000 < a0.size
  · have v1 : decide ((5000 : Int) < (a0.size : Int)) = true := by simp; omega
    go_enter Tryz.func3, Tryz.ntmps3
    go_wp2_with (go_at_call 12; refine (awake_calls _).mono ?_; rintro e w0 ⟨rfl, hb⟩; have HB0 := Lib.hid hb; clear hb)
    go_ret
    exact ⟨rfl, HB0.out⟩
  · obtain ⟨T⟩ := told a0 a1 (by omega)
    have v1 : ¬ ((5000 : Int) < (a0.size : Int)) := by omega
    obtain ⟨l, m, er, k1, k2, k3, k4, k5, k6, n, t, g, hl, hm, ho, hsm, hn, hn', ht, ht', hg, hg'⟩ := T
    have HL := Lib.hid hl; have HM := Lib.hid hm; have HO := Lib.hid ho; have HSM := Lib.hid hsm; have HN := Lib.hid hn; have HN' := Lib.hid hn'; have HT := Lib.hid ht; have HT' := Lib.hid ht'; have HG := Lib.hid hg; have HG' := Lib.hid hg'
    clear hl hm ho hsm hn hn' ht ht' hg hg'
    go_enter Tryz.func3, Tryz.ntmps3
    go_wp2_with (go_at_call 12; refine (awake_calls _).mono ?_; rintro e w0 ⟨rfl, hb⟩; have HB0 := Lib.hid hb; clear hb)
    refine Calls.mono (token_Read.calls a0 l er _ HL.out) ?_
    rintro e w1 ⟨v, rfl, hv, hb⟩
    have HB1 := Lib.hid (HB0.out.trans (hb.mono HB0.out.size))
    have HS1 := Lib.hid hv
    obtain ⟨A1, c1, rfl⟩ := Kd.S_slice hv
    clear hv hb HB0
    go_wp2_with fail
    refine Calls.mono (scrimref04_Read.calls k1 a0 m er _ HM.out) ?_
    rintro e w2 ⟨v, rfl, hv, hb⟩
    have HB2 := Lib.hid (HB1.out.trans (hb.mono HB1.out.size))
    have HS2 := Lib.hid (Kd.S_below HS1.out hb)
    obtain ⟨A2, c2, rfl, hc2, hr2⟩ := Kd.S_reads hv
    have HC2 := Lib.hid hc2
    have HR2 := Lib.hid hr2
    clear hv hb HB1 HS1 hc2 hr2
    go_wp2_with fail
    refine Calls.mono (scrimlaw04_own.calls k2 (fun _ => True) A1 c1 l m _ (Kd.S_V HS2.out) HO.out) ?_
    rintro e w3 ⟨v, rfl, hv, hb⟩
    have HB3 := Lib.hid (HB2.out.trans (hb.mono HB2.out.size))
    have HR2' := Lib.hid (Kd.C_below HR2.out hb)
    obtain ⟨A3, c3, rfl, hc3, hr3⟩ := Kd.N_reads hv
    have HC3 := Lib.hid hc3
    have HR3 := Lib.hid hr3
    clear hv hb HB2 HR2 hc3 hr3
    go_wp2_with fail
    refine Calls.mono (scrimref04_Same.calls k3 A3 c3 m A2 c2 m true _ HR3.out HC3.out HR2'.out HC2.out HSM.out) ?_
    rintro e w4 ⟨rfl, hb⟩
    have HB4 := Lib.hid (HB3.out.trans (hb.mono HB3.out.size))
    clear hb HB3
    go_wp2_with fail
    refine Calls.mono (token_Name.calls a0 n _ HN.out) ?_
    rintro e w5 ⟨rfl, hb⟩
    have HB5 := Lib.hid (HB4.out.trans (hb.mono HB4.out.size))
    clear hb HB4
    go_wp2_with fail
    refine Calls.mono (scrimref04_Name.calls k4 a0 n _ HN'.out) ?_
    rintro e w6 ⟨rfl, hb⟩
    have HB6 := Lib.hid (HB5.out.trans (hb.mono HB5.out.size))
    clear hb HB5
    go_wp2_with fail
    refine Calls.mono (token_Tell.calls a0 t _ HT.out) ?_
    rintro e w7 ⟨rfl, hb⟩
    have HB7 := Lib.hid (HB6.out.trans (hb.mono HB6.out.size))
    clear hb HB6
    go_wp2_with fail
    refine Calls.mono (scrimref04_Tell.calls k5 a0 t _ HT'.out) ?_
    rintro e w8 ⟨rfl, hb⟩
    have HB8 := Lib.hid (HB7.out.trans (hb.mono HB7.out.size))
    clear hb HB7
    go_wp2_with fail
    refine Calls.mono (token_Sign.calls a0 a1 g _ HG.out) ?_
    rintro e w9 ⟨rfl, hb⟩
    have HB9 := Lib.hid (HB8.out.trans (hb.mono HB8.out.size))
    clear hb HB8
    go_wp2_with fail
    refine Calls.mono (scrimref04_Sign.calls k6 a0 a1 g _ HG'.out) ?_
    rintro e w10 ⟨rfl, hd⟩
    have HBX := Lib.hid (show Below w.heap.size w w10 from by obtain ⟨nn, rfl⟩ := hd.out; exact pw_below_drewN HB9.out nn)
    clear hd HB9
    go_wp2_with fail
    go_ret
    exact ⟨rfl, HBX.out⟩
end Go.Proofs.YtkjgnkmnngaioaaGreat.Q
namespace Go.Proofs.YtkjgnkmnngaioaaGreat.tokenTells
open Go.ChangeShapes Go.WideShapes Go.ChangeAt Go.RowKit
open Go.ChangeMaps (open_string shut_string)
set_option linter.unusedVariables false
theorem own : ownKnob Tryz.prog.godebug = none := by kernel_rfl
set_option maxRecDepth 100000 in
theorem lifted (os : Os) (started : os.Started) (H : Type) (enc : TypeId × Value → H) :
    ReturnsInHanded {} Tryz.checked os 3 .any (Rows.tokenTellsSpec.pre6 enc Tryz.prog Tryz.f3 Rows.tokenTellsRow.domain false) (Rows.tokenTellsSpec.post enc Tryz.prog Tryz.f3 false true false false) := by
  refine returnsInHanded_of_change_sized (C := Tryz.checked) own started (by kernel_rfl) Tryz.func3
    (ChangeSpec.witness6 (enc := enc) (C := Tryz.checked) false ⟨#[], #[.string ByteArray.empty, .bool false], []⟩ 8 (by kernel_rfl) (by kernel_rfl) (by kernel_rfl) (by kernel_rfl)) ?_
  intro W base args ds gs before hval0 hW hcnd hsz0 _
  have hsz : (DataW.weightsEach Tryz.prog (Tryz.f3.params.toList ++ Rows.tokenTellsSpec.plain.varTypes Tryz.prog) (ds ++ gs)).all (· ≤ reachBytes) = true := hsz0
  have hval : ∀ (j : Nat) t v, Tryz.f3.params[j]? = some t → args[j]? = some v → Value.okWide Tryz.prog W .any base t v := hval0
  have hW' := hW
  obtain ⟨p, q, hA0, hV, rfl, hfz, hnd⟩ := hW
  have hA : DataW.TrodAll enc Tryz.prog W 0 (fun _ => true) true Tryz.f3.params.toList args.toList ds p := hA0
  rw [Tryz.params3] at hA hval hsz
  obtain ⟨v0, vs0, d0, ds0, p0, q0, hargs, rfl, rfl, h0, r0⟩ := trodAll_cons hA
  obtain ⟨v1, vs1, d1, ds1, p1, q1, rfl, rfl, rfl, h1, r1⟩ := trodAll_cons r0
  obtain ⟨rfl, rfl, rfl⟩ := trodAll_nil r1
  obtain rfl : args = #[v0, v1] := by cases args; simp_all
  obtain ⟨rfl, rfl⟩ := trodVars_none hV
  obtain ⟨a0, rfl, rfl, rfl, y0⟩ := open_string Tryz.underlying9 (hval 0 9 v0 rfl rfl) h0
  have w0 : a0.size ≤ 140737488351232 := by
    have z := sized_string hsz (j := 0) (t := 9) rfl rfl
    rw [Array.length_toList] at z
    exact z
  obtain ⟨a1, rfl, rfl, rfl⟩ := open_bool Tryz.underlying4 (hval 1 4 v1 rfl rfl) h1
  clear hA0 hval0 hsz0 hsz
  refine (Q.tells_walk a0 a1 W w0).mono fun e W' ⟨he, bel⟩ => ?_
  subst he
  exact ⟨_, rfl, _, _, _, [], _, [], hW', trodAll_mk1 (shut_bool Tryz.underlying4 _), (trodAll_cons_mk (shut_string Tryz.underlying9 y0) (trodAll_cons_mk (shut_bool Tryz.underlying4 _) trodAll_mk0)), rfl, bel.frame _, fun h => by cases h⟩
theorem over : Rows.tokenTellsRow.holds Tryz.pinned (OpenSpec.ofChange Rows.tokenTellsSpec) :=
  OpenClaim.holds_of_wide 3 Tryz.f3 rfl rfl rfl rfl rfl rfl rfl ⟨rfl, rfl, rfl, rfl, rfl⟩ rfl rfl rfl rfl rfl (by kernel_rfl) Tryz.func3 (by kernel_rfl)
    (of_decide_eq_true (by kernel_rfl)) (by unfold Func.isWrapper; first | (rw [if_pos (by decide +kernel)]; kernel_rfl) | (rw [if_neg (by decide +kernel)]; exact ⟨rfl, rfl⟩))
    (fun os started H enc _ => lifted os started H enc)
theorem proved : Rows.TokenTellsSaid := over
end Go.Proofs.YtkjgnkmnngaioaaGreat.tokenTells
namespace Go.Proofs.YtkjgnkmnngaioaaGreat
/-- The row, under a short name, for the claim. -/
theorem tokenTells_holds : Rows.TokenTellsSaid := tokenTells.proved
end Go.Proofs.YtkjgnkmnngaioaaGreat
