/- What the proof of treeMay_holds needs, of the texts that this work has written and of the words that the kit's print lends. -/
import Derived.Test.YtkjgnkmnngaioaaGreatZdi
import Derived.Test.YtkjgnkmnngaioaaGreatZdg
import Derived.Test.YtkjgnkmnngaioaaGreatZdj
namespace Go.Proofs.YtkjgnkmnngaioaaGreat.Q
open Go.RowKit Go.Proofs.YtkjgnkmnngaioaaGreatW.PrintWords Go.Proofs.YtkjgnkmnngaioaaGreatW.PrintLast Go.Proofs.YtkjgnkmnngaioaaGreatW.PrintMore
attribute [local go_sem] max2_int min2_int max_two min_two max_three min_three max_four min_four   -- for this text's walks alone
set_option linter.unusedVariables false
set_option linter.unusedSimpArgs false
def tree_fits.f (a0_0 : Int) (a0_1 : ByteArray) (a0_2 : ByteArray) (l0_3 : List (S70)) (l0_4 : List Int) : Option (Bool) := if a0_1.toList = ([] : List UInt8) then (if a0_2.toList = ([] : List UInt8) then (some false) else (some ((wrap64 ((l0_3.length : Int) + (l0_4.length : Int))) == 0))) else (if a0_1.toList = ([114, 111, 111, 116] : List UInt8) then (some false) else ((token_Name.f a0_1).bind fun t141 => (if t141 = true then (if a0_2.toList = ([] : List UInt8) then ((tree_attrs.f l0_3).bind fun t142 => (if t142 = true then (if a0_1.toList = ([105, 109, 103] : List UInt8) then (some ((l0_4.length : Int) == 0)) else (some true)) else (some false))) else (some false)) else (some false))))
set_option maxHeartbeats 8000000 in
set_option maxRecDepth 100000 in
theorem tree_fits.calls (a0_0 : Int) (a0_1 : ByteArray) (a0_2 : ByteArray) (A0_3 : Option Addr) (c0_3 : Nat) (l0_3 : List (S70)) (A0_4 : Option Addr) (c0_4 : Nat) (l0_4 : List Int) (r : Bool) (w : World) (hr0_3 : Kd.C k70 w A0_3 l0_3.length l0_3) (hc0_3 : l0_3.length ≤ c0_3) (hr0_4 : Kd.C (Kd.int .i64) w A0_4 l0_4.length l0_4) (hc0_4 : l0_4.length ≤ c0_4) (h : tree_fits.f a0_0 a0_1 a0_2 l0_3 l0_4 = some r) :
    Calls Tryz.prog 98 #[.agg #[.int .i64 a0_0, .string a0_1, .string a0_2, .slice A0_3 l0_3.length c0_3, .slice A0_4 l0_4.length c0_4]] w fun e w' => e = .returned (.bool r) ∧ Below w.heap.size w w' := by
  have hu49 := Tryz.underlying49
  have HR0_3 := Aside0.mk hr0_3
  have HC0_3 := Aside0.mk hc0_3
  clear hr0_3 hc0_3
  have HR0_4 := Aside0.mk hr0_4
  have HC0_4 := Aside0.mk hc0_4
  clear hr0_4 hc0_4
  have HB := Aside0.mk (Below.refl w.heap.size w)
  have H : (if a0_1.toList = ([] : List UInt8) then (if a0_2.toList = ([] : List UInt8) then (some false) else (some ((wrap64 ((l0_3.length : Int) + (l0_4.length : Int))) == 0))) else (if a0_1.toList = ([114, 111, 111, 116] : List UInt8) then (some false) else ((token_Name.f a0_1).bind fun t141 => (if t141 = true then (if a0_2.toList = ([] : List UInt8) then ((tree_attrs.f l0_3).bind fun t142 => (if t142 = true then (if a0_1.toList = ([105, 109, 103] : List UInt8) then (some ((l0_4.length : Int) == 0)) else (some true)) else (some false))) else (some false)) else (some false))))) = some r := h
  clear h
  by_cases c2 : a0_1.toList = ([] : List UInt8)
  · rw [if_pos c2] at H
    have c2b0 : (a0_1.toList == ([] : List UInt8)) = true := beq_iff_eq.mpr c2
    have c2b1 : (a0_1.toList != ([] : List UInt8)) = false := bne_eq_false_iff_eq.mpr c2
    clear c2
    by_cases c3 : a0_2.toList = ([] : List UInt8)
    · rw [if_pos c3] at H
      have c3b0 : (a0_2.toList == ([] : List UInt8)) = true := beq_iff_eq.mpr c3
      have c3b1 : (a0_2.toList != ([] : List UInt8)) = false := bne_eq_false_iff_eq.mpr c3
      clear c3
      obtain rfl := Option.some.inj H
      go_enter Tryz.func98, Tryz.ntmps98
      go_wp2_with (first | ((with_reducible refine gate_dst (N := 1) rfl ?_); (try (refine gate_guard (by rfl) ?_; dsimp only)); refine box_event ?hg (N := 1) ?hd (cs := #[.int .i64 a0_0, .string a0_1, .string a0_2, .slice A0_3 l0_3.length c0_3, .slice A0_4 l0_4.length c0_4]) (t := 49) ?hr ?_; (case hd => rfl); (case hg => rfl); (case hr => first | (go_simp; done) | (go_simp; rfl)); intro gb140 hg w4 hbox hb; have n0_ := Aside0.mk (below_step (by repeat (first | (with_reducible first | exact HB.out | apply below_alloc | apply pw_below_drewN | apply below_drew1) | exact HB.out)) hb); have n1_ := Aside0.mk (hbox); have n2_ := Aside0.mk ((by rw [hg]; exact (below_size (by repeat (first | (with_reducible first | exact HB.out | apply below_alloc | apply pw_below_drewN | apply below_drew1) | exact HB.out))) : w.heap.size ≤ gb140)); have n3_ := Aside0.mk ((by rw [hg]; exact (below_size (by repeat (first | (with_reducible first | exact HB.out | apply below_alloc | apply pw_below_drewN | apply below_drew1) | exact HB.out))) : w.heap.size ≤ gb140)); clear HB; have HB := n0_; have BK140 := n1_; have GW140 := n2_; have GE140 := n3_; clear n0_ n1_ n2_ n3_; clear hb hbox hg; have hcz5_0 : w4.cell? ⟨gb140, 0, none⟩ = some (.int .i64 a0_0) := (blk_cell BK140.out 0).trans rfl; have hcz5_1 : w4.cell? ⟨gb140, 1, none⟩ = some (.string a0_1) := (blk_cell BK140.out 1).trans rfl; have hcz5_2 : w4.cell? ⟨gb140, 2, none⟩ = some (.string a0_2) := (blk_cell BK140.out 2).trans rfl; have hcz5_3 : w4.cell? ⟨gb140, 3, none⟩ = some (.slice A0_3 l0_3.length c0_3) := (blk_cell BK140.out 3).trans rfl; have hcz5_4 : w4.cell? ⟨gb140, 4, none⟩ = some (.slice A0_4 l0_4.length c0_4) := (blk_cell BK140.out 4).trans rfl; have hfz5_0 := blk_frozen BK140.out 0; have hfz5_1 := blk_frozen BK140.out 1; have hfz5_2 := blk_frozen BK140.out 2; have hfz5_3 := blk_frozen BK140.out 3; have hfz5_4 := blk_frozen BK140.out 4))
      go_ret
      exact ⟨by first | rfl | (simp [errW_none, errW_some] <;> rfl) | (simp [*, errW_none, errW_some] <;> rfl), by repeat (first | (with_reducible first | exact HB.out | apply below_alloc | apply pw_below_drewN | apply below_drew1 | refine below_set ?_ GE140.out) | exact HB.out)⟩
    · rw [if_neg c3] at H
      have c3b0 : (a0_2.toList == ([] : List UInt8)) = false := beq_eq_false_iff_ne.mpr c3
      have c3b1 : (a0_2.toList != ([] : List UInt8)) = true := bne_iff_ne.mpr c3
      obtain rfl := Option.some.inj H
      go_enter Tryz.func98, Tryz.ntmps98
      go_wp2_with (first | ((with_reducible refine gate_dst (N := 1) rfl ?_); (try (refine gate_guard (by rfl) ?_; dsimp only)); refine box_event ?hg (N := 1) ?hd (cs := #[.int .i64 a0_0, .string a0_1, .string a0_2, .slice A0_3 l0_3.length c0_3, .slice A0_4 l0_4.length c0_4]) (t := 49) ?hr ?_; (case hd => rfl); (case hg => rfl); (case hr => first | (go_simp; done) | (go_simp; rfl)); intro gb140 hg w6 hbox hb; have n0_ := Aside0.mk (below_step (by repeat (first | (with_reducible first | exact HB.out | apply below_alloc | apply pw_below_drewN | apply below_drew1) | exact HB.out)) hb); have n1_ := Aside0.mk (hbox); have n2_ := Aside0.mk ((by rw [hg]; exact (below_size (by repeat (first | (with_reducible first | exact HB.out | apply below_alloc | apply pw_below_drewN | apply below_drew1) | exact HB.out))) : w.heap.size ≤ gb140)); have n3_ := Aside0.mk ((by rw [hg]; exact (below_size (by repeat (first | (with_reducible first | exact HB.out | apply below_alloc | apply pw_below_drewN | apply below_drew1) | exact HB.out))) : w.heap.size ≤ gb140)); clear HB; have HB := n0_; have BK140 := n1_; have GW140 := n2_; have GE140 := n3_; clear n0_ n1_ n2_ n3_; clear hb hbox hg; have hcz7_0 : w6.cell? ⟨gb140, 0, none⟩ = some (.int .i64 a0_0) := (blk_cell BK140.out 0).trans rfl; have hcz7_1 : w6.cell? ⟨gb140, 1, none⟩ = some (.string a0_1) := (blk_cell BK140.out 1).trans rfl; have hcz7_2 : w6.cell? ⟨gb140, 2, none⟩ = some (.string a0_2) := (blk_cell BK140.out 2).trans rfl; have hcz7_3 : w6.cell? ⟨gb140, 3, none⟩ = some (.slice A0_3 l0_3.length c0_3) := (blk_cell BK140.out 3).trans rfl; have hcz7_4 : w6.cell? ⟨gb140, 4, none⟩ = some (.slice A0_4 l0_4.length c0_4) := (blk_cell BK140.out 4).trans rfl; have hfz7_0 := blk_frozen BK140.out 0; have hfz7_1 := blk_frozen BK140.out 1; have hfz7_2 := blk_frozen BK140.out 2; have hfz7_3 := blk_frozen BK140.out 3; have hfz7_4 := blk_frozen BK140.out 4))
      go_ret
      exact ⟨by first | rfl | (simp [errW_none, errW_some] <;> rfl) | (simp [*, errW_none, errW_some] <;> rfl), by repeat (first | (with_reducible first | exact HB.out | apply below_alloc | apply pw_below_drewN | apply below_drew1 | refine below_set ?_ GE140.out) | exact HB.out)⟩
  · rw [if_neg c2] at H
    have c2b0 : (a0_1.toList == ([] : List UInt8)) = false := beq_eq_false_iff_ne.mpr c2
    have c2b1 : (a0_1.toList != ([] : List UInt8)) = true := bne_iff_ne.mpr c2
    by_cases c8 : a0_1.toList = ([114, 111, 111, 116] : List UInt8)
    · rw [if_pos c8] at H
      have c8b0 : (a0_1.toList == ([114, 111, 111, 116] : List UInt8)) = true := beq_iff_eq.mpr c8
      have c8b1 : (a0_1.toList != ([114, 111, 111, 116] : List UInt8)) = false := bne_eq_false_iff_eq.mpr c8
      clear c8
      obtain rfl := Option.some.inj H
      go_enter Tryz.func98, Tryz.ntmps98
      go_wp2_with (first | ((with_reducible refine gate_dst (N := 1) rfl ?_); (try (refine gate_guard (by rfl) ?_; dsimp only)); refine box_event ?hg (N := 1) ?hd (cs := #[.int .i64 a0_0, .string a0_1, .string a0_2, .slice A0_3 l0_3.length c0_3, .slice A0_4 l0_4.length c0_4]) (t := 49) ?hr ?_; (case hd => rfl); (case hg => rfl); (case hr => first | (go_simp; done) | (go_simp; rfl)); intro gb140 hg w9 hbox hb; have n0_ := Aside0.mk (below_step (by repeat (first | (with_reducible first | exact HB.out | apply below_alloc | apply pw_below_drewN | apply below_drew1) | exact HB.out)) hb); have n1_ := Aside0.mk (hbox); have n2_ := Aside0.mk ((by rw [hg]; exact (below_size (by repeat (first | (with_reducible first | exact HB.out | apply below_alloc | apply pw_below_drewN | apply below_drew1) | exact HB.out))) : w.heap.size ≤ gb140)); have n3_ := Aside0.mk ((by rw [hg]; exact (below_size (by repeat (first | (with_reducible first | exact HB.out | apply below_alloc | apply pw_below_drewN | apply below_drew1) | exact HB.out))) : w.heap.size ≤ gb140)); clear HB; have HB := n0_; have BK140 := n1_; have GW140 := n2_; have GE140 := n3_; clear n0_ n1_ n2_ n3_; clear hb hbox hg; have hcz10_0 : w9.cell? ⟨gb140, 0, none⟩ = some (.int .i64 a0_0) := (blk_cell BK140.out 0).trans rfl; have hcz10_1 : w9.cell? ⟨gb140, 1, none⟩ = some (.string a0_1) := (blk_cell BK140.out 1).trans rfl; have hcz10_2 : w9.cell? ⟨gb140, 2, none⟩ = some (.string a0_2) := (blk_cell BK140.out 2).trans rfl; have hcz10_3 : w9.cell? ⟨gb140, 3, none⟩ = some (.slice A0_3 l0_3.length c0_3) := (blk_cell BK140.out 3).trans rfl; have hcz10_4 : w9.cell? ⟨gb140, 4, none⟩ = some (.slice A0_4 l0_4.length c0_4) := (blk_cell BK140.out 4).trans rfl; have hfz10_0 := blk_frozen BK140.out 0; have hfz10_1 := blk_frozen BK140.out 1; have hfz10_2 := blk_frozen BK140.out 2; have hfz10_3 := blk_frozen BK140.out 3; have hfz10_4 := blk_frozen BK140.out 4))
      go_ret
      exact ⟨by first | rfl | (simp [errW_none, errW_some] <;> rfl) | (simp [*, errW_none, errW_some] <;> rfl), by repeat (first | (with_reducible first | exact HB.out | apply below_alloc | apply pw_below_drewN | apply below_drew1 | refine below_set ?_ GE140.out) | exact HB.out)⟩
    · rw [if_neg c8] at H
      have c8b0 : (a0_1.toList == ([114, 111, 111, 116] : List UInt8)) = false := beq_eq_false_iff_ne.mpr c8
      have c8b1 : (a0_1.toList != ([114, 111, 111, 116] : List UInt8)) = true := bne_iff_ne.mpr c8
      replace H := Option.bind_eq_some_iff.mp H
      obtain ⟨t141, A110, H⟩ := H
      replace H : (if t141 = true then (if a0_2.toList = ([] : List UInt8) then ((tree_attrs.f l0_3).bind fun t142 => (if t142 = true then (if a0_1.toList = ([105, 109, 103] : List UInt8) then (some ((l0_4.length : Int) == 0)) else (some true)) else (some false))) else (some false)) else (some false)) = some r := H
      have A11 := Aside0.mk A110
      clear A110
      by_cases c12 : t141 = true
      · subst c12
        have H1 : (if a0_2.toList = ([] : List UInt8) then ((tree_attrs.f l0_3).bind fun t142 => (if t142 = true then (if a0_1.toList = ([105, 109, 103] : List UInt8) then (some ((l0_4.length : Int) == 0)) else (some true)) else (some false))) else (some false)) = some r := by rw [if_pos rfl] at H; exact H
        clear H
        have H := H1
        clear H1
        by_cases c13 : a0_2.toList = ([] : List UInt8)
        · rw [if_pos c13] at H
          have c13b0 : (a0_2.toList == ([] : List UInt8)) = true := beq_iff_eq.mpr c13
          have c13b1 : (a0_2.toList != ([] : List UInt8)) = false := bne_eq_false_iff_eq.mpr c13
          clear c13
          replace H := Option.bind_eq_some_iff.mp H
          obtain ⟨t142, A140, H⟩ := H
          replace H : (if t142 = true then (if a0_1.toList = ([105, 109, 103] : List UInt8) then (some ((l0_4.length : Int) == 0)) else (some true)) else (some false)) = some r := H
          have A14 := Aside0.mk A140
          clear A140
          by_cases c15 : t142 = true
          · subst c15
            have H1 : (if a0_1.toList = ([105, 109, 103] : List UInt8) then (some ((l0_4.length : Int) == 0)) else (some true)) = some r := by rw [if_pos rfl] at H; exact H
            clear H
            have H := H1
            clear H1
            by_cases c16 : a0_1.toList = ([105, 109, 103] : List UInt8)
            · rw [if_pos c16] at H
              have c16b0 : (a0_1.toList == ([105, 109, 103] : List UInt8)) = true := beq_iff_eq.mpr c16
              have c16b1 : (a0_1.toList != ([105, 109, 103] : List UInt8)) = false := bne_eq_false_iff_eq.mpr c16
              clear c16
              obtain rfl := Option.some.inj H
              go_enter Tryz.func98, Tryz.ntmps98
              go_wp2_with (first | ((with_reducible refine gate_dst (N := 1) rfl ?_); (try (refine gate_guard (by rfl) ?_; dsimp only)); refine box_event ?hg (N := 1) ?hd (cs := #[.int .i64 a0_0, .string a0_1, .string a0_2, .slice A0_3 l0_3.length c0_3, .slice A0_4 l0_4.length c0_4]) (t := 49) ?hr ?_; (case hd => rfl); (case hg => rfl); (case hr => first | (go_simp; done) | (go_simp; rfl)); intro gb140 hg w17 hbox hb; have n0_ := Aside0.mk (below_step (by repeat (first | (with_reducible first | exact HB.out | apply below_alloc | apply pw_below_drewN | apply below_drew1) | exact HB.out)) hb); have n1_ := Aside0.mk (hbox); have n2_ := Aside0.mk ((by rw [hg]; exact (below_size (by repeat (first | (with_reducible first | exact HB.out | apply below_alloc | apply pw_below_drewN | apply below_drew1) | exact HB.out))) : w.heap.size ≤ gb140)); have n3_ := Aside0.mk ((by rw [hg]; exact (below_size (by repeat (first | (with_reducible first | exact HB.out | apply below_alloc | apply pw_below_drewN | apply below_drew1) | exact HB.out))) : w.heap.size ≤ gb140)); clear HB; have HB := n0_; have BK140 := n1_; have GW140 := n2_; have GE140 := n3_; clear n0_ n1_ n2_ n3_; clear hb hbox hg; have hcz18_0 : w17.cell? ⟨gb140, 0, none⟩ = some (.int .i64 a0_0) := (blk_cell BK140.out 0).trans rfl; have hcz18_1 : w17.cell? ⟨gb140, 1, none⟩ = some (.string a0_1) := (blk_cell BK140.out 1).trans rfl; have hcz18_2 : w17.cell? ⟨gb140, 2, none⟩ = some (.string a0_2) := (blk_cell BK140.out 2).trans rfl; have hcz18_3 : w17.cell? ⟨gb140, 3, none⟩ = some (.slice A0_3 l0_3.length c0_3) := (blk_cell BK140.out 3).trans rfl; have hcz18_4 : w17.cell? ⟨gb140, 4, none⟩ = some (.slice A0_4 l0_4.length c0_4) := (blk_cell BK140.out 4).trans rfl; have hfz18_0 := blk_frozen BK140.out 0; have hfz18_1 := blk_frozen BK140.out 1; have hfz18_2 := blk_frozen BK140.out 2; have hfz18_3 := blk_frozen BK140.out 3; have hfz18_4 := blk_frozen BK140.out 4) | (go_at_call 17; (with_reducible refine (token_Name.calls a0_1 true _ A11.out).mono ?_); rintro e w19 ⟨rfl, hb⟩; have n0_ := Aside0.mk (blk_below (g := gb140) (o := .cells #[.int .i64 a0_0, .string a0_1, .string a0_2, .slice A0_3 l0_3.length c0_3, .slice A0_4 l0_4.length c0_4] 49 (0, 0)) (by (with_reducible repeat (first | refine blk_drewN ?_ _ | refine blk_drew ?_ | refine blk_alloc ?_ _)); exact BK140.out) hb); have n1_ := Aside0.mk (below_step (by repeat (first | (with_reducible first | exact HB.out | apply below_alloc | apply pw_below_drewN | apply below_drew1 | refine below_set ?_ GE140.out) | exact HB.out)) hb); clear BK140; clear HB; have BK140 := n0_; have HB := n1_; clear n0_ n1_; (try clear hb); (try clear hb2); (try clear hk); (try clear hi); have hcz20_0 : w19.cell? ⟨gb140, 0, none⟩ = some (.int .i64 a0_0) := (blk_cell BK140.out 0).trans rfl; have hcz20_1 : w19.cell? ⟨gb140, 1, none⟩ = some (.string a0_1) := (blk_cell BK140.out 1).trans rfl; have hcz20_2 : w19.cell? ⟨gb140, 2, none⟩ = some (.string a0_2) := (blk_cell BK140.out 2).trans rfl; have hcz20_3 : w19.cell? ⟨gb140, 3, none⟩ = some (.slice A0_3 l0_3.length c0_3) := (blk_cell BK140.out 3).trans rfl; have hcz20_4 : w19.cell? ⟨gb140, 4, none⟩ = some (.slice A0_4 l0_4.length c0_4) := (blk_cell BK140.out 4).trans rfl; have hfz20_0 := blk_frozen BK140.out 0; have hfz20_1 := blk_frozen BK140.out 1; have hfz20_2 := blk_frozen BK140.out 2; have hfz20_3 := blk_frozen BK140.out 3; have hfz20_4 := blk_frozen BK140.out 4) | (go_at_call 95; (with_reducible refine (tree_attrs.calls _ _ l0_3 true _ ?side1 ?side2 A14.out).mono ?_); (case side1 => repeat (first | exact (Kd.C_below HR0_3.out HB.out) | (with_reducible refine Kd.C_alloc ?_ _) | (with_reducible refine Kd.C_drewN ?_ _) | (with_reducible refine Kd.C_drew ?_))); (case side2 => exact HC0_3.out); rintro e w21 ⟨rfl, hb⟩; have n0_ := Aside0.mk (blk_below (g := gb140) (o := .cells #[.int .i64 a0_0, .string a0_1, .string a0_2, .slice A0_3 l0_3.length c0_3, .slice A0_4 l0_4.length c0_4] 49 (0, 0)) (by (with_reducible repeat (first | refine blk_drewN ?_ _ | refine blk_drew ?_ | refine blk_alloc ?_ _)); exact BK140.out) hb); have n1_ := Aside0.mk (below_step (by repeat (first | (with_reducible first | exact HB.out | apply below_alloc | apply pw_below_drewN | apply below_drew1 | refine below_set ?_ GE140.out) | exact HB.out)) hb); clear BK140; clear HB; have BK140 := n0_; have HB := n1_; clear n0_ n1_; (try clear hb); (try clear hb2); (try clear hk); (try clear hi); have hcz22_0 : w21.cell? ⟨gb140, 0, none⟩ = some (.int .i64 a0_0) := (blk_cell BK140.out 0).trans rfl; have hcz22_1 : w21.cell? ⟨gb140, 1, none⟩ = some (.string a0_1) := (blk_cell BK140.out 1).trans rfl; have hcz22_2 : w21.cell? ⟨gb140, 2, none⟩ = some (.string a0_2) := (blk_cell BK140.out 2).trans rfl; have hcz22_3 : w21.cell? ⟨gb140, 3, none⟩ = some (.slice A0_3 l0_3.length c0_3) := (blk_cell BK140.out 3).trans rfl; have hcz22_4 : w21.cell? ⟨gb140, 4, none⟩ = some (.slice A0_4 l0_4.length c0_4) := (blk_cell BK140.out 4).trans rfl; have hfz22_0 := blk_frozen BK140.out 0; have hfz22_1 := blk_frozen BK140.out 1; have hfz22_2 := blk_frozen BK140.out 2; have hfz22_3 := blk_frozen BK140.out 3; have hfz22_4 := blk_frozen BK140.out 4))
              go_ret
              exact ⟨by first | rfl | (simp [errW_none, errW_some] <;> rfl) | (simp [*, errW_none, errW_some] <;> rfl), by repeat (first | (with_reducible first | exact HB.out | apply below_alloc | apply pw_below_drewN | apply below_drew1 | refine below_set ?_ GE140.out) | exact HB.out)⟩
            · rw [if_neg c16] at H
              have c16b0 : (a0_1.toList == ([105, 109, 103] : List UInt8)) = false := beq_eq_false_iff_ne.mpr c16
              have c16b1 : (a0_1.toList != ([105, 109, 103] : List UInt8)) = true := bne_iff_ne.mpr c16
              obtain rfl := Option.some.inj H
              go_enter Tryz.func98, Tryz.ntmps98
              go_wp2_with (first | ((with_reducible refine gate_dst (N := 1) rfl ?_); (try (refine gate_guard (by rfl) ?_; dsimp only)); refine box_event ?hg (N := 1) ?hd (cs := #[.int .i64 a0_0, .string a0_1, .string a0_2, .slice A0_3 l0_3.length c0_3, .slice A0_4 l0_4.length c0_4]) (t := 49) ?hr ?_; (case hd => rfl); (case hg => rfl); (case hr => first | (go_simp; done) | (go_simp; rfl)); intro gb140 hg w23 hbox hb; have n0_ := Aside0.mk (below_step (by repeat (first | (with_reducible first | exact HB.out | apply below_alloc | apply pw_below_drewN | apply below_drew1) | exact HB.out)) hb); have n1_ := Aside0.mk (hbox); have n2_ := Aside0.mk ((by rw [hg]; exact (below_size (by repeat (first | (with_reducible first | exact HB.out | apply below_alloc | apply pw_below_drewN | apply below_drew1) | exact HB.out))) : w.heap.size ≤ gb140)); have n3_ := Aside0.mk ((by rw [hg]; exact (below_size (by repeat (first | (with_reducible first | exact HB.out | apply below_alloc | apply pw_below_drewN | apply below_drew1) | exact HB.out))) : w.heap.size ≤ gb140)); clear HB; have HB := n0_; have BK140 := n1_; have GW140 := n2_; have GE140 := n3_; clear n0_ n1_ n2_ n3_; clear hb hbox hg; have hcz24_0 : w23.cell? ⟨gb140, 0, none⟩ = some (.int .i64 a0_0) := (blk_cell BK140.out 0).trans rfl; have hcz24_1 : w23.cell? ⟨gb140, 1, none⟩ = some (.string a0_1) := (blk_cell BK140.out 1).trans rfl; have hcz24_2 : w23.cell? ⟨gb140, 2, none⟩ = some (.string a0_2) := (blk_cell BK140.out 2).trans rfl; have hcz24_3 : w23.cell? ⟨gb140, 3, none⟩ = some (.slice A0_3 l0_3.length c0_3) := (blk_cell BK140.out 3).trans rfl; have hcz24_4 : w23.cell? ⟨gb140, 4, none⟩ = some (.slice A0_4 l0_4.length c0_4) := (blk_cell BK140.out 4).trans rfl; have hfz24_0 := blk_frozen BK140.out 0; have hfz24_1 := blk_frozen BK140.out 1; have hfz24_2 := blk_frozen BK140.out 2; have hfz24_3 := blk_frozen BK140.out 3; have hfz24_4 := blk_frozen BK140.out 4) | (go_at_call 17; (with_reducible refine (token_Name.calls a0_1 true _ A11.out).mono ?_); rintro e w25 ⟨rfl, hb⟩; have n0_ := Aside0.mk (blk_below (g := gb140) (o := .cells #[.int .i64 a0_0, .string a0_1, .string a0_2, .slice A0_3 l0_3.length c0_3, .slice A0_4 l0_4.length c0_4] 49 (0, 0)) (by (with_reducible repeat (first | refine blk_drewN ?_ _ | refine blk_drew ?_ | refine blk_alloc ?_ _)); exact BK140.out) hb); have n1_ := Aside0.mk (below_step (by repeat (first | (with_reducible first | exact HB.out | apply below_alloc | apply pw_below_drewN | apply below_drew1 | refine below_set ?_ GE140.out) | exact HB.out)) hb); clear BK140; clear HB; have BK140 := n0_; have HB := n1_; clear n0_ n1_; (try clear hb); (try clear hb2); (try clear hk); (try clear hi); have hcz26_0 : w25.cell? ⟨gb140, 0, none⟩ = some (.int .i64 a0_0) := (blk_cell BK140.out 0).trans rfl; have hcz26_1 : w25.cell? ⟨gb140, 1, none⟩ = some (.string a0_1) := (blk_cell BK140.out 1).trans rfl; have hcz26_2 : w25.cell? ⟨gb140, 2, none⟩ = some (.string a0_2) := (blk_cell BK140.out 2).trans rfl; have hcz26_3 : w25.cell? ⟨gb140, 3, none⟩ = some (.slice A0_3 l0_3.length c0_3) := (blk_cell BK140.out 3).trans rfl; have hcz26_4 : w25.cell? ⟨gb140, 4, none⟩ = some (.slice A0_4 l0_4.length c0_4) := (blk_cell BK140.out 4).trans rfl; have hfz26_0 := blk_frozen BK140.out 0; have hfz26_1 := blk_frozen BK140.out 1; have hfz26_2 := blk_frozen BK140.out 2; have hfz26_3 := blk_frozen BK140.out 3; have hfz26_4 := blk_frozen BK140.out 4) | (go_at_call 95; (with_reducible refine (tree_attrs.calls _ _ l0_3 true _ ?side1 ?side2 A14.out).mono ?_); (case side1 => repeat (first | exact (Kd.C_below HR0_3.out HB.out) | (with_reducible refine Kd.C_alloc ?_ _) | (with_reducible refine Kd.C_drewN ?_ _) | (with_reducible refine Kd.C_drew ?_))); (case side2 => exact HC0_3.out); rintro e w27 ⟨rfl, hb⟩; have n0_ := Aside0.mk (blk_below (g := gb140) (o := .cells #[.int .i64 a0_0, .string a0_1, .string a0_2, .slice A0_3 l0_3.length c0_3, .slice A0_4 l0_4.length c0_4] 49 (0, 0)) (by (with_reducible repeat (first | refine blk_drewN ?_ _ | refine blk_drew ?_ | refine blk_alloc ?_ _)); exact BK140.out) hb); have n1_ := Aside0.mk (below_step (by repeat (first | (with_reducible first | exact HB.out | apply below_alloc | apply pw_below_drewN | apply below_drew1 | refine below_set ?_ GE140.out) | exact HB.out)) hb); clear BK140; clear HB; have BK140 := n0_; have HB := n1_; clear n0_ n1_; (try clear hb); (try clear hb2); (try clear hk); (try clear hi); have hcz28_0 : w27.cell? ⟨gb140, 0, none⟩ = some (.int .i64 a0_0) := (blk_cell BK140.out 0).trans rfl; have hcz28_1 : w27.cell? ⟨gb140, 1, none⟩ = some (.string a0_1) := (blk_cell BK140.out 1).trans rfl; have hcz28_2 : w27.cell? ⟨gb140, 2, none⟩ = some (.string a0_2) := (blk_cell BK140.out 2).trans rfl; have hcz28_3 : w27.cell? ⟨gb140, 3, none⟩ = some (.slice A0_3 l0_3.length c0_3) := (blk_cell BK140.out 3).trans rfl; have hcz28_4 : w27.cell? ⟨gb140, 4, none⟩ = some (.slice A0_4 l0_4.length c0_4) := (blk_cell BK140.out 4).trans rfl; have hfz28_0 := blk_frozen BK140.out 0; have hfz28_1 := blk_frozen BK140.out 1; have hfz28_2 := blk_frozen BK140.out 2; have hfz28_3 := blk_frozen BK140.out 3; have hfz28_4 := blk_frozen BK140.out 4))
              go_ret
              exact ⟨by first | rfl | (simp [errW_none, errW_some] <;> rfl) | (simp [*, errW_none, errW_some] <;> rfl), by repeat (first | (with_reducible first | exact HB.out | apply below_alloc | apply pw_below_drewN | apply below_drew1 | refine below_set ?_ GE140.out) | exact HB.out)⟩
          · replace c15 := Bool.eq_false_iff.mpr c15
            subst c15
            have H1 : (some false) = some r := by rw [if_neg (show ¬ (false = true) by decide)] at H; exact H
            clear H
            have H := H1
            clear H1
            obtain rfl := Option.some.inj H
            go_enter Tryz.func98, Tryz.ntmps98
            go_wp2_with (first | ((with_reducible refine gate_dst (N := 1) rfl ?_); (try (refine gate_guard (by rfl) ?_; dsimp only)); refine box_event ?hg (N := 1) ?hd (cs := #[.int .i64 a0_0, .string a0_1, .string a0_2, .slice A0_3 l0_3.length c0_3, .slice A0_4 l0_4.length c0_4]) (t := 49) ?hr ?_; (case hd => rfl); (case hg => rfl); (case hr => first | (go_simp; done) | (go_simp; rfl)); intro gb140 hg w29 hbox hb; have n0_ := Aside0.mk (below_step (by repeat (first | (with_reducible first | exact HB.out | apply below_alloc | apply pw_below_drewN | apply below_drew1) | exact HB.out)) hb); have n1_ := Aside0.mk (hbox); have n2_ := Aside0.mk ((by rw [hg]; exact (below_size (by repeat (first | (with_reducible first | exact HB.out | apply below_alloc | apply pw_below_drewN | apply below_drew1) | exact HB.out))) : w.heap.size ≤ gb140)); have n3_ := Aside0.mk ((by rw [hg]; exact (below_size (by repeat (first | (with_reducible first | exact HB.out | apply below_alloc | apply pw_below_drewN | apply below_drew1) | exact HB.out))) : w.heap.size ≤ gb140)); clear HB; have HB := n0_; have BK140 := n1_; have GW140 := n2_; have GE140 := n3_; clear n0_ n1_ n2_ n3_; clear hb hbox hg; have hcz30_0 : w29.cell? ⟨gb140, 0, none⟩ = some (.int .i64 a0_0) := (blk_cell BK140.out 0).trans rfl; have hcz30_1 : w29.cell? ⟨gb140, 1, none⟩ = some (.string a0_1) := (blk_cell BK140.out 1).trans rfl; have hcz30_2 : w29.cell? ⟨gb140, 2, none⟩ = some (.string a0_2) := (blk_cell BK140.out 2).trans rfl; have hcz30_3 : w29.cell? ⟨gb140, 3, none⟩ = some (.slice A0_3 l0_3.length c0_3) := (blk_cell BK140.out 3).trans rfl; have hcz30_4 : w29.cell? ⟨gb140, 4, none⟩ = some (.slice A0_4 l0_4.length c0_4) := (blk_cell BK140.out 4).trans rfl; have hfz30_0 := blk_frozen BK140.out 0; have hfz30_1 := blk_frozen BK140.out 1; have hfz30_2 := blk_frozen BK140.out 2; have hfz30_3 := blk_frozen BK140.out 3; have hfz30_4 := blk_frozen BK140.out 4) | (go_at_call 17; (with_reducible refine (token_Name.calls a0_1 true _ A11.out).mono ?_); rintro e w31 ⟨rfl, hb⟩; have n0_ := Aside0.mk (blk_below (g := gb140) (o := .cells #[.int .i64 a0_0, .string a0_1, .string a0_2, .slice A0_3 l0_3.length c0_3, .slice A0_4 l0_4.length c0_4] 49 (0, 0)) (by (with_reducible repeat (first | refine blk_drewN ?_ _ | refine blk_drew ?_ | refine blk_alloc ?_ _)); exact BK140.out) hb); have n1_ := Aside0.mk (below_step (by repeat (first | (with_reducible first | exact HB.out | apply below_alloc | apply pw_below_drewN | apply below_drew1 | refine below_set ?_ GE140.out) | exact HB.out)) hb); clear BK140; clear HB; have BK140 := n0_; have HB := n1_; clear n0_ n1_; (try clear hb); (try clear hb2); (try clear hk); (try clear hi); have hcz32_0 : w31.cell? ⟨gb140, 0, none⟩ = some (.int .i64 a0_0) := (blk_cell BK140.out 0).trans rfl; have hcz32_1 : w31.cell? ⟨gb140, 1, none⟩ = some (.string a0_1) := (blk_cell BK140.out 1).trans rfl; have hcz32_2 : w31.cell? ⟨gb140, 2, none⟩ = some (.string a0_2) := (blk_cell BK140.out 2).trans rfl; have hcz32_3 : w31.cell? ⟨gb140, 3, none⟩ = some (.slice A0_3 l0_3.length c0_3) := (blk_cell BK140.out 3).trans rfl; have hcz32_4 : w31.cell? ⟨gb140, 4, none⟩ = some (.slice A0_4 l0_4.length c0_4) := (blk_cell BK140.out 4).trans rfl; have hfz32_0 := blk_frozen BK140.out 0; have hfz32_1 := blk_frozen BK140.out 1; have hfz32_2 := blk_frozen BK140.out 2; have hfz32_3 := blk_frozen BK140.out 3; have hfz32_4 := blk_frozen BK140.out 4) | (go_at_call 95; (with_reducible refine (tree_attrs.calls _ _ l0_3 false _ ?side1 ?side2 A14.out).mono ?_); (case side1 => repeat (first | exact (Kd.C_below HR0_3.out HB.out) | (with_reducible refine Kd.C_alloc ?_ _) | (with_reducible refine Kd.C_drewN ?_ _) | (with_reducible refine Kd.C_drew ?_))); (case side2 => exact HC0_3.out); rintro e w33 ⟨rfl, hb⟩; have n0_ := Aside0.mk (blk_below (g := gb140) (o := .cells #[.int .i64 a0_0, .string a0_1, .string a0_2, .slice A0_3 l0_3.length c0_3, .slice A0_4 l0_4.length c0_4] 49 (0, 0)) (by (with_reducible repeat (first | refine blk_drewN ?_ _ | refine blk_drew ?_ | refine blk_alloc ?_ _)); exact BK140.out) hb); have n1_ := Aside0.mk (below_step (by repeat (first | (with_reducible first | exact HB.out | apply below_alloc | apply pw_below_drewN | apply below_drew1 | refine below_set ?_ GE140.out) | exact HB.out)) hb); clear BK140; clear HB; have BK140 := n0_; have HB := n1_; clear n0_ n1_; (try clear hb); (try clear hb2); (try clear hk); (try clear hi)))
            go_ret
            exact ⟨by first | rfl | (simp [errW_none, errW_some] <;> rfl) | (simp [*, errW_none, errW_some] <;> rfl), by repeat (first | (with_reducible first | exact HB.out | apply below_alloc | apply pw_below_drewN | apply below_drew1 | refine below_set ?_ GE140.out) | exact HB.out)⟩
        · rw [if_neg c13] at H
          have c13b0 : (a0_2.toList == ([] : List UInt8)) = false := beq_eq_false_iff_ne.mpr c13
          have c13b1 : (a0_2.toList != ([] : List UInt8)) = true := bne_iff_ne.mpr c13
          obtain rfl := Option.some.inj H
          go_enter Tryz.func98, Tryz.ntmps98
          go_wp2_with (first | ((with_reducible refine gate_dst (N := 1) rfl ?_); (try (refine gate_guard (by rfl) ?_; dsimp only)); refine box_event ?hg (N := 1) ?hd (cs := #[.int .i64 a0_0, .string a0_1, .string a0_2, .slice A0_3 l0_3.length c0_3, .slice A0_4 l0_4.length c0_4]) (t := 49) ?hr ?_; (case hd => rfl); (case hg => rfl); (case hr => first | (go_simp; done) | (go_simp; rfl)); intro gb140 hg w34 hbox hb; have n0_ := Aside0.mk (below_step (by repeat (first | (with_reducible first | exact HB.out | apply below_alloc | apply pw_below_drewN | apply below_drew1) | exact HB.out)) hb); have n1_ := Aside0.mk (hbox); have n2_ := Aside0.mk ((by rw [hg]; exact (below_size (by repeat (first | (with_reducible first | exact HB.out | apply below_alloc | apply pw_below_drewN | apply below_drew1) | exact HB.out))) : w.heap.size ≤ gb140)); have n3_ := Aside0.mk ((by rw [hg]; exact (below_size (by repeat (first | (with_reducible first | exact HB.out | apply below_alloc | apply pw_below_drewN | apply below_drew1) | exact HB.out))) : w.heap.size ≤ gb140)); clear HB; have HB := n0_; have BK140 := n1_; have GW140 := n2_; have GE140 := n3_; clear n0_ n1_ n2_ n3_; clear hb hbox hg; have hcz35_0 : w34.cell? ⟨gb140, 0, none⟩ = some (.int .i64 a0_0) := (blk_cell BK140.out 0).trans rfl; have hcz35_1 : w34.cell? ⟨gb140, 1, none⟩ = some (.string a0_1) := (blk_cell BK140.out 1).trans rfl; have hcz35_2 : w34.cell? ⟨gb140, 2, none⟩ = some (.string a0_2) := (blk_cell BK140.out 2).trans rfl; have hcz35_3 : w34.cell? ⟨gb140, 3, none⟩ = some (.slice A0_3 l0_3.length c0_3) := (blk_cell BK140.out 3).trans rfl; have hcz35_4 : w34.cell? ⟨gb140, 4, none⟩ = some (.slice A0_4 l0_4.length c0_4) := (blk_cell BK140.out 4).trans rfl; have hfz35_0 := blk_frozen BK140.out 0; have hfz35_1 := blk_frozen BK140.out 1; have hfz35_2 := blk_frozen BK140.out 2; have hfz35_3 := blk_frozen BK140.out 3; have hfz35_4 := blk_frozen BK140.out 4) | (go_at_call 17; (with_reducible refine (token_Name.calls a0_1 true _ A11.out).mono ?_); rintro e w36 ⟨rfl, hb⟩; have n0_ := Aside0.mk (blk_below (g := gb140) (o := .cells #[.int .i64 a0_0, .string a0_1, .string a0_2, .slice A0_3 l0_3.length c0_3, .slice A0_4 l0_4.length c0_4] 49 (0, 0)) (by (with_reducible repeat (first | refine blk_drewN ?_ _ | refine blk_drew ?_ | refine blk_alloc ?_ _)); exact BK140.out) hb); have n1_ := Aside0.mk (below_step (by repeat (first | (with_reducible first | exact HB.out | apply below_alloc | apply pw_below_drewN | apply below_drew1 | refine below_set ?_ GE140.out) | exact HB.out)) hb); clear BK140; clear HB; have BK140 := n0_; have HB := n1_; clear n0_ n1_; (try clear hb); (try clear hb2); (try clear hk); (try clear hi); have hcz37_0 : w36.cell? ⟨gb140, 0, none⟩ = some (.int .i64 a0_0) := (blk_cell BK140.out 0).trans rfl; have hcz37_1 : w36.cell? ⟨gb140, 1, none⟩ = some (.string a0_1) := (blk_cell BK140.out 1).trans rfl; have hcz37_2 : w36.cell? ⟨gb140, 2, none⟩ = some (.string a0_2) := (blk_cell BK140.out 2).trans rfl; have hcz37_3 : w36.cell? ⟨gb140, 3, none⟩ = some (.slice A0_3 l0_3.length c0_3) := (blk_cell BK140.out 3).trans rfl; have hcz37_4 : w36.cell? ⟨gb140, 4, none⟩ = some (.slice A0_4 l0_4.length c0_4) := (blk_cell BK140.out 4).trans rfl; have hfz37_0 := blk_frozen BK140.out 0; have hfz37_1 := blk_frozen BK140.out 1; have hfz37_2 := blk_frozen BK140.out 2; have hfz37_3 := blk_frozen BK140.out 3; have hfz37_4 := blk_frozen BK140.out 4))
          go_ret
          exact ⟨by first | rfl | (simp [errW_none, errW_some] <;> rfl) | (simp [*, errW_none, errW_some] <;> rfl), by repeat (first | (with_reducible first | exact HB.out | apply below_alloc | apply pw_below_drewN | apply below_drew1 | refine below_set ?_ GE140.out) | exact HB.out)⟩
      · replace c12 := Bool.eq_false_iff.mpr c12
        subst c12
        have H1 : (some false) = some r := by rw [if_neg (show ¬ (false = true) by decide)] at H; exact H
        clear H
        have H := H1
        clear H1
        obtain rfl := Option.some.inj H
        go_enter Tryz.func98, Tryz.ntmps98
        go_wp2_with (first | ((with_reducible refine gate_dst (N := 1) rfl ?_); (try (refine gate_guard (by rfl) ?_; dsimp only)); refine box_event ?hg (N := 1) ?hd (cs := #[.int .i64 a0_0, .string a0_1, .string a0_2, .slice A0_3 l0_3.length c0_3, .slice A0_4 l0_4.length c0_4]) (t := 49) ?hr ?_; (case hd => rfl); (case hg => rfl); (case hr => first | (go_simp; done) | (go_simp; rfl)); intro gb140 hg w38 hbox hb; have n0_ := Aside0.mk (below_step (by repeat (first | (with_reducible first | exact HB.out | apply below_alloc | apply pw_below_drewN | apply below_drew1) | exact HB.out)) hb); have n1_ := Aside0.mk (hbox); have n2_ := Aside0.mk ((by rw [hg]; exact (below_size (by repeat (first | (with_reducible first | exact HB.out | apply below_alloc | apply pw_below_drewN | apply below_drew1) | exact HB.out))) : w.heap.size ≤ gb140)); have n3_ := Aside0.mk ((by rw [hg]; exact (below_size (by repeat (first | (with_reducible first | exact HB.out | apply below_alloc | apply pw_below_drewN | apply below_drew1) | exact HB.out))) : w.heap.size ≤ gb140)); clear HB; have HB := n0_; have BK140 := n1_; have GW140 := n2_; have GE140 := n3_; clear n0_ n1_ n2_ n3_; clear hb hbox hg; have hcz39_0 : w38.cell? ⟨gb140, 0, none⟩ = some (.int .i64 a0_0) := (blk_cell BK140.out 0).trans rfl; have hcz39_1 : w38.cell? ⟨gb140, 1, none⟩ = some (.string a0_1) := (blk_cell BK140.out 1).trans rfl; have hcz39_2 : w38.cell? ⟨gb140, 2, none⟩ = some (.string a0_2) := (blk_cell BK140.out 2).trans rfl; have hcz39_3 : w38.cell? ⟨gb140, 3, none⟩ = some (.slice A0_3 l0_3.length c0_3) := (blk_cell BK140.out 3).trans rfl; have hcz39_4 : w38.cell? ⟨gb140, 4, none⟩ = some (.slice A0_4 l0_4.length c0_4) := (blk_cell BK140.out 4).trans rfl; have hfz39_0 := blk_frozen BK140.out 0; have hfz39_1 := blk_frozen BK140.out 1; have hfz39_2 := blk_frozen BK140.out 2; have hfz39_3 := blk_frozen BK140.out 3; have hfz39_4 := blk_frozen BK140.out 4) | (go_at_call 17; (with_reducible refine (token_Name.calls a0_1 false _ A11.out).mono ?_); rintro e w40 ⟨rfl, hb⟩; have n0_ := Aside0.mk (blk_below (g := gb140) (o := .cells #[.int .i64 a0_0, .string a0_1, .string a0_2, .slice A0_3 l0_3.length c0_3, .slice A0_4 l0_4.length c0_4] 49 (0, 0)) (by (with_reducible repeat (first | refine blk_drewN ?_ _ | refine blk_drew ?_ | refine blk_alloc ?_ _)); exact BK140.out) hb); have n1_ := Aside0.mk (below_step (by repeat (first | (with_reducible first | exact HB.out | apply below_alloc | apply pw_below_drewN | apply below_drew1 | refine below_set ?_ GE140.out) | exact HB.out)) hb); clear BK140; clear HB; have BK140 := n0_; have HB := n1_; clear n0_ n1_; (try clear hb); (try clear hb2); (try clear hk); (try clear hi)))
        go_ret
        exact ⟨by first | rfl | (simp [errW_none, errW_some] <;> rfl) | (simp [*, errW_none, errW_some] <;> rfl), by repeat (first | (with_reducible first | exact HB.out | apply below_alloc | apply pw_below_drewN | apply below_drew1 | refine below_set ?_ GE140.out) | exact HB.out)⟩
mutual
def tree_walk.l0 : Nat → List (S49) → Int → Int → Int → Bool → List Int → Int → Int → Option (Int)
  | 0, _, _, _, _, _, _, _, _ => none
  | k + 1, x0, x1, x2, x7, x8, x19, x20, x21 => if x21 < x20 then (if 0 ≤ x21 then (if x21 < (x19.length : Int) then (if (rd x19 x21) = x7 then (if (rd x19 x21) ≥ (x0.length : Int) then (tree_walk.j1 k x0 x1 x2 (rd x19 x21) x19 x20 x21 true) else (if 0 ≤ (rd x19 x21) then (if (rd x19 x21) < (x0.length : Int) then (if ((rd_T49 x0 (rd x19 x21)).f0) = x1 then ((tree_fits.f ((rd_T49 x0 (rd x19 x21)).f0) ((rd_T49 x0 (rd x19 x21)).f1) ((rd_T49 x0 (rd x19 x21)).f2) ((rd_T49 x0 (rd x19 x21)).f3) ((rd_T49 x0 (rd x19 x21)).f4)).bind fun t147 => (if t147 = true then (if x8 = true then (tree_walk.j1 k x0 x1 x2 (rd x19 x21) x19 x20 x21 (((rd_T49 x0 (rd x19 x21)).f1).toList == ([] : List UInt8))) else (tree_walk.j1 k x0 x1 x2 (rd x19 x21) x19 x20 x21 false)) else (tree_walk.j1 k x0 x1 x2 (rd x19 x21) x19 x20 x21 true))) else (tree_walk.j1 k x0 x1 x2 (rd x19 x21) x19 x20 x21 true)) else (none)) else (none))) else (tree_walk.j1 k x0 x1 x2 (rd x19 x21) x19 x20 x21 true)) else (none)) else (none)) else (some x7)
def tree_walk.j1 : Nat → List (S49) → Int → Int → Int → List Int → Int → Int → Bool → Option (Int)
  | 0, _, _, _, _, _, _, _, _ => none
  | k + 1, x0, x1, x2, x10, x19, x20, x21, x61 => if x61 = true then (some (-1)) else (if 0 ≤ x10 then (if x10 < (x0.length : Int) then ((tree_walk.f k x0 x10 (wrap64 (x2 + 1))).bind fun t150 => (if t150 = (-1) then (some (-1)) else (tree_walk.l0 k x0 x1 x2 t150 (((rd_T49 x0 x10).f1).toList == ([] : List UInt8)) x19 x20 (wrap64 (x21 + 1))))) else (none)) else (none))
def tree_walk.f : Nat → List (S49) → Int → Int → Option (Int)
  | 0, _, _, _ => none
  | k + 1, l0, a1, a2 => if a2 > 12 then (some (-1)) else (if 0 ≤ a1 then (if a1 < (l0.length : Int) then (tree_walk.l0 k l0 a1 a2 (wrap64 (a1 + 1)) false ((rd_T49 l0 a1).f4) (((rd_T49 l0 a1).f4).length : Int) 0) else (none)) else (none))
end
set_option maxHeartbeats 8000000 in
set_option maxRecDepth 100000 in
theorem tree_walk.calls (k : Nat) : ∀ (A0 : Option Addr) (c0 : Nat) (l0 : List (S49)) (a1 : Int) (a2 : Int) (r : Int) (w : World) (hr0 : Kd.C k49 w A0 l0.length l0) (hc0 : l0.length ≤ c0) (h : tree_walk.f k l0 a1 a2 = some r),
    Calls Tryz.prog 66 #[.slice A0 l0.length c0, .int .i64 a1, .int .i64 a2] w fun e w' => e = .returned (.int .i64 r) ∧ Below w.heap.size w w' := by
  induction k using Nat.strongRecOn with
  | _ k ih =>
  intro A0 c0 l0 a1 a2 r w hr0 hc0 h
  cases k with
  | zero => exact absurd h (by simp [tree_walk.f])
  | succ k =>
  simp only [tree_walk.f] at h
  have hu49 := Tryz.underlying49
  have HR0 := Aside0.mk hr0
  have HC0 := Aside0.mk hc0
  clear hr0 hc0
  have HB := Aside0.mk (Below.refl w.heap.size w)
  have H : (if a2 > 12 then (some (-1)) else (if 0 ≤ a1 then (if a1 < (l0.length : Int) then (tree_walk.l0 k l0 a1 a2 (wrap64 (a1 + 1)) false ((rd_T49 l0 a1).f4) (((rd_T49 l0 a1).f4).length : Int) 0) else (none)) else (none))) = some r := h
  clear h
  by_cases c4 : a2 > 12
  · rw [if_pos c4] at H
    have c4b0 : decide (12 < a2) = true := decide_eq_true c4
    clear c4
    obtain rfl := Option.some.inj H
    go_enter Tryz.func66, Tryz.ntmps66
    go_wp2
    go_ret
    exact ⟨by first | rfl | (simp [errW_none, errW_some] <;> rfl) | (simp [*, errW_none, errW_some] <;> rfl), by repeat (first | (with_reducible first | exact HB.out | apply below_alloc | apply pw_below_drewN | apply below_drew1) | exact HB.out)⟩
  · rw [if_neg c4] at H
    have c4b0 : decide (12 < a2) = false := decide_eq_false c4
    clear c4
    by_cases c5 : 0 ≤ a1
    · rw [if_pos c5] at H
      have c5b0 : decide (0 ≤ a1) = true := decide_eq_true c5
      clear c5
      by_cases c6 : a1 < (l0.length : Int)
      · rw [if_pos c6] at H
        have c6b0 : decide (a1 < (l0.length : Int)) = true := decide_eq_true c6
        clear c6
        have H' := Aside0.mk H
        clear H
        have p143 : 0 ≤ (a1 : Int) := of_decide_eq_true (by first | (with_reducible assumption) | assumption)
        have q143 : a1 < (l0.length : Int) := of_decide_eq_true (by first | (with_reducible assumption) | assumption)
        obtain ⟨ad143, A143_3, c143_3, A143_4, c143_4, e143, hx143_0, hx143_1, hx143_2, hx143_3, hx143_4, hl143_3, hi143_3, hl143_4, hi143_4⟩ := at_T49 HR0.out a1 p143 q143
        cases e143
        have HR143_3 := Aside0.mk hi143_3
        have HC143_3 := Aside0.mk hl143_3
        clear hi143_3 hl143_3
        have HR143_4 := Aside0.mk hi143_4
        have HC143_4 := Aside0.mk hl143_4
        clear hi143_4 hl143_4
        replace p143 := eq_true p143
        replace q143 := eq_true q143
        go_enter Tryz.func66, Tryz.ntmps66
        go_wp2
        go_loopg [7, 8, 21] k (fun kq v7 v8 v21 w' => ∃ (x7_1 : Int) (x8_1 : Bool) (x21_1 : Int), v7 = .int .i64 x7_1 ∧ v8 = .bool x8_1 ∧ v21 = .int .i64 x21_1 ∧ Aside0 (tree_walk.l0 kq l0 a1 a2 x7_1 x8_1 ((rd_T49 l0 a1).f4) (((rd_T49 l0 a1).f4).length : Int) x21_1 = some r) ∧ Aside0 (kq ≤ k) ∧ Aside0 (Below w.heap.size w w'))
        case atStart => exact ⟨(wrap64 (a1 + 1)), (false), (0), (by first | rfl | (simp; done) | (simp [*]; done)), (by first | rfl | (simp; done) | (simp [*]; done)), (by first | rfl | (simp; done) | (simp [*]; done)), H', ⟨Nat.le_refl _⟩, ⟨by repeat (first | (with_reducible first | exact HB.out | apply below_alloc | apply pw_below_drewN | apply below_drew1) | exact HB.out)⟩⟩
        case round =>
          clear H'
          try clear c1
          try clear p1
          try clear q1
          try clear hx1
          try clear p2
          try clear c4
          try clear c4b0
          try clear c5
          try clear c5b0
          try clear c6
          try clear c6b0
          try clear p6
          try clear hx143_0
          try clear hx143_1
          try clear hx143_2
          try clear hx143_3
          try clear hx143_4
          try clear p143
          try clear q143
          obtain ⟨x7_1, x8_1, x21_1, rfl, rfl, rfl, HA, HK1, HB⟩ := hrel
          cases gk with
          | zero => exact absurd HA.out (by simp [tree_walk.l0])
          | succ k1 =>
            have H := HA.out
            clear HA
            simp only [tree_walk.l0] at H
            by_cases c7 : x21_1 < (((rd_T49 l0 a1).f4).length : Int)
            · rw [if_pos c7] at H
              have c7b0 : decide (x21_1 < (((rd_T49 l0 a1).f4).length : Int)) = true := decide_eq_true c7
              clear c7
              by_cases c8 : 0 ≤ x21_1
              · rw [if_pos c8] at H
                have c8b0 : decide (0 ≤ x21_1) = true := decide_eq_true c8
                clear c8
                by_cases c9 : x21_1 < (((rd_T49 l0 a1).f4).length : Int)
                · rw [if_pos c9] at H
                  have c9b0 : decide (x21_1 < (((rd_T49 l0 a1).f4).length : Int)) = true := decide_eq_true c9
                  clear c9
                  have HC10 := Aside0.mk H
                  clear H
                  have p144 : 0 ≤ (x21_1 : Int) := of_decide_eq_true (by first | (with_reducible assumption) | assumption)
                  have q144 : x21_1 < (((rd_T49 l0 a1).f4).length : Int) := of_decide_eq_true (by first | (with_reducible assumption) | assumption)
                  obtain ⟨ad144, e144, hx144_0⟩ := Kd.at_int HR143_4.out x21_1 p144 q144
                  cases e144
                  replace hx144_0 := (HB.out.cell (World.block_lt_of_cell? w _ hx144_0)).trans hx144_0
                  replace p144 := eq_true p144
                  replace q144 := eq_true q144
                  go_upto_region 8 with (fail)
                  go_cut [61] (fun v61 wc => ∃ (kq : Nat) (x61_9 : Bool), v61 = .bool x61_9 ∧ Aside0 (tree_walk.j1 kq l0 a1 a2 (rd ((rd_T49 l0 a1).f4) x21_1) ((rd_T49 l0 a1).f4) (((rd_T49 l0 a1).f4).length : Int) x21_1 x61_9 = some r) ∧ Aside0 (kq ≤ k1) ∧ Aside0 (Below w.heap.size w wc))
                  case first =>
                    have H := HC10.out
                    clear HC10
                    by_cases c11 : (rd ((rd_T49 l0 a1).f4) x21_1) = x7_1
                    · rw [if_pos c11] at H
                      have c11b0 : ((rd ((rd_T49 l0 a1).f4) x21_1) == x7_1) = true := beq_iff_eq.mpr c11
                      have c11b1 : ((rd ((rd_T49 l0 a1).f4) x21_1) != x7_1) = false := bne_eq_false_iff_eq.mpr c11
                      clear c11
                      (first | rw [c11b0] | (simp only [i64_w, i32_w]; rw [c11b0]) | skip)
                      by_cases c12 : (rd ((rd_T49 l0 a1).f4) x21_1) ≥ (l0.length : Int)
                      · rw [if_pos c12] at H
                        have c12b0 : decide ((l0.length : Int) ≤ (rd ((rd_T49 l0 a1).f4) x21_1)) = true := decide_eq_true c12
                        clear c12
                        have H' := Aside0.mk H
                        clear H
                        go_wp2
                        go_meet
                        case rel => exact ⟨_, (true), (by first | rfl | (simp; done) | (simp [*]; done)), H', ⟨by have := HK1.out; first | omega | exact Nat.le_refl _⟩, ⟨by repeat (first | (with_reducible first | exact HB.out | apply below_alloc | apply pw_below_drewN | apply below_drew1) | exact HB.out)⟩⟩
                      · rw [if_neg c12] at H
                        have c12b0 : decide ((l0.length : Int) ≤ (rd ((rd_T49 l0 a1).f4) x21_1)) = false := decide_eq_false c12
                        clear c12
                        by_cases c13 : 0 ≤ (rd ((rd_T49 l0 a1).f4) x21_1)
                        · rw [if_pos c13] at H
                          have c13b0 : decide (0 ≤ (rd ((rd_T49 l0 a1).f4) x21_1)) = true := decide_eq_true c13
                          clear c13
                          by_cases c14 : (rd ((rd_T49 l0 a1).f4) x21_1) < (l0.length : Int)
                          · rw [if_pos c14] at H
                            have c14b0 : decide ((rd ((rd_T49 l0 a1).f4) x21_1) < (l0.length : Int)) = true := decide_eq_true c14
                            clear c14
                            by_cases c15 : ((rd_T49 l0 (rd ((rd_T49 l0 a1).f4) x21_1)).f0) = a1
                            · rw [if_pos c15] at H
                              have c15b0 : (((rd_T49 l0 (rd ((rd_T49 l0 a1).f4) x21_1)).f0) == a1) = true := beq_iff_eq.mpr c15
                              have c15b1 : (((rd_T49 l0 (rd ((rd_T49 l0 a1).f4) x21_1)).f0) != a1) = false := bne_eq_false_iff_eq.mpr c15
                              clear c15
                              replace H := Option.bind_eq_some_iff.mp H
                              obtain ⟨t147, A160, H⟩ := H
                              replace H : (if t147 = true then (if x8_1 = true then (tree_walk.j1 k1 l0 a1 a2 (rd ((rd_T49 l0 a1).f4) x21_1) ((rd_T49 l0 a1).f4) (((rd_T49 l0 a1).f4).length : Int) x21_1 (((rd_T49 l0 (rd ((rd_T49 l0 a1).f4) x21_1)).f1).toList == ([] : List UInt8))) else (tree_walk.j1 k1 l0 a1 a2 (rd ((rd_T49 l0 a1).f4) x21_1) ((rd_T49 l0 a1).f4) (((rd_T49 l0 a1).f4).length : Int) x21_1 false)) else (tree_walk.j1 k1 l0 a1 a2 (rd ((rd_T49 l0 a1).f4) x21_1) ((rd_T49 l0 a1).f4) (((rd_T49 l0 a1).f4).length : Int) x21_1 true)) = some r := H
                              have A16 := Aside0.mk A160
                              clear A160
                              by_cases c17 : t147 = true
                              · subst c17
                                have H1 : (if x8_1 = true then (tree_walk.j1 k1 l0 a1 a2 (rd ((rd_T49 l0 a1).f4) x21_1) ((rd_T49 l0 a1).f4) (((rd_T49 l0 a1).f4).length : Int) x21_1 (((rd_T49 l0 (rd ((rd_T49 l0 a1).f4) x21_1)).f1).toList == ([] : List UInt8))) else (tree_walk.j1 k1 l0 a1 a2 (rd ((rd_T49 l0 a1).f4) x21_1) ((rd_T49 l0 a1).f4) (((rd_T49 l0 a1).f4).length : Int) x21_1 false)) = some r := by rw [if_pos rfl] at H; exact H
                                clear H
                                have H := H1
                                clear H1
                                by_cases c18 : x8_1 = true
                                · subst c18
                                  have H1 : (tree_walk.j1 k1 l0 a1 a2 (rd ((rd_T49 l0 a1).f4) x21_1) ((rd_T49 l0 a1).f4) (((rd_T49 l0 a1).f4).length : Int) x21_1 (((rd_T49 l0 (rd ((rd_T49 l0 a1).f4) x21_1)).f1).toList == ([] : List UInt8))) = some r := by rw [if_pos rfl] at H; exact H
                                  clear H
                                  have H := H1
                                  clear H1
                                  have H' := Aside0.mk H
                                  clear H
                                  have p145 : 0 ≤ ((rd ((rd_T49 l0 a1).f4) x21_1) : Int) := of_decide_eq_true (by first | (with_reducible assumption) | assumption)
                                  have q145 : (rd ((rd_T49 l0 a1).f4) x21_1) < (l0.length : Int) := of_decide_eq_true (by first | (with_reducible assumption) | assumption)
                                  obtain ⟨ad145, A145_3, c145_3, A145_4, c145_4, e145, hx145_0, hx145_1, hx145_2, hx145_3, hx145_4, hl145_3, hi145_3, hl145_4, hi145_4⟩ := at_T49 HR0.out (rd ((rd_T49 l0 a1).f4) x21_1) p145 q145
                                  obtain rfl : ad143 = ad145 := (by injection e145)
                                  replace hx145_0 := (HB.out.cell (World.block_lt_of_cell? w _ hx145_0)).trans hx145_0
                                  replace hx145_1 := (HB.out.cell (World.block_lt_of_cell? w _ hx145_1)).trans hx145_1
                                  replace hx145_2 := (HB.out.cell (World.block_lt_of_cell? w _ hx145_2)).trans hx145_2
                                  replace hx145_3 := (HB.out.cell (World.block_lt_of_cell? w _ hx145_3)).trans hx145_3
                                  replace hx145_4 := (HB.out.cell (World.block_lt_of_cell? w _ hx145_4)).trans hx145_4
                                  have HR145_3 := Aside0.mk hi145_3
                                  have HC145_3 := Aside0.mk hl145_3
                                  clear hi145_3 hl145_3
                                  have HR145_4 := Aside0.mk hi145_4
                                  have HC145_4 := Aside0.mk hl145_4
                                  clear hi145_4 hl145_4
                                  replace p145 := eq_true p145
                                  replace q145 := eq_true q145
                                  have p146 : 0 ≤ ((rd ((rd_T49 l0 a1).f4) x21_1) : Int) := of_decide_eq_true (by first | (with_reducible assumption) | assumption)
                                  have q146 : (rd ((rd_T49 l0 a1).f4) x21_1) < (l0.length : Int) := of_decide_eq_true (by first | (with_reducible assumption) | assumption)
                                  obtain ⟨ad146, A146_3, c146_3, A146_4, c146_4, e146, hx146_0, hx146_1, hx146_2, hx146_3, hx146_4, hl146_3, hi146_3, hl146_4, hi146_4⟩ := at_T49 HR0.out (rd ((rd_T49 l0 a1).f4) x21_1) p146 q146
                                  obtain rfl : ad143 = ad146 := (by injection e146)
                                  replace hx146_0 := (HB.out.cell (World.block_lt_of_cell? w _ hx146_0)).trans hx146_0
                                  replace hx146_1 := (HB.out.cell (World.block_lt_of_cell? w _ hx146_1)).trans hx146_1
                                  replace hx146_2 := (HB.out.cell (World.block_lt_of_cell? w _ hx146_2)).trans hx146_2
                                  replace hx146_3 := (HB.out.cell (World.block_lt_of_cell? w _ hx146_3)).trans hx146_3
                                  replace hx146_4 := (HB.out.cell (World.block_lt_of_cell? w _ hx146_4)).trans hx146_4
                                  have HR146_3 := Aside0.mk hi146_3
                                  have HC146_3 := Aside0.mk hl146_3
                                  clear hi146_3 hl146_3
                                  have HR146_4 := Aside0.mk hi146_4
                                  have HC146_4 := Aside0.mk hl146_4
                                  clear hi146_4 hl146_4
                                  replace p146 := eq_true p146
                                  replace q146 := eq_true q146
                                  have ea_ := Option.some.inj (hx145_3.symm.trans hx146_3)
                                  injection ea_ with ea_ en_ ec_
                                  subst ea_
                                  subst ec_
                                  clear en_
                                  have ea_ := Option.some.inj (hx145_4.symm.trans hx146_4)
                                  injection ea_ with ea_ en_ ec_
                                  subst ea_
                                  subst ec_
                                  clear en_
                                  go_wp2_with (first | (go_at_call 98; (with_reducible refine (tree_fits.calls ((rd_T49 l0 (rd ((rd_T49 l0 a1).f4) x21_1)).f0) ((rd_T49 l0 (rd ((rd_T49 l0 a1).f4) x21_1)).f1) ((rd_T49 l0 (rd ((rd_T49 l0 a1).f4) x21_1)).f2) _ _ ((rd_T49 l0 (rd ((rd_T49 l0 a1).f4) x21_1)).f3) _ _ ((rd_T49 l0 (rd ((rd_T49 l0 a1).f4) x21_1)).f4) true _ ?side1 ?side2 ?side3 ?side4 A16.out).mono ?_); (case side1 => repeat (first | exact (Kd.C_below HR146_3.out HB.out) | (with_reducible refine Kd.C_alloc ?_ _) | (with_reducible refine Kd.C_drewN ?_ _) | (with_reducible refine Kd.C_drew ?_))); (case side2 => exact HC146_3.out); (case side3 => repeat (first | exact (Kd.C_below HR146_4.out HB.out) | (with_reducible refine Kd.C_alloc ?_ _) | (with_reducible refine Kd.C_drewN ?_ _) | (with_reducible refine Kd.C_drew ?_))); (case side4 => exact HC146_4.out); rintro e w19 ⟨rfl, hb⟩; have n0_ := Aside0.mk (below_step (by repeat (first | (with_reducible first | exact HB.out | apply below_alloc | apply pw_below_drewN | apply below_drew1) | exact HB.out)) hb); clear HB; have HB := n0_; clear n0_; (try clear hb); (try clear hb2); (try clear hk); (try clear hi); have p148 : 0 ≤ ((rd ((rd_T49 l0 a1).f4) x21_1) : Int) := of_decide_eq_true (by first | (with_reducible assumption) | assumption); have q148 : (rd ((rd_T49 l0 a1).f4) x21_1) < (l0.length : Int) := of_decide_eq_true (by first | (with_reducible assumption) | assumption); obtain ⟨ad148, A148_3, c148_3, A148_4, c148_4, e148, hx148_0, hx148_1, hx148_2, hx148_3, hx148_4, hl148_3, hi148_3, hl148_4, hi148_4⟩ := at_T49 HR0.out (rd ((rd_T49 l0 a1).f4) x21_1) p148 q148; obtain rfl : ad143 = ad148 := (by injection e148); replace hx148_0 := (HB.out.cell (World.block_lt_of_cell? w _ hx148_0)).trans hx148_0; replace hx148_1 := (HB.out.cell (World.block_lt_of_cell? w _ hx148_1)).trans hx148_1; replace hx148_2 := (HB.out.cell (World.block_lt_of_cell? w _ hx148_2)).trans hx148_2; replace hx148_3 := (HB.out.cell (World.block_lt_of_cell? w _ hx148_3)).trans hx148_3; replace hx148_4 := (HB.out.cell (World.block_lt_of_cell? w _ hx148_4)).trans hx148_4; have HR148_3 := Aside0.mk hi148_3; have HC148_3 := Aside0.mk hl148_3; clear hi148_3 hl148_3; have HR148_4 := Aside0.mk hi148_4; have HC148_4 := Aside0.mk hl148_4; clear hi148_4 hl148_4; replace p148 := eq_true p148; replace q148 := eq_true q148))
                                  go_meet
                                  case rel => exact ⟨_, ((((rd_T49 l0 (rd ((rd_T49 l0 a1).f4) x21_1)).f1).toList == ([] : List UInt8))), (by first | rfl | (simp; done) | (simp [*]; done)), H', ⟨by have := HK1.out; first | omega | exact Nat.le_refl _⟩, ⟨by repeat (first | (with_reducible first | exact HB.out | apply below_alloc | apply pw_below_drewN | apply below_drew1) | exact HB.out)⟩⟩
                                · replace c18 := Bool.eq_false_iff.mpr c18
                                  subst c18
                                  have H1 : (tree_walk.j1 k1 l0 a1 a2 (rd ((rd_T49 l0 a1).f4) x21_1) ((rd_T49 l0 a1).f4) (((rd_T49 l0 a1).f4).length : Int) x21_1 false) = some r := by rw [if_neg (show ¬ (false = true) by decide)] at H; exact H
                                  clear H
                                  have H := H1
                                  clear H1
                                  have H' := Aside0.mk H
                                  clear H
                                  have p145 : 0 ≤ ((rd ((rd_T49 l0 a1).f4) x21_1) : Int) := of_decide_eq_true (by first | (with_reducible assumption) | assumption)
                                  have q145 : (rd ((rd_T49 l0 a1).f4) x21_1) < (l0.length : Int) := of_decide_eq_true (by first | (with_reducible assumption) | assumption)
                                  obtain ⟨ad145, A145_3, c145_3, A145_4, c145_4, e145, hx145_0, hx145_1, hx145_2, hx145_3, hx145_4, hl145_3, hi145_3, hl145_4, hi145_4⟩ := at_T49 HR0.out (rd ((rd_T49 l0 a1).f4) x21_1) p145 q145
                                  obtain rfl : ad143 = ad145 := (by injection e145)
                                  replace hx145_0 := (HB.out.cell (World.block_lt_of_cell? w _ hx145_0)).trans hx145_0
                                  replace hx145_1 := (HB.out.cell (World.block_lt_of_cell? w _ hx145_1)).trans hx145_1
                                  replace hx145_2 := (HB.out.cell (World.block_lt_of_cell? w _ hx145_2)).trans hx145_2
                                  replace hx145_3 := (HB.out.cell (World.block_lt_of_cell? w _ hx145_3)).trans hx145_3
                                  replace hx145_4 := (HB.out.cell (World.block_lt_of_cell? w _ hx145_4)).trans hx145_4
                                  have HR145_3 := Aside0.mk hi145_3
                                  have HC145_3 := Aside0.mk hl145_3
                                  clear hi145_3 hl145_3
                                  have HR145_4 := Aside0.mk hi145_4
                                  have HC145_4 := Aside0.mk hl145_4
                                  clear hi145_4 hl145_4
                                  replace p145 := eq_true p145
                                  replace q145 := eq_true q145
                                  have p146 : 0 ≤ ((rd ((rd_T49 l0 a1).f4) x21_1) : Int) := of_decide_eq_true (by first | (with_reducible assumption) | assumption)
                                  have q146 : (rd ((rd_T49 l0 a1).f4) x21_1) < (l0.length : Int) := of_decide_eq_true (by first | (with_reducible assumption) | assumption)
                                  obtain ⟨ad146, A146_3, c146_3, A146_4, c146_4, e146, hx146_0, hx146_1, hx146_2, hx146_3, hx146_4, hl146_3, hi146_3, hl146_4, hi146_4⟩ := at_T49 HR0.out (rd ((rd_T49 l0 a1).f4) x21_1) p146 q146
                                  obtain rfl : ad143 = ad146 := (by injection e146)
                                  replace hx146_0 := (HB.out.cell (World.block_lt_of_cell? w _ hx146_0)).trans hx146_0
                                  replace hx146_1 := (HB.out.cell (World.block_lt_of_cell? w _ hx146_1)).trans hx146_1
                                  replace hx146_2 := (HB.out.cell (World.block_lt_of_cell? w _ hx146_2)).trans hx146_2
                                  replace hx146_3 := (HB.out.cell (World.block_lt_of_cell? w _ hx146_3)).trans hx146_3
                                  replace hx146_4 := (HB.out.cell (World.block_lt_of_cell? w _ hx146_4)).trans hx146_4
                                  have HR146_3 := Aside0.mk hi146_3
                                  have HC146_3 := Aside0.mk hl146_3
                                  clear hi146_3 hl146_3
                                  have HR146_4 := Aside0.mk hi146_4
                                  have HC146_4 := Aside0.mk hl146_4
                                  clear hi146_4 hl146_4
                                  replace p146 := eq_true p146
                                  replace q146 := eq_true q146
                                  have ea_ := Option.some.inj (hx145_3.symm.trans hx146_3)
                                  injection ea_ with ea_ en_ ec_
                                  subst ea_
                                  subst ec_
                                  clear en_
                                  have ea_ := Option.some.inj (hx145_4.symm.trans hx146_4)
                                  injection ea_ with ea_ en_ ec_
                                  subst ea_
                                  subst ec_
                                  clear en_
                                  go_wp2_with (first | (go_at_call 98; (with_reducible refine (tree_fits.calls ((rd_T49 l0 (rd ((rd_T49 l0 a1).f4) x21_1)).f0) ((rd_T49 l0 (rd ((rd_T49 l0 a1).f4) x21_1)).f1) ((rd_T49 l0 (rd ((rd_T49 l0 a1).f4) x21_1)).f2) _ _ ((rd_T49 l0 (rd ((rd_T49 l0 a1).f4) x21_1)).f3) _ _ ((rd_T49 l0 (rd ((rd_T49 l0 a1).f4) x21_1)).f4) true _ ?side1 ?side2 ?side3 ?side4 A16.out).mono ?_); (case side1 => repeat (first | exact (Kd.C_below HR146_3.out HB.out) | (with_reducible refine Kd.C_alloc ?_ _) | (with_reducible refine Kd.C_drewN ?_ _) | (with_reducible refine Kd.C_drew ?_))); (case side2 => exact HC146_3.out); (case side3 => repeat (first | exact (Kd.C_below HR146_4.out HB.out) | (with_reducible refine Kd.C_alloc ?_ _) | (with_reducible refine Kd.C_drewN ?_ _) | (with_reducible refine Kd.C_drew ?_))); (case side4 => exact HC146_4.out); rintro e w20 ⟨rfl, hb⟩; have n0_ := Aside0.mk (below_step (by repeat (first | (with_reducible first | exact HB.out | apply below_alloc | apply pw_below_drewN | apply below_drew1) | exact HB.out)) hb); clear HB; have HB := n0_; clear n0_; (try clear hb); (try clear hb2); (try clear hk); (try clear hi)))
                                  go_meet
                                  case rel => exact ⟨_, (false), (by first | rfl | (simp; done) | (simp [*]; done)), H', ⟨by have := HK1.out; first | omega | exact Nat.le_refl _⟩, ⟨by repeat (first | (with_reducible first | exact HB.out | apply below_alloc | apply pw_below_drewN | apply below_drew1) | exact HB.out)⟩⟩
                              · replace c17 := Bool.eq_false_iff.mpr c17
                                subst c17
                                have H1 : (tree_walk.j1 k1 l0 a1 a2 (rd ((rd_T49 l0 a1).f4) x21_1) ((rd_T49 l0 a1).f4) (((rd_T49 l0 a1).f4).length : Int) x21_1 true) = some r := by rw [if_neg (show ¬ (false = true) by decide)] at H; exact H
                                clear H
                                have H := H1
                                clear H1
                                have H' := Aside0.mk H
                                clear H
                                have p145 : 0 ≤ ((rd ((rd_T49 l0 a1).f4) x21_1) : Int) := of_decide_eq_true (by first | (with_reducible assumption) | assumption)
                                have q145 : (rd ((rd_T49 l0 a1).f4) x21_1) < (l0.length : Int) := of_decide_eq_true (by first | (with_reducible assumption) | assumption)
                                obtain ⟨ad145, A145_3, c145_3, A145_4, c145_4, e145, hx145_0, hx145_1, hx145_2, hx145_3, hx145_4, hl145_3, hi145_3, hl145_4, hi145_4⟩ := at_T49 HR0.out (rd ((rd_T49 l0 a1).f4) x21_1) p145 q145
                                obtain rfl : ad143 = ad145 := (by injection e145)
                                replace hx145_0 := (HB.out.cell (World.block_lt_of_cell? w _ hx145_0)).trans hx145_0
                                replace hx145_1 := (HB.out.cell (World.block_lt_of_cell? w _ hx145_1)).trans hx145_1
                                replace hx145_2 := (HB.out.cell (World.block_lt_of_cell? w _ hx145_2)).trans hx145_2
                                replace hx145_3 := (HB.out.cell (World.block_lt_of_cell? w _ hx145_3)).trans hx145_3
                                replace hx145_4 := (HB.out.cell (World.block_lt_of_cell? w _ hx145_4)).trans hx145_4
                                have HR145_3 := Aside0.mk hi145_3
                                have HC145_3 := Aside0.mk hl145_3
                                clear hi145_3 hl145_3
                                have HR145_4 := Aside0.mk hi145_4
                                have HC145_4 := Aside0.mk hl145_4
                                clear hi145_4 hl145_4
                                replace p145 := eq_true p145
                                replace q145 := eq_true q145
                                have p146 : 0 ≤ ((rd ((rd_T49 l0 a1).f4) x21_1) : Int) := of_decide_eq_true (by first | (with_reducible assumption) | assumption)
                                have q146 : (rd ((rd_T49 l0 a1).f4) x21_1) < (l0.length : Int) := of_decide_eq_true (by first | (with_reducible assumption) | assumption)
                                obtain ⟨ad146, A146_3, c146_3, A146_4, c146_4, e146, hx146_0, hx146_1, hx146_2, hx146_3, hx146_4, hl146_3, hi146_3, hl146_4, hi146_4⟩ := at_T49 HR0.out (rd ((rd_T49 l0 a1).f4) x21_1) p146 q146
                                obtain rfl : ad143 = ad146 := (by injection e146)
                                replace hx146_0 := (HB.out.cell (World.block_lt_of_cell? w _ hx146_0)).trans hx146_0
                                replace hx146_1 := (HB.out.cell (World.block_lt_of_cell? w _ hx146_1)).trans hx146_1
                                replace hx146_2 := (HB.out.cell (World.block_lt_of_cell? w _ hx146_2)).trans hx146_2
                                replace hx146_3 := (HB.out.cell (World.block_lt_of_cell? w _ hx146_3)).trans hx146_3
                                replace hx146_4 := (HB.out.cell (World.block_lt_of_cell? w _ hx146_4)).trans hx146_4
                                have HR146_3 := Aside0.mk hi146_3
                                have HC146_3 := Aside0.mk hl146_3
                                clear hi146_3 hl146_3
                                have HR146_4 := Aside0.mk hi146_4
                                have HC146_4 := Aside0.mk hl146_4
                                clear hi146_4 hl146_4
                                replace p146 := eq_true p146
                                replace q146 := eq_true q146
                                have ea_ := Option.some.inj (hx145_3.symm.trans hx146_3)
                                injection ea_ with ea_ en_ ec_
                                subst ea_
                                subst ec_
                                clear en_
                                have ea_ := Option.some.inj (hx145_4.symm.trans hx146_4)
                                injection ea_ with ea_ en_ ec_
                                subst ea_
                                subst ec_
                                clear en_
                                go_wp2_with (first | (go_at_call 98; (with_reducible refine (tree_fits.calls ((rd_T49 l0 (rd ((rd_T49 l0 a1).f4) x21_1)).f0) ((rd_T49 l0 (rd ((rd_T49 l0 a1).f4) x21_1)).f1) ((rd_T49 l0 (rd ((rd_T49 l0 a1).f4) x21_1)).f2) _ _ ((rd_T49 l0 (rd ((rd_T49 l0 a1).f4) x21_1)).f3) _ _ ((rd_T49 l0 (rd ((rd_T49 l0 a1).f4) x21_1)).f4) false _ ?side1 ?side2 ?side3 ?side4 A16.out).mono ?_); (case side1 => repeat (first | exact (Kd.C_below HR146_3.out HB.out) | (with_reducible refine Kd.C_alloc ?_ _) | (with_reducible refine Kd.C_drewN ?_ _) | (with_reducible refine Kd.C_drew ?_))); (case side2 => exact HC146_3.out); (case side3 => repeat (first | exact (Kd.C_below HR146_4.out HB.out) | (with_reducible refine Kd.C_alloc ?_ _) | (with_reducible refine Kd.C_drewN ?_ _) | (with_reducible refine Kd.C_drew ?_))); (case side4 => exact HC146_4.out); rintro e w21 ⟨rfl, hb⟩; have n0_ := Aside0.mk (below_step (by repeat (first | (with_reducible first | exact HB.out | apply below_alloc | apply pw_below_drewN | apply below_drew1) | exact HB.out)) hb); clear HB; have HB := n0_; clear n0_; (try clear hb); (try clear hb2); (try clear hk); (try clear hi)))
                                go_meet
                                case rel => exact ⟨_, (true), (by first | rfl | (simp; done) | (simp [*]; done)), H', ⟨by have := HK1.out; first | omega | exact Nat.le_refl _⟩, ⟨by repeat (first | (with_reducible first | exact HB.out | apply below_alloc | apply pw_below_drewN | apply below_drew1) | exact HB.out)⟩⟩
                            · rw [if_neg c15] at H
                              have c15b0 : (((rd_T49 l0 (rd ((rd_T49 l0 a1).f4) x21_1)).f0) == a1) = false := beq_eq_false_iff_ne.mpr c15
                              have c15b1 : (((rd_T49 l0 (rd ((rd_T49 l0 a1).f4) x21_1)).f0) != a1) = true := bne_iff_ne.mpr c15
                              have H' := Aside0.mk H
                              clear H
                              have p145 : 0 ≤ ((rd ((rd_T49 l0 a1).f4) x21_1) : Int) := of_decide_eq_true (by first | (with_reducible assumption) | assumption)
                              have q145 : (rd ((rd_T49 l0 a1).f4) x21_1) < (l0.length : Int) := of_decide_eq_true (by first | (with_reducible assumption) | assumption)
                              obtain ⟨ad145, A145_3, c145_3, A145_4, c145_4, e145, hx145_0, hx145_1, hx145_2, hx145_3, hx145_4, hl145_3, hi145_3, hl145_4, hi145_4⟩ := at_T49 HR0.out (rd ((rd_T49 l0 a1).f4) x21_1) p145 q145
                              obtain rfl : ad143 = ad145 := (by injection e145)
                              replace hx145_0 := (HB.out.cell (World.block_lt_of_cell? w _ hx145_0)).trans hx145_0
                              replace hx145_1 := (HB.out.cell (World.block_lt_of_cell? w _ hx145_1)).trans hx145_1
                              replace hx145_2 := (HB.out.cell (World.block_lt_of_cell? w _ hx145_2)).trans hx145_2
                              replace hx145_3 := (HB.out.cell (World.block_lt_of_cell? w _ hx145_3)).trans hx145_3
                              replace hx145_4 := (HB.out.cell (World.block_lt_of_cell? w _ hx145_4)).trans hx145_4
                              have HR145_3 := Aside0.mk hi145_3
                              have HC145_3 := Aside0.mk hl145_3
                              clear hi145_3 hl145_3
                              have HR145_4 := Aside0.mk hi145_4
                              have HC145_4 := Aside0.mk hl145_4
                              clear hi145_4 hl145_4
                              replace p145 := eq_true p145
                              replace q145 := eq_true q145
                              go_wp2
                              go_meet
                              case rel => exact ⟨_, (true), (by first | rfl | (simp; done) | (simp [*]; done)), H', ⟨by have := HK1.out; first | omega | exact Nat.le_refl _⟩, ⟨by repeat (first | (with_reducible first | exact HB.out | apply below_alloc | apply pw_below_drewN | apply below_drew1) | exact HB.out)⟩⟩
                          · rw [if_neg c14] at H
                            exact absurd H (by simp)
                        · rw [if_neg c13] at H
                          exact absurd H (by simp)
                    · rw [if_neg c11] at H
                      have c11b0 : ((rd ((rd_T49 l0 a1).f4) x21_1) == x7_1) = false := beq_eq_false_iff_ne.mpr c11
                      have c11b1 : ((rd ((rd_T49 l0 a1).f4) x21_1) != x7_1) = true := bne_iff_ne.mpr c11
                      (first | rw [c11b0] | (simp only [i64_w, i32_w]; rw [c11b0]) | skip)
                      have H' := Aside0.mk H
                      clear H
                      go_wp2
                      go_meet
                      case rel => exact ⟨_, (true), (by first | rfl | (simp; done) | (simp [*]; done)), H', ⟨by have := HK1.out; first | omega | exact Nat.le_refl _⟩, ⟨by repeat (first | (with_reducible first | exact HB.out | apply below_alloc | apply pw_below_drewN | apply below_drew1) | exact HB.out)⟩⟩
                  case rest =>
                    clear HC10
                    try clear c1
                    try clear p1
                    try clear q1
                    try clear hx1
                    try clear p2
                    try clear c4
                    try clear c4b0
                    try clear c5
                    try clear c5b0
                    try clear c6
                    try clear c6b0
                    try clear p6
                    try clear c7
                    try clear c7b0
                    try clear c8
                    try clear c8b0
                    try clear c9
                    try clear c9b0
                    try clear c11
                    try clear c11b0
                    try clear c11b1
                    try clear c12
                    try clear c12b0
                    try clear c13
                    try clear c13b0
                    try clear c14
                    try clear c14b0
                    try clear p14
                    try clear q14
                    try clear hx14
                    try clear c15
                    try clear c15b0
                    try clear c15b1
                    try clear c17
                    try clear c18
                    try clear hx143_0
                    try clear hx143_1
                    try clear hx143_2
                    try clear hx143_3
                    try clear hx143_4
                    try clear hx144_0
                    try clear hx145_0
                    try clear hx145_1
                    try clear hx145_2
                    try clear hx145_3
                    try clear hx145_4
                    try clear hx146_0
                    try clear hx146_1
                    try clear hx146_2
                    try clear hx146_3
                    try clear hx146_4
                    try clear hx148_0
                    try clear hx148_1
                    try clear hx148_2
                    try clear hx148_3
                    try clear hx148_4
                    try clear p1
                    try clear p143
                    try clear p144
                    try clear p145
                    try clear p146
                    try clear p148
                    try clear p2
                    try clear p6
                    try clear q1
                    try clear q143
                    try clear q144
                    try clear q145
                    try clear q146
                    try clear q148
                    obtain ⟨kq, x61_9, rfl, HA, HJ9, HB⟩ := hcut
                    cases kq with
                    | zero => exact absurd HA.out (by simp [tree_walk.j1])
                    | succ kj9 =>
                      have H := HA.out
                      clear HA
                      simp only [tree_walk.j1] at H
                      by_cases c22 : x61_9 = true
                      · subst c22
                        have H1 : (some (-1)) = some r := by rw [if_pos rfl] at H; exact H
                        clear H
                        have H := H1
                        clear H1
                        obtain rfl := Option.some.inj H
                        go_wp2
                        go_ret
                        exact ⟨by first | rfl | (simp [errW_none, errW_some] <;> rfl) | (simp [*, errW_none, errW_some] <;> rfl), by repeat (first | (with_reducible first | exact HB.out | apply below_alloc | apply pw_below_drewN | apply below_drew1) | exact HB.out)⟩
                      · replace c22 := Bool.eq_false_iff.mpr c22
                        subst c22
                        have H1 : (if 0 ≤ (rd ((rd_T49 l0 a1).f4) x21_1) then (if (rd ((rd_T49 l0 a1).f4) x21_1) < (l0.length : Int) then ((tree_walk.f kj9 l0 (rd ((rd_T49 l0 a1).f4) x21_1) (wrap64 (a2 + 1))).bind fun t150 => (if t150 = (-1) then (some (-1)) else (tree_walk.l0 kj9 l0 a1 a2 t150 (((rd_T49 l0 (rd ((rd_T49 l0 a1).f4) x21_1)).f1).toList == ([] : List UInt8)) ((rd_T49 l0 a1).f4) (((rd_T49 l0 a1).f4).length : Int) (wrap64 (x21_1 + 1))))) else (none)) else (none)) = some r := by rw [if_neg (show ¬ (false = true) by decide)] at H; exact H
                        clear H
                        have H := H1
                        clear H1
                        by_cases c23 : 0 ≤ (rd ((rd_T49 l0 a1).f4) x21_1)
                        · rw [if_pos c23] at H
                          have c23b0 : decide (0 ≤ (rd ((rd_T49 l0 a1).f4) x21_1)) = true := decide_eq_true c23
                          clear c23
                          by_cases c24 : (rd ((rd_T49 l0 a1).f4) x21_1) < (l0.length : Int)
                          · rw [if_pos c24] at H
                            have c24b0 : decide ((rd ((rd_T49 l0 a1).f4) x21_1) < (l0.length : Int)) = true := decide_eq_true c24
                            clear c24
                            replace H := Option.bind_eq_some_iff.mp H
                            obtain ⟨t150, A250, H⟩ := H
                            replace H : (if t150 = (-1) then (some (-1)) else (tree_walk.l0 kj9 l0 a1 a2 t150 (((rd_T49 l0 (rd ((rd_T49 l0 a1).f4) x21_1)).f1).toList == ([] : List UInt8)) ((rd_T49 l0 a1).f4) (((rd_T49 l0 a1).f4).length : Int) (wrap64 (x21_1 + 1)))) = some r := H
                            have A25 := Aside0.mk A250
                            clear A250
                            by_cases c26 : t150 = (-1)
                            · rw [if_pos c26] at H
                              have c26b0 : (t150 == (-1)) = true := beq_iff_eq.mpr c26
                              have c26b1 : (t150 != (-1)) = false := bne_eq_false_iff_eq.mpr c26
                              clear c26
                              obtain rfl := Option.some.inj H
                              have p149 : 0 ≤ ((rd ((rd_T49 l0 a1).f4) x21_1) : Int) := of_decide_eq_true (by first | (with_reducible assumption) | assumption)
                              have q149 : (rd ((rd_T49 l0 a1).f4) x21_1) < (l0.length : Int) := of_decide_eq_true (by first | (with_reducible assumption) | assumption)
                              obtain ⟨ad149, A149_3, c149_3, A149_4, c149_4, e149, hx149_0, hx149_1, hx149_2, hx149_3, hx149_4, hl149_3, hi149_3, hl149_4, hi149_4⟩ := at_T49 HR0.out (rd ((rd_T49 l0 a1).f4) x21_1) p149 q149
                              obtain rfl : ad143 = ad149 := (by injection e149)
                              replace hx149_0 := (HB.out.cell (World.block_lt_of_cell? w _ hx149_0)).trans hx149_0
                              replace hx149_1 := (HB.out.cell (World.block_lt_of_cell? w _ hx149_1)).trans hx149_1
                              replace hx149_2 := (HB.out.cell (World.block_lt_of_cell? w _ hx149_2)).trans hx149_2
                              replace hx149_3 := (HB.out.cell (World.block_lt_of_cell? w _ hx149_3)).trans hx149_3
                              replace hx149_4 := (HB.out.cell (World.block_lt_of_cell? w _ hx149_4)).trans hx149_4
                              have HR149_3 := Aside0.mk hi149_3
                              have HC149_3 := Aside0.mk hl149_3
                              clear hi149_3 hl149_3
                              have HR149_4 := Aside0.mk hi149_4
                              have HC149_4 := Aside0.mk hl149_4
                              clear hi149_4 hl149_4
                              replace p149 := eq_true p149
                              replace q149 := eq_true q149
                              go_wp2_with (first | ((with_reducible refine gate_callee (f := 66) rfl ?_); refine goesL_ (some 72) rfl rfl Tryz.func66 (by kernel_rfl) rfl #[.slice (some ad143) l0.length c0, .int .i64 (rd ((rd_T49 l0 a1).f4) x21_1), .int .i64 (wrap64 (a2 + 1))] rfl (by (try simp only [List.map_toArray, List.map_cons, List.map_nil]); first | done | rfl | (simp only [List.length_drop, List.length_take]; rfl)) ?_; (with_reducible refine (ih kj9 (by have := HK1.out; have := HJ9.out; omega) _ _ l0 (rd ((rd_T49 l0 a1).f4) x21_1) (wrap64 (a2 + 1)) t150 _ ?side1 ?side2 A25.out).mono ?_); (case side1 => repeat (first | exact (Kd.C_below HR0.out HB.out) | (with_reducible refine Kd.C_alloc ?_ _) | (with_reducible refine Kd.C_drewN ?_ _) | (with_reducible refine Kd.C_drew ?_))); (case side2 => exact HC0.out); rintro e w27 ⟨rfl, hb⟩; refine ⟨_, rfl, ?_⟩; have n0_ := Aside0.mk (below_step (by repeat (first | (with_reducible first | exact HB.out | apply below_alloc | apply pw_below_drewN | apply below_drew1) | exact HB.out)) hb); clear HB; have HB := n0_; clear n0_; (try clear hb); (try clear hb2); (try clear hk); (try clear hi)))
                              go_ret
                              exact ⟨by first | rfl | (simp [errW_none, errW_some] <;> rfl) | (simp [*, errW_none, errW_some] <;> rfl), by repeat (first | (with_reducible first | exact HB.out | apply below_alloc | apply pw_below_drewN | apply below_drew1) | exact HB.out)⟩
                            · rw [if_neg c26] at H
                              have c26b0 : (t150 == (-1)) = false := beq_eq_false_iff_ne.mpr c26
                              have c26b1 : (t150 != (-1)) = true := bne_iff_ne.mpr c26
                              have H' := Aside0.mk H
                              clear H
                              have p149 : 0 ≤ ((rd ((rd_T49 l0 a1).f4) x21_1) : Int) := of_decide_eq_true (by first | (with_reducible assumption) | assumption)
                              have q149 : (rd ((rd_T49 l0 a1).f4) x21_1) < (l0.length : Int) := of_decide_eq_true (by first | (with_reducible assumption) | assumption)
                              obtain ⟨ad149, A149_3, c149_3, A149_4, c149_4, e149, hx149_0, hx149_1, hx149_2, hx149_3, hx149_4, hl149_3, hi149_3, hl149_4, hi149_4⟩ := at_T49 HR0.out (rd ((rd_T49 l0 a1).f4) x21_1) p149 q149
                              obtain rfl : ad143 = ad149 := (by injection e149)
                              replace hx149_0 := (HB.out.cell (World.block_lt_of_cell? w _ hx149_0)).trans hx149_0
                              replace hx149_1 := (HB.out.cell (World.block_lt_of_cell? w _ hx149_1)).trans hx149_1
                              replace hx149_2 := (HB.out.cell (World.block_lt_of_cell? w _ hx149_2)).trans hx149_2
                              replace hx149_3 := (HB.out.cell (World.block_lt_of_cell? w _ hx149_3)).trans hx149_3
                              replace hx149_4 := (HB.out.cell (World.block_lt_of_cell? w _ hx149_4)).trans hx149_4
                              have HR149_3 := Aside0.mk hi149_3
                              have HC149_3 := Aside0.mk hl149_3
                              clear hi149_3 hl149_3
                              have HR149_4 := Aside0.mk hi149_4
                              have HC149_4 := Aside0.mk hl149_4
                              clear hi149_4 hl149_4
                              replace p149 := eq_true p149
                              replace q149 := eq_true q149
                              go_wp2_with (first | ((with_reducible refine gate_callee (f := 66) rfl ?_); refine goesL_ (some 72) rfl rfl Tryz.func66 (by kernel_rfl) rfl #[.slice (some ad143) l0.length c0, .int .i64 (rd ((rd_T49 l0 a1).f4) x21_1), .int .i64 (wrap64 (a2 + 1))] rfl (by (try simp only [List.map_toArray, List.map_cons, List.map_nil]); first | done | rfl | (simp only [List.length_drop, List.length_take]; rfl)) ?_; (with_reducible refine (ih kj9 (by have := HK1.out; have := HJ9.out; omega) _ _ l0 (rd ((rd_T49 l0 a1).f4) x21_1) (wrap64 (a2 + 1)) t150 _ ?side1 ?side2 A25.out).mono ?_); (case side1 => repeat (first | exact (Kd.C_below HR0.out HB.out) | (with_reducible refine Kd.C_alloc ?_ _) | (with_reducible refine Kd.C_drewN ?_ _) | (with_reducible refine Kd.C_drew ?_))); (case side2 => exact HC0.out); rintro e w28 ⟨rfl, hb⟩; refine ⟨_, rfl, ?_⟩; have n0_ := Aside0.mk (below_step (by repeat (first | (with_reducible first | exact HB.out | apply below_alloc | apply pw_below_drewN | apply below_drew1) | exact HB.out)) hb); clear HB; have HB := n0_; clear n0_; (try clear hb); (try clear hb2); (try clear hk); (try clear hi)))
                              go_roundg kj9
                              case measure => have := HK1.out; have := HJ9.out; omega
                              case rel => exact ⟨(t150), ((((rd_T49 l0 (rd ((rd_T49 l0 a1).f4) x21_1)).f1).toList == ([] : List UInt8))), (wrap64 (x21_1 + 1)), (by first | rfl | (simp; done) | (simp [*]; done)), (by first | rfl | (simp; done) | (simp [*]; done)), (by first | rfl | (simp; done) | (simp [*]; done)), H', ⟨by have := HK1.out; have := HJ9.out; omega⟩, ⟨by repeat (first | (with_reducible first | exact HB.out | apply below_alloc | apply pw_below_drewN | apply below_drew1) | exact HB.out)⟩⟩
                          · rw [if_neg c24] at H
                            exact absurd H (by simp)
                        · rw [if_neg c23] at H
                          exact absurd H (by simp)
                · rw [if_neg c9] at H
                  exact absurd H (by simp)
              · rw [if_neg c8] at H
                exact absurd H (by simp)
            · rw [if_neg c7] at H
              have c7b0 : decide (x21_1 < (((rd_T49 l0 a1).f4).length : Int)) = false := decide_eq_false c7
              clear c7
              obtain rfl := Option.some.inj H
              go_wp2
              go_ret
              exact ⟨by first | rfl | (simp [errW_none, errW_some] <;> rfl) | (simp [*, errW_none, errW_some] <;> rfl), by repeat (first | (with_reducible first | exact HB.out | apply below_alloc | apply pw_below_drewN | apply below_drew1) | exact HB.out)⟩
      · rw [if_neg c6] at H
        exact absurd H (by simp)
    · rw [if_neg c5] at H
      exact absurd H (by simp)
def tree_May.f (k : Nat) (l0 : List (S49)) : Option (Bool) := if (l0.length : Int) = 0 then (some false) else (if (l0.length : Int) > 60 then (some false) else (if 0 < (l0.length : Int) then (if ((rd_T49 l0 0).f0) = (-1) then (if ((rd_T49 l0 0).f1).toList = ([114, 111, 111, 116] : List UInt8) then (if ((rd_T49 l0 0).f2).toList = ([] : List UInt8) then (if (((rd_T49 l0 0).f3).length : Int) = 0 then ((tree_walk.f k l0 0 0).bind fun t153 => (some (t153 == (l0.length : Int)))) else (some false)) else (some false)) else (some false)) else (some false)) else (none)))
set_option maxHeartbeats 8000000 in
set_option maxRecDepth 100000 in
theorem tree_May.calls (k : Nat) (A0 : Option Addr) (c0 : Nat) (l0 : List (S49)) (r : Bool) (w : World) (hr0 : Kd.C k49 w A0 l0.length l0) (hc0 : l0.length ≤ c0) (h : tree_May.f k l0 = some r) :
    Calls Tryz.prog 28 #[.slice A0 l0.length c0] w fun e w' => e = .returned (.bool r) ∧ Below w.heap.size w w' := by
  have hu49 := Tryz.underlying49
  have HR0 := Aside0.mk hr0
  have HC0 := Aside0.mk hc0
  clear hr0 hc0
  have HB := Aside0.mk (Below.refl w.heap.size w)
  have H : (if (l0.length : Int) = 0 then (some false) else (if (l0.length : Int) > 60 then (some false) else (if 0 < (l0.length : Int) then (if ((rd_T49 l0 0).f0) = (-1) then (if ((rd_T49 l0 0).f1).toList = ([114, 111, 111, 116] : List UInt8) then (if ((rd_T49 l0 0).f2).toList = ([] : List UInt8) then (if (((rd_T49 l0 0).f3).length : Int) = 0 then ((tree_walk.f k l0 0 0).bind fun t153 => (some (t153 == (l0.length : Int)))) else (some false)) else (some false)) else (some false)) else (some false)) else (none)))) = some r := h
  clear h
  by_cases c2 : (l0.length : Int) = 0
  · rw [if_pos c2] at H
    have c2b0 : ((l0.length : Int) == 0) = true := beq_iff_eq.mpr c2
    have c2b1 : ((l0.length : Int) != 0) = false := bne_eq_false_iff_eq.mpr c2
    clear c2
    obtain rfl := Option.some.inj H
    go_enter Tryz.func28, Tryz.ntmps28
    go_wp2
    go_ret
    exact ⟨by first | rfl | (simp [errW_none, errW_some] <;> rfl) | (simp [*, errW_none, errW_some] <;> rfl), by repeat (first | (with_reducible first | exact HB.out | apply below_alloc | apply pw_below_drewN | apply below_drew1) | exact HB.out)⟩
  · rw [if_neg c2] at H
    have c2b0 : ((l0.length : Int) == 0) = false := beq_eq_false_iff_ne.mpr c2
    have c2b1 : ((l0.length : Int) != 0) = true := bne_iff_ne.mpr c2
    have c2b2 : ¬ (l0 = []) := fun h_ => c2 (by rw [h_]; rfl)
    by_cases c3 : (l0.length : Int) > 60
    · rw [if_pos c3] at H
      have c3b0 : decide (60 < (l0.length : Int)) = true := decide_eq_true c3
      have c3b1 : decide (60 < l0.length) = true := decide_eq_true (by omega)
      clear c3
      obtain rfl := Option.some.inj H
      go_enter Tryz.func28, Tryz.ntmps28
      go_wp2
      go_ret
      exact ⟨by first | rfl | (simp [errW_none, errW_some] <;> rfl) | (simp [*, errW_none, errW_some] <;> rfl), by repeat (first | (with_reducible first | exact HB.out | apply below_alloc | apply pw_below_drewN | apply below_drew1) | exact HB.out)⟩
    · rw [if_neg c3] at H
      have c3b0 : decide (60 < (l0.length : Int)) = false := decide_eq_false c3
      have c3b1 : decide (60 < l0.length) = false := decide_eq_false (by omega)
      clear c3
      by_cases c4 : 0 < (l0.length : Int)
      · rw [if_pos c4] at H
        have c4b0 : decide (0 < (l0.length : Int)) = true := decide_eq_true c4
        have c4b1 : decide (0 < l0.length) = true := decide_eq_true (by omega)
        clear c4
        by_cases c5 : ((rd_T49 l0 0).f0) = (-1)
        · rw [if_pos c5] at H
          have c5b0 : (((rd_T49 l0 0).f0) == (-1)) = true := beq_iff_eq.mpr c5
          have c5b1 : (((rd_T49 l0 0).f0) != (-1)) = false := bne_eq_false_iff_eq.mpr c5
          clear c5
          by_cases c6 : ((rd_T49 l0 0).f1).toList = ([114, 111, 111, 116] : List UInt8)
          · rw [if_pos c6] at H
            have c6b0 : (((rd_T49 l0 0).f1).toList == ([114, 111, 111, 116] : List UInt8)) = true := beq_iff_eq.mpr c6
            have c6b1 : (((rd_T49 l0 0).f1).toList != ([114, 111, 111, 116] : List UInt8)) = false := bne_eq_false_iff_eq.mpr c6
            clear c6
            by_cases c7 : ((rd_T49 l0 0).f2).toList = ([] : List UInt8)
            · rw [if_pos c7] at H
              have c7b0 : (((rd_T49 l0 0).f2).toList == ([] : List UInt8)) = true := beq_iff_eq.mpr c7
              have c7b1 : (((rd_T49 l0 0).f2).toList != ([] : List UInt8)) = false := bne_eq_false_iff_eq.mpr c7
              clear c7
              by_cases c8 : (((rd_T49 l0 0).f3).length : Int) = 0
              · rw [if_pos c8] at H
                have c8b0 : ((((rd_T49 l0 0).f3).length : Int) == 0) = true := beq_iff_eq.mpr c8
                have c8b1 : ((((rd_T49 l0 0).f3).length : Int) != 0) = false := bne_eq_false_iff_eq.mpr c8
                clear c8
                replace H := Option.bind_eq_some_iff.mp H
                obtain ⟨t153, A90, H⟩ := H
                replace H : (some (t153 == (l0.length : Int))) = some r := H
                have A9 := Aside0.mk A90
                clear A90
                obtain rfl := Option.some.inj H
                have p151 : 0 ≤ (0 : Int) := (by omega)
                have q151 : 0 < (l0.length : Int) := of_decide_eq_true (by first | (with_reducible assumption) | assumption)
                obtain ⟨ad151, A151_3, c151_3, A151_4, c151_4, e151, hx151_0, hx151_1, hx151_2, hx151_3, hx151_4, hl151_3, hi151_3, hl151_4, hi151_4⟩ := at_T49 HR0.out 0 p151 q151
                cases e151
                have qi151 : (0 < l0.length) = True := eq_true (by omega)
                (try rw [show ((0 : Int)).toNat = 0 from rfl] at hx151_0)
                (try rw [show 0 * 5 = 0 from rfl] at hx151_0)
                (try rw [Addr.add_zero'] at hx151_0)
                (try rw [show ((0 : Int)).toNat = 0 from rfl] at hx151_1)
                (try rw [show 0 * 5 = 0 from rfl] at hx151_1)
                (try rw [Addr.add_zero'] at hx151_1)
                (try rw [show ((0 : Int)).toNat = 0 from rfl] at hx151_2)
                (try rw [show 0 * 5 = 0 from rfl] at hx151_2)
                (try rw [Addr.add_zero'] at hx151_2)
                (try rw [show ((0 : Int)).toNat = 0 from rfl] at hx151_3)
                (try rw [show 0 * 5 = 0 from rfl] at hx151_3)
                (try rw [Addr.add_zero'] at hx151_3)
                (try rw [show ((0 : Int)).toNat = 0 from rfl] at hx151_4)
                (try rw [show 0 * 5 = 0 from rfl] at hx151_4)
                (try rw [Addr.add_zero'] at hx151_4)
                have HR151_3 := Aside0.mk hi151_3
                have HC151_3 := Aside0.mk hl151_3
                clear hi151_3 hl151_3
                have HR151_4 := Aside0.mk hi151_4
                have HC151_4 := Aside0.mk hl151_4
                clear hi151_4 hl151_4
                replace p151 := eq_true p151
                replace q151 := eq_true q151
                go_enter Tryz.func28, Tryz.ntmps28
                go_wp2_with (first | ((with_reducible refine gate_dst (N := 3) rfl ?_); (try (refine gate_guard (by rfl) ?_; dsimp only)); refine box_event ?hg (N := 3) ?hd (cs := #[.int .i64 0, .string (⟨#[]⟩ : ByteArray), .string (⟨#[]⟩ : ByteArray), .slice none 0 0, .slice none 0 0]) (t := 49) ?hr ?_; (case hd => rfl); (case hg => rfl); (case hr => first | (go_simp; done) | (go_simp; rfl)); intro gb152 hg w10 hbox hb; have n0_ := Aside0.mk (below_step (by repeat (first | (with_reducible first | exact HB.out | apply below_alloc | apply pw_below_drewN | apply below_drew1) | exact HB.out)) hb); have n1_ := Aside0.mk (hbox); have n2_ := Aside0.mk ((by rw [hg]; exact (below_size (by repeat (first | (with_reducible first | exact HB.out | apply below_alloc | apply pw_below_drewN | apply below_drew1) | exact HB.out))) : w.heap.size ≤ gb152)); have n3_ := Aside0.mk ((by rw [hg]; exact (below_size (by repeat (first | (with_reducible first | exact HB.out | apply below_alloc | apply pw_below_drewN | apply below_drew1) | exact HB.out))) : w.heap.size ≤ gb152)); clear HB; have HB := n0_; have BK152 := n1_; have GW152 := n2_; have GE152 := n3_; clear n0_ n1_ n2_ n3_; clear hb hbox hg; have hcz11_0 : w10.cell? ⟨gb152, 0, none⟩ = some (.int .i64 0) := (blk_cell BK152.out 0).trans rfl; have hcz11_1 : w10.cell? ⟨gb152, 1, none⟩ = some (.string (⟨#[]⟩ : ByteArray)) := (blk_cell BK152.out 1).trans rfl; have hcz11_2 : w10.cell? ⟨gb152, 2, none⟩ = some (.string (⟨#[]⟩ : ByteArray)) := (blk_cell BK152.out 2).trans rfl; have hcz11_3 : w10.cell? ⟨gb152, 3, none⟩ = some (.slice none 0 0) := (blk_cell BK152.out 3).trans rfl; have hcz11_4 : w10.cell? ⟨gb152, 4, none⟩ = some (.slice none 0 0) := (blk_cell BK152.out 4).trans rfl; have hfz11_0 := blk_frozen BK152.out 0; have hfz11_1 := blk_frozen BK152.out 1; have hfz11_2 := blk_frozen BK152.out 2; have hfz11_3 := blk_frozen BK152.out 3; have hfz11_4 := blk_frozen BK152.out 4) | (go_at_call 66; (with_reducible refine (tree_walk.calls k _ _ l0 0 0 t153 _ ?side1 ?side2 A9.out).mono ?_); (case side1 => exact Kd.C_below HR0.out (by repeat (first | (with_reducible first | exact HB.out | apply below_alloc | apply pw_below_drewN | apply below_drew1 | refine below_set ?_ GE152.out) | exact HB.out))); (case side2 => exact HC0.out); rintro e w12 ⟨rfl, hb⟩; have n0_ := Aside0.mk (blk_below (g := gb152) (o := .cells #[.int .i64 ((rd_T49 l0 0).f0), .string ((rd_T49 l0 0).f1), .string ((rd_T49 l0 0).f2), .slice A151_3 ((rd_T49 l0 0).f3).length c151_3, .slice A151_4 ((rd_T49 l0 0).f4).length c151_4] 49 (0, 0)) (by (with_reducible repeat (first | refine blk_drewN ?_ _ | refine blk_drew ?_ | refine blk_alloc ?_ _)); refine blk_put (cs := #[.int .i64 ((rd_T49 l0 0).f0), .string ((rd_T49 l0 0).f1), .string ((rd_T49 l0 0).f2), .slice A151_3 ((rd_T49 l0 0).f3).length c151_3, .slice none 0 0]) ?_ 4 _ rfl; (with_reducible repeat (first | refine blk_drewN ?_ _ | refine blk_drew ?_ | refine blk_alloc ?_ _)); refine blk_put (cs := #[.int .i64 ((rd_T49 l0 0).f0), .string ((rd_T49 l0 0).f1), .string ((rd_T49 l0 0).f2), .slice none 0 0, .slice none 0 0]) ?_ 3 _ rfl; (with_reducible repeat (first | refine blk_drewN ?_ _ | refine blk_drew ?_ | refine blk_alloc ?_ _)); refine blk_put (cs := #[.int .i64 ((rd_T49 l0 0).f0), .string ((rd_T49 l0 0).f1), .string (⟨#[]⟩ : ByteArray), .slice none 0 0, .slice none 0 0]) ?_ 2 _ rfl; (with_reducible repeat (first | refine blk_drewN ?_ _ | refine blk_drew ?_ | refine blk_alloc ?_ _)); refine blk_put (cs := #[.int .i64 ((rd_T49 l0 0).f0), .string (⟨#[]⟩ : ByteArray), .string (⟨#[]⟩ : ByteArray), .slice none 0 0, .slice none 0 0]) ?_ 1 _ rfl; (with_reducible repeat (first | refine blk_drewN ?_ _ | refine blk_drew ?_ | refine blk_alloc ?_ _)); refine blk_put (cs := #[.int .i64 0, .string (⟨#[]⟩ : ByteArray), .string (⟨#[]⟩ : ByteArray), .slice none 0 0, .slice none 0 0]) ?_ 0 _ rfl; (with_reducible repeat (first | refine blk_drewN ?_ _ | refine blk_drew ?_ | refine blk_alloc ?_ _)); exact BK152.out) hb); have n1_ := Aside0.mk (below_step (by repeat (first | (with_reducible first | exact HB.out | apply below_alloc | apply pw_below_drewN | apply below_drew1 | refine below_set ?_ GE152.out) | exact HB.out)) hb); clear BK152; clear HB; have BK152 := n0_; have HB := n1_; clear n0_ n1_; (try clear hb); (try clear hb2); (try clear hk); (try clear hi)))
                go_ret
                exact ⟨by first | rfl | (simp [errW_none, errW_some] <;> rfl) | (simp [*, errW_none, errW_some] <;> rfl), by repeat (first | (with_reducible first | exact HB.out | apply below_alloc | apply pw_below_drewN | apply below_drew1 | refine below_set ?_ GE152.out) | exact HB.out)⟩
              · rw [if_neg c8] at H
                have c8b0 : ((((rd_T49 l0 0).f3).length : Int) == 0) = false := beq_eq_false_iff_ne.mpr c8
                have c8b1 : ((((rd_T49 l0 0).f3).length : Int) != 0) = true := bne_iff_ne.mpr c8
                have c8b2 : ¬ (((rd_T49 l0 0).f3) = []) := fun h_ => c8 (by rw [h_]; rfl)
                obtain rfl := Option.some.inj H
                have p151 : 0 ≤ (0 : Int) := (by omega)
                have q151 : 0 < (l0.length : Int) := of_decide_eq_true (by first | (with_reducible assumption) | assumption)
                obtain ⟨ad151, A151_3, c151_3, A151_4, c151_4, e151, hx151_0, hx151_1, hx151_2, hx151_3, hx151_4, hl151_3, hi151_3, hl151_4, hi151_4⟩ := at_T49 HR0.out 0 p151 q151
                cases e151
                have qi151 : (0 < l0.length) = True := eq_true (by omega)
                (try rw [show ((0 : Int)).toNat = 0 from rfl] at hx151_0)
                (try rw [show 0 * 5 = 0 from rfl] at hx151_0)
                (try rw [Addr.add_zero'] at hx151_0)
                (try rw [show ((0 : Int)).toNat = 0 from rfl] at hx151_1)
                (try rw [show 0 * 5 = 0 from rfl] at hx151_1)
                (try rw [Addr.add_zero'] at hx151_1)
                (try rw [show ((0 : Int)).toNat = 0 from rfl] at hx151_2)
                (try rw [show 0 * 5 = 0 from rfl] at hx151_2)
                (try rw [Addr.add_zero'] at hx151_2)
                (try rw [show ((0 : Int)).toNat = 0 from rfl] at hx151_3)
                (try rw [show 0 * 5 = 0 from rfl] at hx151_3)
                (try rw [Addr.add_zero'] at hx151_3)
                (try rw [show ((0 : Int)).toNat = 0 from rfl] at hx151_4)
                (try rw [show 0 * 5 = 0 from rfl] at hx151_4)
                (try rw [Addr.add_zero'] at hx151_4)
                have HR151_3 := Aside0.mk hi151_3
                have HC151_3 := Aside0.mk hl151_3
                clear hi151_3 hl151_3
                have HR151_4 := Aside0.mk hi151_4
                have HC151_4 := Aside0.mk hl151_4
                clear hi151_4 hl151_4
                replace p151 := eq_true p151
                replace q151 := eq_true q151
                go_enter Tryz.func28, Tryz.ntmps28
                go_wp2_with (first | ((with_reducible refine gate_dst (N := 3) rfl ?_); (try (refine gate_guard (by rfl) ?_; dsimp only)); refine box_event ?hg (N := 3) ?hd (cs := #[.int .i64 0, .string (⟨#[]⟩ : ByteArray), .string (⟨#[]⟩ : ByteArray), .slice none 0 0, .slice none 0 0]) (t := 49) ?hr ?_; (case hd => rfl); (case hg => rfl); (case hr => first | (go_simp; done) | (go_simp; rfl)); intro gb152 hg w13 hbox hb; have n0_ := Aside0.mk (below_step (by repeat (first | (with_reducible first | exact HB.out | apply below_alloc | apply pw_below_drewN | apply below_drew1) | exact HB.out)) hb); have n1_ := Aside0.mk (hbox); have n2_ := Aside0.mk ((by rw [hg]; exact (below_size (by repeat (first | (with_reducible first | exact HB.out | apply below_alloc | apply pw_below_drewN | apply below_drew1) | exact HB.out))) : w.heap.size ≤ gb152)); have n3_ := Aside0.mk ((by rw [hg]; exact (below_size (by repeat (first | (with_reducible first | exact HB.out | apply below_alloc | apply pw_below_drewN | apply below_drew1) | exact HB.out))) : w.heap.size ≤ gb152)); clear HB; have HB := n0_; have BK152 := n1_; have GW152 := n2_; have GE152 := n3_; clear n0_ n1_ n2_ n3_; clear hb hbox hg; have hcz14_0 : w13.cell? ⟨gb152, 0, none⟩ = some (.int .i64 0) := (blk_cell BK152.out 0).trans rfl; have hcz14_1 : w13.cell? ⟨gb152, 1, none⟩ = some (.string (⟨#[]⟩ : ByteArray)) := (blk_cell BK152.out 1).trans rfl; have hcz14_2 : w13.cell? ⟨gb152, 2, none⟩ = some (.string (⟨#[]⟩ : ByteArray)) := (blk_cell BK152.out 2).trans rfl; have hcz14_3 : w13.cell? ⟨gb152, 3, none⟩ = some (.slice none 0 0) := (blk_cell BK152.out 3).trans rfl; have hcz14_4 : w13.cell? ⟨gb152, 4, none⟩ = some (.slice none 0 0) := (blk_cell BK152.out 4).trans rfl; have hfz14_0 := blk_frozen BK152.out 0; have hfz14_1 := blk_frozen BK152.out 1; have hfz14_2 := blk_frozen BK152.out 2; have hfz14_3 := blk_frozen BK152.out 3; have hfz14_4 := blk_frozen BK152.out 4))
                go_ret
                exact ⟨by first | rfl | (simp [errW_none, errW_some] <;> rfl) | (simp [*, errW_none, errW_some] <;> rfl), by repeat (first | (with_reducible first | exact HB.out | apply below_alloc | apply pw_below_drewN | apply below_drew1 | refine below_set ?_ GE152.out) | exact HB.out)⟩
            · rw [if_neg c7] at H
              have c7b0 : (((rd_T49 l0 0).f2).toList == ([] : List UInt8)) = false := beq_eq_false_iff_ne.mpr c7
              have c7b1 : (((rd_T49 l0 0).f2).toList != ([] : List UInt8)) = true := bne_iff_ne.mpr c7
              obtain rfl := Option.some.inj H
              have p151 : 0 ≤ (0 : Int) := (by omega)
              have q151 : 0 < (l0.length : Int) := of_decide_eq_true (by first | (with_reducible assumption) | assumption)
              obtain ⟨ad151, A151_3, c151_3, A151_4, c151_4, e151, hx151_0, hx151_1, hx151_2, hx151_3, hx151_4, hl151_3, hi151_3, hl151_4, hi151_4⟩ := at_T49 HR0.out 0 p151 q151
              cases e151
              have qi151 : (0 < l0.length) = True := eq_true (by omega)
              (try rw [show ((0 : Int)).toNat = 0 from rfl] at hx151_0)
              (try rw [show 0 * 5 = 0 from rfl] at hx151_0)
              (try rw [Addr.add_zero'] at hx151_0)
              (try rw [show ((0 : Int)).toNat = 0 from rfl] at hx151_1)
              (try rw [show 0 * 5 = 0 from rfl] at hx151_1)
              (try rw [Addr.add_zero'] at hx151_1)
              (try rw [show ((0 : Int)).toNat = 0 from rfl] at hx151_2)
              (try rw [show 0 * 5 = 0 from rfl] at hx151_2)
              (try rw [Addr.add_zero'] at hx151_2)
              (try rw [show ((0 : Int)).toNat = 0 from rfl] at hx151_3)
              (try rw [show 0 * 5 = 0 from rfl] at hx151_3)
              (try rw [Addr.add_zero'] at hx151_3)
              (try rw [show ((0 : Int)).toNat = 0 from rfl] at hx151_4)
              (try rw [show 0 * 5 = 0 from rfl] at hx151_4)
              (try rw [Addr.add_zero'] at hx151_4)
              have HR151_3 := Aside0.mk hi151_3
              have HC151_3 := Aside0.mk hl151_3
              clear hi151_3 hl151_3
              have HR151_4 := Aside0.mk hi151_4
              have HC151_4 := Aside0.mk hl151_4
              clear hi151_4 hl151_4
              replace p151 := eq_true p151
              replace q151 := eq_true q151
              go_enter Tryz.func28, Tryz.ntmps28
              go_wp2_with (first | ((with_reducible refine gate_dst (N := 3) rfl ?_); (try (refine gate_guard (by rfl) ?_; dsimp only)); refine box_event ?hg (N := 3) ?hd (cs := #[.int .i64 0, .string (⟨#[]⟩ : ByteArray), .string (⟨#[]⟩ : ByteArray), .slice none 0 0, .slice none 0 0]) (t := 49) ?hr ?_; (case hd => rfl); (case hg => rfl); (case hr => first | (go_simp; done) | (go_simp; rfl)); intro gb152 hg w15 hbox hb; have n0_ := Aside0.mk (below_step (by repeat (first | (with_reducible first | exact HB.out | apply below_alloc | apply pw_below_drewN | apply below_drew1) | exact HB.out)) hb); have n1_ := Aside0.mk (hbox); have n2_ := Aside0.mk ((by rw [hg]; exact (below_size (by repeat (first | (with_reducible first | exact HB.out | apply below_alloc | apply pw_below_drewN | apply below_drew1) | exact HB.out))) : w.heap.size ≤ gb152)); have n3_ := Aside0.mk ((by rw [hg]; exact (below_size (by repeat (first | (with_reducible first | exact HB.out | apply below_alloc | apply pw_below_drewN | apply below_drew1) | exact HB.out))) : w.heap.size ≤ gb152)); clear HB; have HB := n0_; have BK152 := n1_; have GW152 := n2_; have GE152 := n3_; clear n0_ n1_ n2_ n3_; clear hb hbox hg; have hcz16_0 : w15.cell? ⟨gb152, 0, none⟩ = some (.int .i64 0) := (blk_cell BK152.out 0).trans rfl; have hcz16_1 : w15.cell? ⟨gb152, 1, none⟩ = some (.string (⟨#[]⟩ : ByteArray)) := (blk_cell BK152.out 1).trans rfl; have hcz16_2 : w15.cell? ⟨gb152, 2, none⟩ = some (.string (⟨#[]⟩ : ByteArray)) := (blk_cell BK152.out 2).trans rfl; have hcz16_3 : w15.cell? ⟨gb152, 3, none⟩ = some (.slice none 0 0) := (blk_cell BK152.out 3).trans rfl; have hcz16_4 : w15.cell? ⟨gb152, 4, none⟩ = some (.slice none 0 0) := (blk_cell BK152.out 4).trans rfl; have hfz16_0 := blk_frozen BK152.out 0; have hfz16_1 := blk_frozen BK152.out 1; have hfz16_2 := blk_frozen BK152.out 2; have hfz16_3 := blk_frozen BK152.out 3; have hfz16_4 := blk_frozen BK152.out 4))
              go_ret
              exact ⟨by first | rfl | (simp [errW_none, errW_some] <;> rfl) | (simp [*, errW_none, errW_some] <;> rfl), by repeat (first | (with_reducible first | exact HB.out | apply below_alloc | apply pw_below_drewN | apply below_drew1 | refine below_set ?_ GE152.out) | exact HB.out)⟩
          · rw [if_neg c6] at H
            have c6b0 : (((rd_T49 l0 0).f1).toList == ([114, 111, 111, 116] : List UInt8)) = false := beq_eq_false_iff_ne.mpr c6
            have c6b1 : (((rd_T49 l0 0).f1).toList != ([114, 111, 111, 116] : List UInt8)) = true := bne_iff_ne.mpr c6
            obtain rfl := Option.some.inj H
            have p151 : 0 ≤ (0 : Int) := (by omega)
            have q151 : 0 < (l0.length : Int) := of_decide_eq_true (by first | (with_reducible assumption) | assumption)
            obtain ⟨ad151, A151_3, c151_3, A151_4, c151_4, e151, hx151_0, hx151_1, hx151_2, hx151_3, hx151_4, hl151_3, hi151_3, hl151_4, hi151_4⟩ := at_T49 HR0.out 0 p151 q151
            cases e151
            have qi151 : (0 < l0.length) = True := eq_true (by omega)
            (try rw [show ((0 : Int)).toNat = 0 from rfl] at hx151_0)
            (try rw [show 0 * 5 = 0 from rfl] at hx151_0)
            (try rw [Addr.add_zero'] at hx151_0)
            (try rw [show ((0 : Int)).toNat = 0 from rfl] at hx151_1)
            (try rw [show 0 * 5 = 0 from rfl] at hx151_1)
            (try rw [Addr.add_zero'] at hx151_1)
            (try rw [show ((0 : Int)).toNat = 0 from rfl] at hx151_2)
            (try rw [show 0 * 5 = 0 from rfl] at hx151_2)
            (try rw [Addr.add_zero'] at hx151_2)
            (try rw [show ((0 : Int)).toNat = 0 from rfl] at hx151_3)
            (try rw [show 0 * 5 = 0 from rfl] at hx151_3)
            (try rw [Addr.add_zero'] at hx151_3)
            (try rw [show ((0 : Int)).toNat = 0 from rfl] at hx151_4)
            (try rw [show 0 * 5 = 0 from rfl] at hx151_4)
            (try rw [Addr.add_zero'] at hx151_4)
            have HR151_3 := Aside0.mk hi151_3
            have HC151_3 := Aside0.mk hl151_3
            clear hi151_3 hl151_3
            have HR151_4 := Aside0.mk hi151_4
            have HC151_4 := Aside0.mk hl151_4
            clear hi151_4 hl151_4
            replace p151 := eq_true p151
            replace q151 := eq_true q151
            go_enter Tryz.func28, Tryz.ntmps28
            go_wp2_with (first | ((with_reducible refine gate_dst (N := 3) rfl ?_); (try (refine gate_guard (by rfl) ?_; dsimp only)); refine box_event ?hg (N := 3) ?hd (cs := #[.int .i64 0, .string (⟨#[]⟩ : ByteArray), .string (⟨#[]⟩ : ByteArray), .slice none 0 0, .slice none 0 0]) (t := 49) ?hr ?_; (case hd => rfl); (case hg => rfl); (case hr => first | (go_simp; done) | (go_simp; rfl)); intro gb152 hg w17 hbox hb; have n0_ := Aside0.mk (below_step (by repeat (first | (with_reducible first | exact HB.out | apply below_alloc | apply pw_below_drewN | apply below_drew1) | exact HB.out)) hb); have n1_ := Aside0.mk (hbox); have n2_ := Aside0.mk ((by rw [hg]; exact (below_size (by repeat (first | (with_reducible first | exact HB.out | apply below_alloc | apply pw_below_drewN | apply below_drew1) | exact HB.out))) : w.heap.size ≤ gb152)); have n3_ := Aside0.mk ((by rw [hg]; exact (below_size (by repeat (first | (with_reducible first | exact HB.out | apply below_alloc | apply pw_below_drewN | apply below_drew1) | exact HB.out))) : w.heap.size ≤ gb152)); clear HB; have HB := n0_; have BK152 := n1_; have GW152 := n2_; have GE152 := n3_; clear n0_ n1_ n2_ n3_; clear hb hbox hg; have hcz18_0 : w17.cell? ⟨gb152, 0, none⟩ = some (.int .i64 0) := (blk_cell BK152.out 0).trans rfl; have hcz18_1 : w17.cell? ⟨gb152, 1, none⟩ = some (.string (⟨#[]⟩ : ByteArray)) := (blk_cell BK152.out 1).trans rfl; have hcz18_2 : w17.cell? ⟨gb152, 2, none⟩ = some (.string (⟨#[]⟩ : ByteArray)) := (blk_cell BK152.out 2).trans rfl; have hcz18_3 : w17.cell? ⟨gb152, 3, none⟩ = some (.slice none 0 0) := (blk_cell BK152.out 3).trans rfl; have hcz18_4 : w17.cell? ⟨gb152, 4, none⟩ = some (.slice none 0 0) := (blk_cell BK152.out 4).trans rfl; have hfz18_0 := blk_frozen BK152.out 0; have hfz18_1 := blk_frozen BK152.out 1; have hfz18_2 := blk_frozen BK152.out 2; have hfz18_3 := blk_frozen BK152.out 3; have hfz18_4 := blk_frozen BK152.out 4))
            go_ret
            exact ⟨by first | rfl | (simp [errW_none, errW_some] <;> rfl) | (simp [*, errW_none, errW_some] <;> rfl), by repeat (first | (with_reducible first | exact HB.out | apply below_alloc | apply pw_below_drewN | apply below_drew1 | refine below_set ?_ GE152.out) | exact HB.out)⟩
        · rw [if_neg c5] at H
          have c5b0 : (((rd_T49 l0 0).f0) == (-1)) = false := beq_eq_false_iff_ne.mpr c5
          have c5b1 : (((rd_T49 l0 0).f0) != (-1)) = true := bne_iff_ne.mpr c5
          obtain rfl := Option.some.inj H
          have p151 : 0 ≤ (0 : Int) := (by omega)
          have q151 : 0 < (l0.length : Int) := of_decide_eq_true (by first | (with_reducible assumption) | assumption)
          obtain ⟨ad151, A151_3, c151_3, A151_4, c151_4, e151, hx151_0, hx151_1, hx151_2, hx151_3, hx151_4, hl151_3, hi151_3, hl151_4, hi151_4⟩ := at_T49 HR0.out 0 p151 q151
          cases e151
          have qi151 : (0 < l0.length) = True := eq_true (by omega)
          (try rw [show ((0 : Int)).toNat = 0 from rfl] at hx151_0)
          (try rw [show 0 * 5 = 0 from rfl] at hx151_0)
          (try rw [Addr.add_zero'] at hx151_0)
          (try rw [show ((0 : Int)).toNat = 0 from rfl] at hx151_1)
          (try rw [show 0 * 5 = 0 from rfl] at hx151_1)
          (try rw [Addr.add_zero'] at hx151_1)
          (try rw [show ((0 : Int)).toNat = 0 from rfl] at hx151_2)
          (try rw [show 0 * 5 = 0 from rfl] at hx151_2)
          (try rw [Addr.add_zero'] at hx151_2)
          (try rw [show ((0 : Int)).toNat = 0 from rfl] at hx151_3)
          (try rw [show 0 * 5 = 0 from rfl] at hx151_3)
          (try rw [Addr.add_zero'] at hx151_3)
          (try rw [show ((0 : Int)).toNat = 0 from rfl] at hx151_4)
          (try rw [show 0 * 5 = 0 from rfl] at hx151_4)
          (try rw [Addr.add_zero'] at hx151_4)
          have HR151_3 := Aside0.mk hi151_3
          have HC151_3 := Aside0.mk hl151_3
          clear hi151_3 hl151_3
          have HR151_4 := Aside0.mk hi151_4
          have HC151_4 := Aside0.mk hl151_4
          clear hi151_4 hl151_4
          replace p151 := eq_true p151
          replace q151 := eq_true q151
          go_enter Tryz.func28, Tryz.ntmps28
          go_wp2_with (first | ((with_reducible refine gate_dst (N := 3) rfl ?_); (try (refine gate_guard (by rfl) ?_; dsimp only)); refine box_event ?hg (N := 3) ?hd (cs := #[.int .i64 0, .string (⟨#[]⟩ : ByteArray), .string (⟨#[]⟩ : ByteArray), .slice none 0 0, .slice none 0 0]) (t := 49) ?hr ?_; (case hd => rfl); (case hg => rfl); (case hr => first | (go_simp; done) | (go_simp; rfl)); intro gb152 hg w19 hbox hb; have n0_ := Aside0.mk (below_step (by repeat (first | (with_reducible first | exact HB.out | apply below_alloc | apply pw_below_drewN | apply below_drew1) | exact HB.out)) hb); have n1_ := Aside0.mk (hbox); have n2_ := Aside0.mk ((by rw [hg]; exact (below_size (by repeat (first | (with_reducible first | exact HB.out | apply below_alloc | apply pw_below_drewN | apply below_drew1) | exact HB.out))) : w.heap.size ≤ gb152)); have n3_ := Aside0.mk ((by rw [hg]; exact (below_size (by repeat (first | (with_reducible first | exact HB.out | apply below_alloc | apply pw_below_drewN | apply below_drew1) | exact HB.out))) : w.heap.size ≤ gb152)); clear HB; have HB := n0_; have BK152 := n1_; have GW152 := n2_; have GE152 := n3_; clear n0_ n1_ n2_ n3_; clear hb hbox hg; have hcz20_0 : w19.cell? ⟨gb152, 0, none⟩ = some (.int .i64 0) := (blk_cell BK152.out 0).trans rfl; have hcz20_1 : w19.cell? ⟨gb152, 1, none⟩ = some (.string (⟨#[]⟩ : ByteArray)) := (blk_cell BK152.out 1).trans rfl; have hcz20_2 : w19.cell? ⟨gb152, 2, none⟩ = some (.string (⟨#[]⟩ : ByteArray)) := (blk_cell BK152.out 2).trans rfl; have hcz20_3 : w19.cell? ⟨gb152, 3, none⟩ = some (.slice none 0 0) := (blk_cell BK152.out 3).trans rfl; have hcz20_4 : w19.cell? ⟨gb152, 4, none⟩ = some (.slice none 0 0) := (blk_cell BK152.out 4).trans rfl; have hfz20_0 := blk_frozen BK152.out 0; have hfz20_1 := blk_frozen BK152.out 1; have hfz20_2 := blk_frozen BK152.out 2; have hfz20_3 := blk_frozen BK152.out 3; have hfz20_4 := blk_frozen BK152.out 4))
          go_ret
          exact ⟨by first | rfl | (simp [errW_none, errW_some] <;> rfl) | (simp [*, errW_none, errW_some] <;> rfl), by repeat (first | (with_reducible first | exact HB.out | apply below_alloc | apply pw_below_drewN | apply below_drew1 | refine below_set ?_ GE152.out) | exact HB.out)⟩
      · rw [if_neg c4] at H
        exact absurd H (by simp)
end Go.Proofs.YtkjgnkmnngaioaaGreat.Q
