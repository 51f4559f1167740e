/- What the proof of tokenTells_holds needs, of the texts that this work has written and of the words that the kit's print lends. -/
import Derived.Test.YtkjgnkmnngaioaaGreatZad
import Derived.Test.YtkjgnkmnngaioaaGreatZag
namespace Go.Proofs.YtkjgnkmnngaioaaGreat.Q
open Go.RowKit Go.Proofs.YtkjgnkmnngaioaaGreatW.PrintWords Go.Proofs.YtkjgnkmnngaioaaGreatW.PrintLast Go.Proofs.YtkjgnkmnngaioaaGreatW.PrintMore
attribute [local go_sem] max2_int min2_int max_two min_two max_three min_three max_four min_four   -- for this text's walks alone
set_option linter.unusedVariables false
set_option linter.unusedSimpArgs false
mutual
def scrimref04_opening.j0 : Nat → ByteArray → Int → Int → Bool → Option (Int × ByteArray × ByteArray × (List (S70)) × Int)
  | 0, _, _, _, _ => none
  | k + 1, x0, x1, x6, x25 => if x25 = true then (some (0, (⟨#[]⟩ : ByteArray), (⟨#[]⟩ : ByteArray), ([] : List (S70)), 0)) else (if 0 ≤ (wrap64 (x1 + 1)) then (if (wrap64 (x1 + 1)) ≤ (wrap64 ((wrap64 (x1 + 1)) + x6)) then (if (wrap64 ((wrap64 (x1 + 1)) + x6)) ≤ (x0.size : Int) then ((scrimref04_Lower.f k (x0.extract ((wrap64 (x1 + 1)) : Int).toNat ((wrap64 ((wrap64 (x1 + 1)) + x6)) : Int).toNat)).bind fun t169 => (scrimref04_opening.l0 k x0 (wrap64 ((wrap64 (x1 + 1)) + x6)) 1 t169 (⟨#[]⟩ : ByteArray) ([] : List (S70)))) else (none)) else (none)) else (none))
def scrimref04_opening.l0 : Nat → ByteArray → Int → Int → ByteArray → ByteArray → List (S70) → Option (Int × ByteArray × ByteArray × (List (S70)) × Int)
  | 0, _, _, _, _, _, _ => none
  | k + 1, x0, x1, x171000, x171001, x171002, x171003 => (scrimref04_blanks.f k x0 x1).bind fun t171 => ((scrimref04_has.f x0 (wrap64 (x1 + t171)) (⟨#[62]⟩ : ByteArray)).bind fun t172 => (if t172 = true then (some (x171000, x171001, x171002, x171003, wrap64 ((wrap64 (x1 + t171)) + 1))) else ((scrimref04_NameAt.f k x0 (wrap64 (x1 + t171))).bind fun t173 => (if t171 = 0 then (scrimref04_opening.j2 k x0 x1 t173 t171 true x171000 x171001 x171002 x171003) else (scrimref04_opening.j2 k x0 x1 t173 t171 (t173 == 0) x171000 x171001 x171002 x171003)))))
def scrimref04_opening.j2 : Nat → ByteArray → Int → Int → Int → Bool → Int → ByteArray → ByteArray → List (S70) → Option (Int × ByteArray × ByteArray × (List (S70)) × Int)
  | 0, _, _, _, _, _, _, _, _, _ => none
  | k + 1, x0, x1, x6, x8, x64, x171000, x171001, x171002, x171003 => if x64 = true then (some (0, (⟨#[]⟩ : ByteArray), (⟨#[]⟩ : ByteArray), ([] : List (S70)), 0)) else (if 0 ≤ (wrap64 (x1 + x8)) then (if (wrap64 (x1 + x8)) ≤ (wrap64 ((wrap64 (x1 + x8)) + x6)) then (if (wrap64 ((wrap64 (x1 + x8)) + x6)) ≤ (x0.size : Int) then ((scrimref04_Lower.f k (x0.extract ((wrap64 (x1 + x8)) : Int).toNat ((wrap64 ((wrap64 (x1 + x8)) + x6)) : Int).toNat)).bind fun t174 => ((scrimref04_has.f x0 (wrap64 ((wrap64 (x1 + x8)) + x6)) (⟨#[61]⟩ : ByteArray)).bind fun t175 => (if t175 = true then ((scrimref04_has.f x0 (wrap64 ((wrap64 (x1 + x8)) + x6)) (⟨#[61, 34]⟩ : ByteArray)).bind fun t176 => (if t176 = true then (scrimref04_opening.l1 k x0 (wrap64 ((wrap64 (x1 + x8)) + x6)) t174 (wrap64 ((wrap64 ((wrap64 (x1 + x8)) + x6)) + 2)) x171000 x171001 x171002 x171003) else (some (0, (⟨#[]⟩ : ByteArray), (⟨#[]⟩ : ByteArray), ([] : List (S70)), 0)))) else ((scrimref04_Attr.f k x171003 t174).bind fun bt183 => (if bt183.2 = true then (scrimref04_opening.l0 k x0 (wrap64 ((wrap64 (x1 + x8)) + x6)) x171000 x171001 x171002 x171003) else (if x171003.length < 4398046511104 then (scrimref04_opening.l0 k x0 (wrap64 ((wrap64 (x1 + x8)) + x6)) x171000 x171001 x171002 (x171003 ++ [(⟨t174, (⟨#[]⟩ : ByteArray)⟩ : S70)])) else (none))))))) else (none)) else (none)) else (none))
def scrimref04_opening.j4 : Nat → ByteArray → Int → ByteArray → Int → Int → ByteArray → ByteArray → List (S70) → Option (Int × ByteArray × ByteArray × (List (S70)) × Int)
  | 0, _, _, _, _, _, _, _, _ => none
  | k + 1, x0, x1, x9, x11, x171000, x171001, x171002, x171003 => if x11 = (x0.size : Int) then (some (0, (⟨#[]⟩ : ByteArray), (⟨#[]⟩ : ByteArray), ([] : List (S70)), 0)) else (if 0 ≤ (wrap64 (x1 + 2)) then (if (wrap64 (x1 + 2)) ≤ x11 then (if x11 ≤ (x0.size : Int) then ((scrimref04_Tell.f k (x0.extract ((wrap64 (x1 + 2)) : Int).toNat (x11 : Int).toNat)).bind fun t177 => ((scrimref04_Attr.f k x171003 x9).bind fun bt178 => (if bt178.2 = true then (scrimref04_opening.l0 k x0 (wrap64 (x11 + 1)) x171000 x171001 x171002 x171003) else (if x171003.length < 4398046511104 then (scrimref04_opening.l0 k x0 (wrap64 (x11 + 1)) x171000 x171001 x171002 (x171003 ++ [(⟨x9, t177⟩ : S70)])) else (none))))) else (none)) else (none)) else (none))
def scrimref04_opening.l1 : Nat → ByteArray → Int → ByteArray → Int → Int → ByteArray → ByteArray → List (S70) → Option (Int × ByteArray × ByteArray × (List (S70)) × Int)
  | 0, _, _, _, _, _, _, _, _ => none
  | k + 1, x0, x1, x9, x11, x171000, x171001, x171002, x171003 => if x11 < (x0.size : Int) then (if 0 ≤ x11 then (if (bt x0 x11) = 34 then (scrimref04_opening.j4 k x0 x1 x9 x11 x171000 x171001 x171002 x171003) else (scrimref04_opening.l1 k x0 x1 x9 (wrap64 (x11 + 1)) x171000 x171001 x171002 x171003)) else (none)) else (scrimref04_opening.j4 k x0 x1 x9 x11 x171000 x171001 x171002 x171003)
end
def scrimref04_opening.f (k : Nat) (a0 : ByteArray) (a1 : Int) : Option (Int × ByteArray × ByteArray × (List (S70)) × Int) := (scrimref04_NameAt.f k a0 (wrap64 (a1 + 1))).bind fun t168 => (if 0 ≤ a1 then (if a1 < (a0.size : Int) then (if (bt a0 a1) = 60 then (scrimref04_opening.j0 k a0 a1 t168 (t168 == 0)) else (scrimref04_opening.j0 k a0 a1 t168 true)) else (none)) else (none))
set_option maxHeartbeats 8000000 in
set_option maxRecDepth 100000 in
theorem scrimref04_opening.calls (k : Nat) (a0 : ByteArray) (a1 : Int) (r1 : Int) (r2 : ByteArray) (r3 : ByteArray) (r4 : List (S70)) (r5 : Int) (w : World) (h : scrimref04_opening.f k a0 a1 = some (r1, r2, r3, r4, r5)) :
    Calls Tryz.prog 50 #[.string a0, .int .i64 a1] w fun e w' => ∃ v3_ : Value, e = .returned (.tuple #[.agg #[.int .i64 r1, .string r2, .string r3, v3_], .int .i64 r5]) ∧ Kd.R k70 70 w' w.heap.size (fun _ => True) v3_ r4 ∧ Below w.heap.size w w' := by
  have hu71 := Tryz.underlying71
  have hu70 := Tryz.underlying70
  have HB := Aside0.mk (Below.refl w.heap.size w)
  have H : ((scrimref04_NameAt.f k a0 (wrap64 (a1 + 1))).bind fun t168 => (if 0 ≤ a1 then (if a1 < (a0.size : Int) then (if (bt a0 a1) = 60 then (scrimref04_opening.j0 k a0 a1 t168 (t168 == 0)) else (scrimref04_opening.j0 k a0 a1 t168 true)) else (none)) else (none))) = some (r1, r2, r3, r4, r5) := h
  clear h
  replace H := Option.bind_eq_some_iff.mp H
  obtain ⟨t168, A30, H⟩ := H
  replace H : (if 0 ≤ a1 then (if a1 < (a0.size : Int) then (if (bt a0 a1) = 60 then (scrimref04_opening.j0 k a0 a1 t168 (t168 == 0)) else (scrimref04_opening.j0 k a0 a1 t168 true)) else (none)) else (none)) = some (r1, r2, r3, r4, r5) := H
  have A3 := Aside0.mk A30
  clear A30
  have HC4 := Aside0.mk H
  clear H
  go_enter Tryz.func50, Tryz.ntmps50
  go_upto_region 2 with (first | ((with_reducible refine gate_dst (N := 4) rfl ?_); refine box_event ?hg (N := 4) ?hd (cs := #[.int .i64 0, .string (⟨#[]⟩ : ByteArray), .string (⟨#[]⟩ : ByteArray), .slice none 0 0]) (t := 71) ?hr ?_; (case hd => rfl); (case hg => rfl); (case hr => first | (go_simp; done) | (go_simp; rfl)); intro gb167 hg w5 hbox hb; have n0_ := Aside0.mk (below_step (by repeat (first | (with_reducible first | exact HB.out | apply below_alloc | apply pw_below_drewN | apply below_drew1) | exact HB.out)) hb); have n1_ := Aside0.mk (hbox); have n2_ := Aside0.mk ((by rw [hg]; exact (below_size (by repeat (first | (with_reducible first | exact HB.out | apply below_alloc | apply pw_below_drewN | apply below_drew1) | exact HB.out))) : w.heap.size ≤ gb167)); have n3_ := Aside0.mk ((by rw [hg]; exact (below_size (by repeat (first | (with_reducible first | exact HB.out | apply below_alloc | apply pw_below_drewN | apply below_drew1) | exact HB.out))) : w.heap.size ≤ gb167)); clear HB; have HB := n0_; have BK167 := n1_; have GW167 := n2_; have GE167 := n3_; clear n0_ n1_ n2_ n3_; clear hb hbox hg) | ((with_reducible refine gate_callee (f := 54) rfl ?_); refine goesL_ (some 17) rfl rfl Tryz.func54 (by kernel_rfl) rfl #[.string a0, .int .i64 (wrap64 (a1 + 1))] rfl (by (try simp only [List.map_toArray, List.map_cons, List.map_nil]); first | done | rfl | (simp only [List.length_drop, List.length_take]; rfl)) ?_; (with_reducible refine (scrimref04_NameAt.calls k a0 (wrap64 (a1 + 1)) t168 _ A3.out).mono ?_); rintro e w' ⟨rfl, ⟨nd, rfl⟩⟩; refine ⟨_, rfl, ?_⟩))
  (try simp only [Act.put, List.setIfInBounds_toArray, List.set_cons_zero, List.set_cons_succ])
  go_cut [25] (fun v25 wc => ∃ (kq : Nat) (x25_3 : Bool), v25 = .bool x25_3 ∧ Aside0 (scrimref04_opening.j0 kq a0 a1 t168 x25_3 = some (r1, r2, r3, r4, r5)) ∧ Aside0 (kq ≤ k) ∧ Aside0 (wc.heap[gb167]? = some (.cells #[.int .i64 0, .string (⟨#[]⟩ : ByteArray), .string (⟨#[]⟩ : ByteArray), (.slice none 0 0)] 71 (0, 0))) ∧ Aside0 (Below w.heap.size w wc))
  case first =>
    have H := HC4.out
    clear HC4
    by_cases c6 : 0 ≤ a1
    · rw [if_pos c6] at H
      have c6b0 : decide (0 ≤ a1) = true := decide_eq_true c6
      clear c6
      (first | rw [c6b0] | (simp only [i64_w, i32_w]; rw [c6b0]) | skip)
      by_cases c7 : a1 < (a0.size : Int)
      · rw [if_pos c7] at H
        have c7b0 : decide (a1 < (a0.size : Int)) = true := decide_eq_true c7
        clear c7
        by_cases c9 : (bt a0 a1) = 60
        · rw [if_pos c9] at H
          have c9b0 : ((bt a0 a1) == 60) = true := beq_iff_eq.mpr c9
          have c9b1 : ((bt a0 a1) != 60) = false := bne_eq_false_iff_eq.mpr c9
          clear c9
          have H' := Aside0.mk H
          clear H
          have p8 : 0 ≤ (a1 : Int) := of_decide_eq_true (by first | (with_reducible assumption) | assumption)
          have q8 : a1 < (a0.size : Int) := of_decide_eq_true (by first | (with_reducible assumption) | assumption)
          have hx8 := bt_at a0 a1
          replace p8 := eq_true p8
          replace q8 := eq_true q8
          go_wp2
          go_meet
          case rel => exact ⟨_, ((t168 == 0)), (by first | rfl | (simp; done) | (simp [*]; done)), H', ⟨by first | omega | exact Nat.le_refl _⟩, ⟨by (with_reducible repeat (first | refine blk_drewN ?_ _ | refine blk_drew ?_ | refine blk_alloc ?_ _)); exact BK167.out⟩, ⟨by repeat (first | (with_reducible first | exact HB.out | apply below_alloc | apply pw_below_drewN | apply below_drew1 | refine below_set ?_ GE167.out) | exact HB.out)⟩⟩
        · rw [if_neg c9] at H
          have c9b0 : ((bt a0 a1) == 60) = false := beq_eq_false_iff_ne.mpr c9
          have c9b1 : ((bt a0 a1) != 60) = true := bne_iff_ne.mpr c9
          have H' := Aside0.mk H
          clear H
          have p8 : 0 ≤ (a1 : Int) := of_decide_eq_true (by first | (with_reducible assumption) | assumption)
          have q8 : a1 < (a0.size : Int) := of_decide_eq_true (by first | (with_reducible assumption) | assumption)
          have hx8 := bt_at a0 a1
          replace p8 := eq_true p8
          replace q8 := eq_true q8
          go_wp2
          go_meet
          case rel => exact ⟨_, (true), (by first | rfl | (simp; done) | (simp [*]; done)), H', ⟨by first | omega | exact Nat.le_refl _⟩, ⟨by (with_reducible repeat (first | refine blk_drewN ?_ _ | refine blk_drew ?_ | refine blk_alloc ?_ _)); exact BK167.out⟩, ⟨by repeat (first | (with_reducible first | exact HB.out | apply below_alloc | apply pw_below_drewN | apply below_drew1 | refine below_set ?_ GE167.out) | exact HB.out)⟩⟩
      · rw [if_neg c7] at H
        exact absurd H (by simp)
    · rw [if_neg c6] at H
      exact absurd H (by simp)
  case rest =>
    clear HC4
    try clear p2
    try clear c5
    try clear c6
    try clear c6b0
    try clear p6
    try clear c7
    try clear c7b0
    try clear p8
    try clear q8
    try clear hx8
    try clear c9
    try clear c9b0
    try clear c9b1
    try clear p8
    try clear q8
    obtain ⟨kq, x25_3, rfl, HA, HJ3, BK167, HB⟩ := hcut
    cases kq with
    | zero => exact absurd HA.out (by simp [scrimref04_opening.j0])
    | succ kj3 =>
      have H := HA.out
      clear HA
      simp only [scrimref04_opening.j0] at H
      by_cases c10 : x25_3 = true
      · subst c10
        have H1 : (some (0, (⟨#[]⟩ : ByteArray), (⟨#[]⟩ : ByteArray), ([] : List (S70)), 0)) = some (r1, r2, r3, r4, r5) := by rw [if_pos rfl] at H; exact H
        clear H
        have H := H1
        clear H1
        simp only [Option.some.injEq, Prod.mk.injEq] at H
        obtain ⟨rfl, rfl, rfl, rfl, rfl⟩ := H
        have hcz11_0 : wc.cell? ⟨gb167, 0, none⟩ = some (.int .i64 0) := (blk_cell BK167.out 0).trans rfl
        have hcz11_1 : wc.cell? ⟨gb167, 1, none⟩ = some (.string (⟨#[]⟩ : ByteArray)) := (blk_cell BK167.out 1).trans rfl
        have hcz11_2 : wc.cell? ⟨gb167, 2, none⟩ = some (.string (⟨#[]⟩ : ByteArray)) := (blk_cell BK167.out 2).trans rfl
        have hcz11_3 : wc.cell? ⟨gb167, 3, none⟩ = some (.slice none 0 0) := (blk_cell BK167.out 3).trans rfl
        have hfz11_0 := blk_frozen BK167.out 0
        have hfz11_1 := blk_frozen BK167.out 1
        have hfz11_2 := blk_frozen BK167.out 2
        have hfz11_3 := blk_frozen BK167.out 3
        go_wp2
        refine bodyPost_ret (results_ct rfl _ _ gb167 71 #[.int .i64 0, .string (⟨#[]⟩ : ByteArray), .string (⟨#[]⟩ : ByteArray), .slice none 0 0] (0, 0) _ rfl (by (with_reducible repeat (first | refine blk_drewN ?_ _ | refine blk_drew ?_ | refine blk_alloc ?_ _)); refine blk_put (cs := #[.int .i64 0, .string (⟨#[]⟩ : ByteArray), .string (⟨#[]⟩ : ByteArray), .slice none 0 0]) ?_ 3 _ rfl; (with_reducible repeat (first | refine blk_drewN ?_ _ | refine blk_drew ?_ | refine blk_alloc ?_ _)); refine blk_put (cs := #[.int .i64 0, .string (⟨#[]⟩ : ByteArray), .string (⟨#[]⟩ : ByteArray), .slice none 0 0]) ?_ 2 _ rfl; (with_reducible repeat (first | refine blk_drewN ?_ _ | refine blk_drew ?_ | refine blk_alloc ?_ _)); refine blk_put (cs := #[.int .i64 0, .string (⟨#[]⟩ : ByteArray), .string (⟨#[]⟩ : ByteArray), .slice none 0 0]) ?_ 1 _ rfl; (with_reducible repeat (first | refine blk_drewN ?_ _ | refine blk_drew ?_ | refine blk_alloc ?_ _)); refine blk_put (cs := #[.int .i64 0, .string (⟨#[]⟩ : ByteArray), .string (⟨#[]⟩ : ByteArray), .slice none 0 0]) ?_ 0 _ rfl; (with_reducible repeat (first | refine blk_drewN ?_ _ | refine blk_drew ?_ | refine blk_alloc ?_ _)); exact BK167.out) Tryz.underlying71 rfl (by kernel_rfl)) rfl ?_
        exact ⟨_, by first | rfl | (simp [errW_none, errW_some] <;> rfl) | (simp [*, errW_none, errW_some] <;> rfl), by first | exact Kd.R_nil _ _ _ _ _ | exact Kd.N_nil _ _ _ _ _ | exact Kd.V_nil _ _ _ _ _ | exact Kd.Q_nil _ _ _ _ _ | exact Kd.S_nil _ _ _ _ _, by repeat (first | (with_reducible first | exact HB.out | apply below_alloc | apply pw_below_drewN | apply below_drew1 | refine below_set ?_ GE167.out) | exact HB.out)⟩
      · replace c10 := Bool.eq_false_iff.mpr c10
        subst c10
        have H1 : (if 0 ≤ (wrap64 (a1 + 1)) then (if (wrap64 (a1 + 1)) ≤ (wrap64 ((wrap64 (a1 + 1)) + t168)) then (if (wrap64 ((wrap64 (a1 + 1)) + t168)) ≤ (a0.size : Int) then ((scrimref04_Lower.f kj3 (a0.extract ((wrap64 (a1 + 1)) : Int).toNat ((wrap64 ((wrap64 (a1 + 1)) + t168)) : Int).toNat)).bind fun t169 => (scrimref04_opening.l0 kj3 a0 (wrap64 ((wrap64 (a1 + 1)) + t168)) 1 t169 (⟨#[]⟩ : ByteArray) ([] : List (S70)))) else (none)) else (none)) else (none)) = some (r1, r2, r3, r4, r5) := by rw [if_neg (show ¬ (false = true) by decide)] at H; exact H
        clear H
        have H := H1
        clear H1
        obtain ⟨ji12, hji12⟩ : ∃ j_ : Int, (wrap64 (a1 + 1)) = j_ := ⟨_, rfl⟩
        replace H : (if 0 ≤ (ji12) then (if (ji12) ≤ (wrap64 ((ji12) + t168)) then (if (wrap64 ((ji12) + t168)) ≤ (a0.size : Int) then ((scrimref04_Lower.f kj3 (a0.extract ((ji12) : Int).toNat ((wrap64 ((ji12) + t168)) : Int).toNat)).bind fun t169 => (scrimref04_opening.l0 kj3 a0 (wrap64 ((ji12) + t168)) 1 t169 (⟨#[]⟩ : ByteArray) ([] : List (S70)))) else (none)) else (none)) else (none)) = some (r1, r2, r3, r4, r5) := by first | (rw [hji12] at H; exact H) | (simp only [hji12] at H ⊢; exact H)
        have hji12w : (IntKind.i64.wrap (a1 + 1)) = ji12 := (i64_w _).trans hji12
        by_cases c13 : 0 ≤ (ji12)
        · rw [if_pos c13] at H
          have c13b0 := eq_true c13
          have c13b1 : decide (0 ≤ (ji12)) = true := decide_eq_true c13
          clear c13
          by_cases c14 : (ji12) ≤ (wrap64 ((ji12) + t168))
          · rw [if_pos c14] at H
            have c14b0 := eq_true c14
            have c14b1 : decide ((ji12) ≤ (wrap64 ((ji12) + t168))) = true := decide_eq_true c14
            by_cases c15 : (wrap64 ((ji12) + t168)) ≤ (a0.size : Int)
            · rw [if_pos c15] at H
              have c15b0 := eq_true c15
              have c15b1 : decide ((wrap64 ((ji12) + t168)) ≤ (a0.size : Int)) = true := decide_eq_true c15
              replace H := Option.bind_eq_some_iff.mp H
              obtain ⟨t169, A160, H⟩ := H
              replace H : (scrimref04_opening.l0 kj3 a0 (wrap64 ((ji12) + t168)) 1 t169 (⟨#[]⟩ : ByteArray) ([] : List (S70))) = some (r1, r2, r3, r4, r5) := H
              have A16 := Aside0.mk A160
              clear A160
              have H' := Aside0.mk H
              clear H
              go_wp2_with (first | ((with_reducible refine gate_callee (f := 55) rfl ?_); refine goesL_ (some 35) rfl rfl Tryz.func55 (by kernel_rfl) rfl #[.string (a0.extract ((ji12) : Int).toNat ((wrap64 ((ji12) + t168)) : Int).toNat)] rfl (by (try simp only [List.map_toArray, List.map_cons, List.map_nil]); first | done | (simp only [hji12]; rfl) | rfl | (simp only [List.length_drop, List.length_take]; rfl)) ?_; (with_reducible refine (scrimref04_Lower.calls kj3 (a0.extract ((ji12) : Int).toNat ((wrap64 ((ji12) + t168)) : Int).toNat) t169 _ A16.out).mono ?_); rintro e w17 ⟨rfl, hb⟩; refine ⟨_, rfl, ?_⟩; have n0_ := Aside0.mk (blk_below (g := gb167) (o := .cells #[.int .i64 0, .string (⟨#[]⟩ : ByteArray), .string (⟨#[]⟩ : ByteArray), .slice none 0 0] 71 (0, 0)) (by (with_reducible repeat (first | refine blk_drewN ?_ _ | refine blk_drew ?_ | refine blk_alloc ?_ _)); exact BK167.out) hb); have n1_ := Aside0.mk (below_step (by repeat (first | (with_reducible first | exact HB.out | apply below_alloc | apply pw_below_drewN | apply below_drew1 | refine below_set ?_ GE167.out) | exact HB.out)) hb); clear BK167; clear HB; have BK167 := n0_; have HB := n1_; clear n0_ n1_; (try clear hb); (try clear hb2); (try clear hk); (try clear hi)) | ((with_reducible refine gate_dst (N := 7) rfl ?_); refine box_event ?hg (N := 7) ?hd (cs := #[.int .i64 0, .string (⟨#[]⟩ : ByteArray), .string (⟨#[]⟩ : ByteArray), .slice none 0 0]) (t := 71) ?hr ?_; (case hd => rfl); (case hg => rfl); (case hr => first | (go_simp; done) | (go_simp; rfl)); intro gb170 hg w18 hbox hb; have n0_ := Aside0.mk (blk_below (g := gb167) (o := .cells #[.int .i64 0, .string (⟨#[]⟩ : ByteArray), .string (⟨#[]⟩ : ByteArray), .slice none 0 0] 71 (0, 0)) (by (with_reducible repeat (first | refine blk_drewN ?_ _ | refine blk_drew ?_ | refine blk_alloc ?_ _)); exact BK167.out) hb); have n1_ := Aside0.mk (below_step (by repeat (first | (with_reducible first | exact HB.out | apply below_alloc | apply pw_below_drewN | apply below_drew1 | refine below_set ?_ GE167.out) | exact HB.out)) hb); have n2_ := Aside0.mk (hbox); have n3_ := Aside0.mk ((by rw [hg]; exact (below_size (by repeat (first | (with_reducible first | exact HB.out | apply below_alloc | apply pw_below_drewN | apply below_drew1 | refine below_set ?_ GE167.out) | exact HB.out))) : w.heap.size ≤ gb170)); have n4_ := Aside0.mk ((by rw [hg]; exact (below_size (by repeat (first | (with_reducible first | exact HB.out | apply below_alloc | apply pw_below_drewN | apply below_drew1 | refine below_set ?_ GE167.out) | exact HB.out))) : w.heap.size ≤ gb170)); have n5_ := Aside0.mk ((by rw [hg]; exact Nat.ne_of_lt (blk_lt (g := gb167) (o := .cells #[.int .i64 0, .string (⟨#[]⟩ : ByteArray), .string (⟨#[]⟩ : ByteArray), .slice none 0 0] 71 (0, 0)) (by (with_reducible repeat (first | refine blk_drewN ?_ _ | refine blk_drew ?_ | refine blk_alloc ?_ _)); exact BK167.out)) : gb167 ≠ gb170)); have n6_ := Aside0.mk ((by rw [hg]; exact Nat.ne_of_gt (blk_lt (g := gb167) (o := .cells #[.int .i64 0, .string (⟨#[]⟩ : ByteArray), .string (⟨#[]⟩ : ByteArray), .slice none 0 0] 71 (0, 0)) (by (with_reducible repeat (first | refine blk_drewN ?_ _ | refine blk_drew ?_ | refine blk_alloc ?_ _)); exact BK167.out)) : gb170 ≠ gb167)); clear BK167; clear HB; have BK167 := n0_; have HB := n1_; have BK170 := n2_; have GW170 := n3_; have GE170 := n4_; have NB167_170 := n5_; have NB170_167 := n6_; clear n0_ n1_ n2_ n3_ n4_ n5_ n6_; clear hb hbox hg; have hnb19 := NB170_167.out; have hnc19 := NB167_170.out; have hcz20_0 : w18.cell? ⟨gb170, 0, none⟩ = some (.int .i64 0) := (blk_cell BK170.out 0).trans rfl; have hcz20_1 : w18.cell? ⟨gb170, 1, none⟩ = some (.string (⟨#[]⟩ : ByteArray)) := (blk_cell BK170.out 1).trans rfl; have hcz20_2 : w18.cell? ⟨gb170, 2, none⟩ = some (.string (⟨#[]⟩ : ByteArray)) := (blk_cell BK170.out 2).trans rfl; have hcz20_3 : w18.cell? ⟨gb170, 3, none⟩ = some (.slice none 0 0) := (blk_cell BK170.out 3).trans rfl; have hfz20_0 := blk_frozen BK170.out 0; have hfz20_1 := blk_frozen BK170.out 1; have hfz20_2 := blk_frozen BK170.out 2; have hfz20_3 := blk_frozen BK170.out 3))
              go_loopg [1] kj3 (fun kq v1 w' => ∃ (x1_2 : Int) (x168000_2 : Int) (x168001_2 : ByteArray) (x168002_2 : ByteArray) (x171003_2 : List (S70)) (u171003 : Value), v1 = .int .i64 x1_2 ∧ Aside0 (scrimref04_opening.l0 kq a0 x1_2 1 t169 (⟨#[]⟩ : ByteArray) x171003_2 = some (r1, r2, r3, r4, r5)) ∧ Aside0 (kq ≤ kj3) ∧ Aside0 (Kd.R k70 70 w' w.heap.size (fun _ => True) u171003 x171003_2) ∧ Aside0 (w'.heap[gb167]? = some (.cells #[.int .i64 x168000_2, .string x168001_2, .string x168002_2, (.slice none 0 0)] 71 (0, 0))) ∧ Aside0 (w'.heap[gb170]? = some (.cells #[.int .i64 1, .string t169, .string (⟨#[]⟩ : ByteArray), u171003] 71 (0, 0))) ∧ Aside0 (Below w.heap.size w w'))
              case atStart => exact ⟨(wrap64 ((ji12) + t168)), (0), ((⟨#[]⟩ : ByteArray)), ((⟨#[]⟩ : ByteArray)), (([] : List (S70))), (.slice none 0 0), (by first | rfl | (simp; done) | (simp only [← hji12] <;> (first | rfl | simp)) | (simp [*]; done)), H', ⟨Nat.le_refl _⟩, ⟨by first | exact Kd.R_nil _ _ _ _ _ | exact Kd.N_nil _ _ _ _ _ | exact Kd.V_nil _ _ _ _ _ | exact Kd.Q_nil _ _ _ _ _ | exact Kd.S_nil _ _ _ _ _⟩, ⟨by (with_reducible repeat (first | refine blk_drewN ?_ _ | refine blk_drew ?_ | refine blk_alloc ?_ _)); refine blk_far ?_ NB167_170.out _; (with_reducible repeat (first | refine blk_drewN ?_ _ | refine blk_drew ?_ | refine blk_alloc ?_ _)); refine blk_far ?_ NB167_170.out _; (with_reducible repeat (first | refine blk_drewN ?_ _ | refine blk_drew ?_ | refine blk_alloc ?_ _)); refine blk_far ?_ NB167_170.out _; (with_reducible repeat (first | refine blk_drewN ?_ _ | refine blk_drew ?_ | refine blk_alloc ?_ _)); refine blk_far ?_ NB167_170.out _; (with_reducible repeat (first | refine blk_drewN ?_ _ | refine blk_drew ?_ | refine blk_alloc ?_ _)); exact BK167.out⟩, ⟨by (with_reducible repeat (first | refine blk_drewN ?_ _ | refine blk_drew ?_ | refine blk_alloc ?_ _)); refine blk_put (cs := #[.int .i64 1, .string t169, .string (⟨#[]⟩ : ByteArray), .slice none 0 0]) ?_ 3 _ rfl; (with_reducible repeat (first | refine blk_drewN ?_ _ | refine blk_drew ?_ | refine blk_alloc ?_ _)); refine blk_put (cs := #[.int .i64 1, .string t169, .string (⟨#[]⟩ : ByteArray), .slice none 0 0]) ?_ 2 _ rfl; (with_reducible repeat (first | refine blk_drewN ?_ _ | refine blk_drew ?_ | refine blk_alloc ?_ _)); refine blk_put (cs := #[.int .i64 1, .string (⟨#[]⟩ : ByteArray), .string (⟨#[]⟩ : ByteArray), .slice none 0 0]) ?_ 1 _ rfl; (with_reducible repeat (first | refine blk_drewN ?_ _ | refine blk_drew ?_ | refine blk_alloc ?_ _)); refine blk_put (cs := #[.int .i64 0, .string (⟨#[]⟩ : ByteArray), .string (⟨#[]⟩ : ByteArray), .slice none 0 0]) ?_ 0 _ rfl; (with_reducible repeat (first | refine blk_drewN ?_ _ | refine blk_drew ?_ | refine blk_alloc ?_ _)); exact BK170.out⟩, ⟨by repeat (first | (with_reducible first | exact HB.out | apply below_alloc | apply pw_below_drewN | apply below_drew1 | refine below_set ?_ GE167.out | refine below_set ?_ GE170.out) | exact HB.out)⟩⟩
              case round =>
                clear H'
                try clear c1
                try clear p2
                try clear c5
                try clear c6
                try clear c6b0
                try clear p6
                try clear c7
                try clear c7b0
                try clear p8
                try clear q8
                try clear hx8
                try clear c9
                try clear c9b0
                try clear c9b1
                try clear c10
                try clear c13
                try clear c13b0
                try clear c13b1
                try clear c14
                try clear c14b0
                try clear c14b1
                try clear c15
                try clear c15b0
                try clear c15b1
                try clear c19
                try clear hcz11_0
                try clear hcz11_1
                try clear hcz11_2
                try clear hcz11_3
                try clear hcz20_0
                try clear hcz20_1
                try clear hcz20_2
                try clear hcz20_3
                try clear hfz11_0
                try clear hfz11_1
                try clear hfz11_2
                try clear hfz11_3
                try clear hfz20_0
                try clear hfz20_1
                try clear hfz20_2
                try clear hfz20_3
                try clear p2
                try clear p6
                try clear p8
                try clear q8
                obtain ⟨x1_2, x168000_2, x168001_2, x168002_2, x171003_2, u171003, rfl, HA, HK2, HO_171003, BK167, BK170, HB⟩ := hrel
                cases gk with
                | zero => exact absurd HA.out (by simp [scrimref04_opening.l0])
                | succ k2 =>
                  have H := HA.out
                  clear HA
                  simp only [scrimref04_opening.l0] at H
                  replace H := Option.bind_eq_some_iff.mp H
                  obtain ⟨t171, A210, H⟩ := H
                  replace H : ((scrimref04_has.f a0 (wrap64 (x1_2 + t171)) (⟨#[62]⟩ : ByteArray)).bind fun t172 => (if t172 = true then (some (1, t169, (⟨#[]⟩ : ByteArray), x171003_2, wrap64 ((wrap64 (x1_2 + t171)) + 1))) else ((scrimref04_NameAt.f k2 a0 (wrap64 (x1_2 + t171))).bind fun t173 => (if t171 = 0 then (scrimref04_opening.j2 k2 a0 x1_2 t173 t171 true 1 t169 (⟨#[]⟩ : ByteArray) x171003_2) else (scrimref04_opening.j2 k2 a0 x1_2 t173 t171 (t173 == 0) 1 t169 (⟨#[]⟩ : ByteArray) x171003_2))))) = some (r1, r2, r3, r4, r5) := H
                  have A21 := Aside0.mk A210
                  clear A210
                  replace H := Option.bind_eq_some_iff.mp H
                  obtain ⟨t172, A220, H⟩ := H
                  replace H : (if t172 = true then (some (1, t169, (⟨#[]⟩ : ByteArray), x171003_2, wrap64 ((wrap64 (x1_2 + t171)) + 1))) else ((scrimref04_NameAt.f k2 a0 (wrap64 (x1_2 + t171))).bind fun t173 => (if t171 = 0 then (scrimref04_opening.j2 k2 a0 x1_2 t173 t171 true 1 t169 (⟨#[]⟩ : ByteArray) x171003_2) else (scrimref04_opening.j2 k2 a0 x1_2 t173 t171 (t173 == 0) 1 t169 (⟨#[]⟩ : ByteArray) x171003_2)))) = some (r1, r2, r3, r4, r5) := H
                  have A22 := Aside0.mk A220
                  clear A220
                  by_cases c23 : t172 = true
                  · subst c23
                    have H1 : (some (1, t169, (⟨#[]⟩ : ByteArray), x171003_2, wrap64 ((wrap64 (x1_2 + t171)) + 1))) = some (r1, r2, r3, r4, r5) := by rw [if_pos rfl] at H; exact H
                    clear H
                    have H := H1
                    clear H1
                    simp only [Option.some.injEq, Prod.mk.injEq] at H
                    obtain ⟨rfl, rfl, rfl, rfl, rfl⟩ := H
                    go_wp2_with (first | ((with_reducible refine gate_callee (f := 87) rfl ?_); refine goesL_ (some 43) rfl rfl Tryz.func87 (by kernel_rfl) rfl #[.string a0, .int .i64 x1_2] rfl (by (try simp only [List.map_toArray, List.map_cons, List.map_nil]); first | done | rfl | (simp only [List.length_drop, List.length_take]; rfl)) ?_; (with_reducible refine (scrimref04_blanks.calls k2 a0 x1_2 t171 _ A21.out).mono ?_); rintro e w' ⟨rfl, ⟨nd, rfl⟩⟩; refine ⟨_, rfl, ?_⟩; (try (rw [drewN_self wr]; generalize hq_ : World.drewN wr _ = wr; have n0_ : Aside0 (Kd.R k70 70 wr w.heap.size (fun _ => True) u171003 x171003_2) := ⟨by rw [← hq_]; exact (by (with_reducible repeat (first | apply Kd.R_alloc | apply Kd.R_drewN | apply Kd.R_drew)); exact HO_171003.out)⟩; have n1_ : Aside0 (wr.heap[gb167]? = some (.cells #[.int .i64 x168000_2, .string x168001_2, .string x168002_2, .slice none 0 0] 71 (0, 0))) := ⟨by rw [← hq_]; exact (by (with_reducible repeat (first | refine blk_drewN ?_ _ | refine blk_drew ?_ | refine blk_alloc ?_ _)); exact BK167.out)⟩; have n2_ : Aside0 (wr.heap[gb170]? = some (.cells #[.int .i64 1, .string t169, .string (⟨#[]⟩ : ByteArray), u171003] 71 (0, 0))) := ⟨by rw [← hq_]; exact (by (with_reducible repeat (first | refine blk_drewN ?_ _ | refine blk_drew ?_ | refine blk_alloc ?_ _)); exact BK170.out)⟩; have n3_ : Aside0 (Below w.heap.size w wr) := ⟨by rw [← hq_]; exact (by repeat (first | (with_reducible first | exact HB.out | apply below_alloc | apply pw_below_drewN | apply below_drew1 | refine below_set ?_ GE167.out | refine below_set ?_ GE170.out) | exact HB.out))⟩; clear HO_171003 BK167 BK170 HB hq_; have HO_171003 := n0_; have BK167 := n1_; have BK170 := n2_; have HB := n3_; clear n0_ n1_ n2_ n3_))) | ((with_reducible refine gate_callee (f := 58) rfl ?_); refine goesL_ (some 48) rfl rfl Tryz.func58 (by kernel_rfl) rfl #[.string a0, .int .i64 (wrap64 (x1_2 + t171)), .string (⟨#[62]⟩ : ByteArray)] rfl (by (try simp only [List.map_toArray, List.map_cons, List.map_nil]); first | done | rfl | (simp only [List.length_drop, List.length_take]; rfl)) ?_; (with_reducible refine (scrimref04_has.calls a0 (wrap64 (x1_2 + t171)) (⟨#[62]⟩ : ByteArray) true _ A22.out).mono ?_); rintro e w' ⟨rfl, ⟨nd, rfl⟩⟩; refine ⟨_, rfl, ?_⟩; (try (rw [drewN_self wr]; generalize hq_ : World.drewN wr _ = wr; have n0_ : Aside0 (Kd.R k70 70 wr w.heap.size (fun _ => True) u171003 x171003_2) := ⟨by rw [← hq_]; exact (by (with_reducible repeat (first | apply Kd.R_alloc | apply Kd.R_drewN | apply Kd.R_drew)); exact HO_171003.out)⟩; have n1_ : Aside0 (wr.heap[gb167]? = some (.cells #[.int .i64 x168000_2, .string x168001_2, .string x168002_2, .slice none 0 0] 71 (0, 0))) := ⟨by rw [← hq_]; exact (by (with_reducible repeat (first | refine blk_drewN ?_ _ | refine blk_drew ?_ | refine blk_alloc ?_ _)); exact BK167.out)⟩; have n2_ : Aside0 (wr.heap[gb170]? = some (.cells #[.int .i64 1, .string t169, .string (⟨#[]⟩ : ByteArray), u171003] 71 (0, 0))) := ⟨by rw [← hq_]; exact (by (with_reducible repeat (first | refine blk_drewN ?_ _ | refine blk_drew ?_ | refine blk_alloc ?_ _)); exact BK170.out)⟩; have n3_ : Aside0 (Below w.heap.size w wr) := ⟨by rw [← hq_]; exact (by repeat (first | (with_reducible first | exact HB.out | apply below_alloc | apply pw_below_drewN | apply below_drew1 | refine below_set ?_ GE167.out | refine below_set ?_ GE170.out) | exact HB.out))⟩; clear HO_171003 BK167 BK170 HB hq_; have HO_171003 := n0_; have BK167 := n1_; have BK170 := n2_; have HB := n3_; clear n0_ n1_ n2_ n3_)); have hnb24 := NB170_167.out; have hnc24 := NB167_170.out; have hcz25_0 : wr.cell? ⟨gb170, 0, none⟩ = some (.int .i64 1) := (blk_cell BK170.out 0).trans rfl; have hcz25_1 : wr.cell? ⟨gb170, 1, none⟩ = some (.string t169) := (blk_cell BK170.out 1).trans rfl; have hcz25_2 : wr.cell? ⟨gb170, 2, none⟩ = some (.string (⟨#[]⟩ : ByteArray)) := (blk_cell BK170.out 2).trans rfl; have hcz25_3 : wr.cell? ⟨gb170, 3, none⟩ = some (u171003) := (blk_cell BK170.out 3).trans rfl; have hfz25_0 := blk_frozen BK170.out 0; have hfz25_1 := blk_frozen BK170.out 1; have hfz25_2 := blk_frozen BK170.out 2; have hfz25_3 := blk_frozen BK170.out 3; have hcz26_0 : wr.cell? ⟨gb167, 0, none⟩ = some (.int .i64 x168000_2) := (blk_cell BK167.out 0).trans rfl; have hcz26_1 : wr.cell? ⟨gb167, 1, none⟩ = some (.string x168001_2) := (blk_cell BK167.out 1).trans rfl; have hcz26_2 : wr.cell? ⟨gb167, 2, none⟩ = some (.string x168002_2) := (blk_cell BK167.out 2).trans rfl; have hcz26_3 : wr.cell? ⟨gb167, 3, none⟩ = some (.slice none 0 0) := (blk_cell BK167.out 3).trans rfl; have hfz26_0 := blk_frozen BK167.out 0; have hfz26_1 := blk_frozen BK167.out 1; have hfz26_2 := blk_frozen BK167.out 2; have hfz26_3 := blk_frozen BK167.out 3; obtain ⟨Ao27, co27, eo27⟩ := Kd.R_slice HO_171003.out; subst eo27))
                    refine bodyPost_ret (results_ct rfl _ _ gb167 71 #[.int .i64 1, .string t169, .string (⟨#[]⟩ : ByteArray), .slice Ao27 x171003_2.length co27] (0, 0) _ rfl (by (with_reducible repeat (first | refine blk_drewN ?_ _ | refine blk_drew ?_ | refine blk_alloc ?_ _)); refine blk_put (cs := #[.int .i64 1, .string t169, .string (⟨#[]⟩ : ByteArray), .slice none 0 0]) ?_ 3 _ rfl; (with_reducible repeat (first | refine blk_drewN ?_ _ | refine blk_drew ?_ | refine blk_alloc ?_ _)); refine blk_put (cs := #[.int .i64 1, .string t169, .string x168002_2, .slice none 0 0]) ?_ 2 _ rfl; (with_reducible repeat (first | refine blk_drewN ?_ _ | refine blk_drew ?_ | refine blk_alloc ?_ _)); refine blk_put (cs := #[.int .i64 1, .string x168001_2, .string x168002_2, .slice none 0 0]) ?_ 1 _ rfl; (with_reducible repeat (first | refine blk_drewN ?_ _ | refine blk_drew ?_ | refine blk_alloc ?_ _)); refine blk_put (cs := #[.int .i64 x168000_2, .string x168001_2, .string x168002_2, .slice none 0 0]) ?_ 0 _ rfl; (with_reducible repeat (first | refine blk_drewN ?_ _ | refine blk_drew ?_ | refine blk_alloc ?_ _)); exact BK167.out) Tryz.underlying71 rfl (by kernel_rfl)) rfl ?_
                    exact ⟨_, by first | rfl | (simp [errW_none, errW_some] <;> rfl) | (simp only [← hji12]; first | rfl | (simp [errW_none, errW_some] <;> rfl)) | (simp [*, errW_none, errW_some] <;> rfl), by (with_reducible repeat (first | apply Kd.R_alloc | apply Kd.R_drewN | apply Kd.R_drew)); exact Kd.R_mono (Kd.R_far (p := ⟨gb167, 3, none⟩) (Kd.R_far (p := ⟨gb167, 2, none⟩) (Kd.R_far (p := ⟨gb167, 1, none⟩) (Kd.R_far (p := ⟨gb167, 0, none⟩) (Kd.R_types HO_171003.out BK167.out (by decide)) (fun _ hk => hk.2) (.int .i64 1)) (fun _ hk => hk.2) (.string t169)) (fun _ hk => hk.2) (.string (⟨#[]⟩ : ByteArray))) (fun _ hk => hk.2) (.slice Ao27 x171003_2.length co27)) (fun _ hk => trivial), by repeat (first | (with_reducible first | exact HB.out | apply below_alloc | apply pw_below_drewN | apply below_drew1 | refine below_set ?_ GE167.out | refine below_set ?_ GE170.out) | exact HB.out)⟩
                  · replace c23 := Bool.eq_false_iff.mpr c23
                    subst c23
                    have H1 : ((scrimref04_NameAt.f k2 a0 (wrap64 (x1_2 + t171))).bind fun t173 => (if t171 = 0 then (scrimref04_opening.j2 k2 a0 x1_2 t173 t171 true 1 t169 (⟨#[]⟩ : ByteArray) x171003_2) else (scrimref04_opening.j2 k2 a0 x1_2 t173 t171 (t173 == 0) 1 t169 (⟨#[]⟩ : ByteArray) x171003_2))) = some (r1, r2, r3, r4, r5) := by rw [if_neg (show ¬ (false = true) by decide)] at H; exact H
                    clear H
                    have H := H1
                    clear H1
                    replace H := Option.bind_eq_some_iff.mp H
                    obtain ⟨t173, A280, H⟩ := H
                    replace H : (if t171 = 0 then (scrimref04_opening.j2 k2 a0 x1_2 t173 t171 true 1 t169 (⟨#[]⟩ : ByteArray) x171003_2) else (scrimref04_opening.j2 k2 a0 x1_2 t173 t171 (t173 == 0) 1 t169 (⟨#[]⟩ : ByteArray) x171003_2)) = some (r1, r2, r3, r4, r5) := H
                    have A28 := Aside0.mk A280
                    clear A280
                    have HC29 := Aside0.mk H
                    clear H
                    go_upto_region 10 with (first | ((with_reducible refine gate_callee (f := 87) rfl ?_); refine goesL_ (some 43) rfl rfl Tryz.func87 (by kernel_rfl) rfl #[.string a0, .int .i64 x1_2] rfl (by (try simp only [List.map_toArray, List.map_cons, List.map_nil]); first | done | rfl | (simp only [List.length_drop, List.length_take]; rfl)) ?_; (with_reducible refine (scrimref04_blanks.calls k2 a0 x1_2 t171 _ A21.out).mono ?_); rintro e w' ⟨rfl, ⟨nd, rfl⟩⟩; refine ⟨_, rfl, ?_⟩) | ((with_reducible refine gate_callee (f := 58) rfl ?_); refine goesL_ (some 48) rfl rfl Tryz.func58 (by kernel_rfl) rfl #[.string a0, .int .i64 (wrap64 (x1_2 + t171)), .string (⟨#[62]⟩ : ByteArray)] rfl (by (try simp only [List.map_toArray, List.map_cons, List.map_nil]); first | done | rfl | (simp only [List.length_drop, List.length_take]; rfl)) ?_; (with_reducible refine (scrimref04_has.calls a0 (wrap64 (x1_2 + t171)) (⟨#[62]⟩ : ByteArray) false _ A22.out).mono ?_); rintro e w' ⟨rfl, ⟨nd, rfl⟩⟩; refine ⟨_, rfl, ?_⟩) | ((with_reducible refine gate_callee (f := 54) rfl ?_); refine goesL_ (some 58) rfl rfl Tryz.func54 (by kernel_rfl) rfl #[.string a0, .int .i64 (wrap64 (x1_2 + t171))] rfl (by (try simp only [List.map_toArray, List.map_cons, List.map_nil]); first | done | rfl | (simp only [List.length_drop, List.length_take]; rfl)) ?_; (with_reducible refine (scrimref04_NameAt.calls k2 a0 (wrap64 (x1_2 + t171)) t173 _ A28.out).mono ?_); rintro e w' ⟨rfl, ⟨nd, rfl⟩⟩; refine ⟨_, rfl, ?_⟩))
                    (try simp only [Act.put, List.setIfInBounds_toArray, List.set_cons_zero, List.set_cons_succ])
                    go_cut [64] (fun v64 wc => ∃ (kq : Nat) (x64_28 : Bool), v64 = .bool x64_28 ∧ Aside0 (scrimref04_opening.j2 kq a0 x1_2 t173 t171 x64_28 1 t169 (⟨#[]⟩ : ByteArray) x171003_2 = some (r1, r2, r3, r4, r5)) ∧ Aside0 (kq ≤ k2) ∧ Aside0 (Kd.R k70 70 wc w.heap.size (fun _ => True) u171003 x171003_2) ∧ Aside0 (wc.heap[gb167]? = some (.cells #[.int .i64 x168000_2, .string x168001_2, .string x168002_2, (.slice none 0 0)] 71 (0, 0))) ∧ Aside0 (wc.heap[gb170]? = some (.cells #[.int .i64 1, .string t169, .string (⟨#[]⟩ : ByteArray), u171003] 71 (0, 0))) ∧ Aside0 (Below w.heap.size w wc))
                    case first =>
                      have H := HC29.out
                      clear HC29
                      by_cases c30 : t171 = 0
                      · rw [if_pos c30] at H
                        have c30b0 : (t171 == 0) = true := beq_iff_eq.mpr c30
                        have c30b1 : (t171 != 0) = false := bne_eq_false_iff_eq.mpr c30
                        clear c30
                        (first | rw [c30b0] | (simp only [i64_w, i32_w]; rw [c30b0]) | skip)
                        have H' := Aside0.mk H
                        clear H
                        go_wp2
                        go_meet
                        case rel => exact ⟨_, (true), (by first | rfl | (simp; done) | (simp [*]; done)), H', ⟨by have := HJ3.out; have := HK2.out; first | omega | exact Nat.le_refl _⟩, ⟨by (with_reducible repeat (first | apply Kd.R_alloc | apply Kd.R_drewN | apply Kd.R_drew)); exact HO_171003.out⟩, ⟨by (with_reducible repeat (first | refine blk_drewN ?_ _ | refine blk_drew ?_ | refine blk_alloc ?_ _)); exact BK167.out⟩, ⟨by (with_reducible repeat (first | refine blk_drewN ?_ _ | refine blk_drew ?_ | refine blk_alloc ?_ _)); exact BK170.out⟩, ⟨by repeat (first | (with_reducible first | exact HB.out | apply below_alloc | apply pw_below_drewN | apply below_drew1 | refine below_set ?_ GE167.out | refine below_set ?_ GE170.out) | exact HB.out)⟩⟩
                      · rw [if_neg c30] at H
                        have c30b0 : (t171 == 0) = false := beq_eq_false_iff_ne.mpr c30
                        have c30b1 : (t171 != 0) = true := bne_iff_ne.mpr c30
                        (first | rw [c30b0] | (simp only [i64_w, i32_w]; rw [c30b0]) | skip)
                        have H' := Aside0.mk H
                        clear H
                        go_wp2
                        go_meet
                        case rel => exact ⟨_, ((t173 == 0)), (by first | rfl | (simp; done) | (simp [*]; done)), H', ⟨by have := HJ3.out; have := HK2.out; first | omega | exact Nat.le_refl _⟩, ⟨by (with_reducible repeat (first | apply Kd.R_alloc | apply Kd.R_drewN | apply Kd.R_drew)); exact HO_171003.out⟩, ⟨by (with_reducible repeat (first | refine blk_drewN ?_ _ | refine blk_drew ?_ | refine blk_alloc ?_ _)); exact BK167.out⟩, ⟨by (with_reducible repeat (first | refine blk_drewN ?_ _ | refine blk_drew ?_ | refine blk_alloc ?_ _)); exact BK170.out⟩, ⟨by repeat (first | (with_reducible first | exact HB.out | apply below_alloc | apply pw_below_drewN | apply below_drew1 | refine below_set ?_ GE167.out | refine below_set ?_ GE170.out) | exact HB.out)⟩⟩
                    case rest =>
                      clear HC29
                      try clear c1
                      try clear c2
                      try clear p2
                      try clear c3
                      try clear c5
                      try clear c6
                      try clear c6b0
                      try clear p6
                      try clear c7
                      try clear c7b0
                      try clear c8
                      try clear p8
                      try clear q8
                      try clear hx8
                      try clear c9
                      try clear c9b0
                      try clear c9b1
                      try clear c10
                      try clear c13
                      try clear c13b0
                      try clear c13b1
                      try clear c14
                      try clear c14b0
                      try clear c14b1
                      try clear c15
                      try clear c15b0
                      try clear c15b1
                      try clear c19
                      try clear c23
                      try clear c24
                      try clear c30
                      try clear c30b0
                      try clear c30b1
                      try clear hcz11_0
                      try clear hcz11_1
                      try clear hcz11_2
                      try clear hcz11_3
                      try clear hcz20_0
                      try clear hcz20_1
                      try clear hcz20_2
                      try clear hcz20_3
                      try clear hcz25_0
                      try clear hcz25_1
                      try clear hcz25_2
                      try clear hcz25_3
                      try clear hcz26_0
                      try clear hcz26_1
                      try clear hcz26_2
                      try clear hcz26_3
                      try clear hfz11_0
                      try clear hfz11_1
                      try clear hfz11_2
                      try clear hfz11_3
                      try clear hfz20_0
                      try clear hfz20_1
                      try clear hfz20_2
                      try clear hfz20_3
                      try clear hfz25_0
                      try clear hfz25_1
                      try clear hfz25_2
                      try clear hfz25_3
                      try clear hfz26_0
                      try clear hfz26_1
                      try clear hfz26_2
                      try clear hfz26_3
                      try clear p2
                      try clear p6
                      try clear p8
                      try clear q8
                      obtain ⟨kq, x64_28, rfl, HA, HJ28, HO_171003, BK167, BK170, HB⟩ := hcut
                      cases kq with
                      | zero => exact absurd HA.out (by simp [scrimref04_opening.j2])
                      | succ kj28 =>
                        have H := HA.out
                        clear HA
                        simp only [scrimref04_opening.j2] at H
                        by_cases c31 : x64_28 = true
                        · subst c31
                          have H1 : (some (0, (⟨#[]⟩ : ByteArray), (⟨#[]⟩ : ByteArray), ([] : List (S70)), 0)) = some (r1, r2, r3, r4, r5) := by rw [if_pos rfl] at H; exact H
                          clear H
                          have H := H1
                          clear H1
                          simp only [Option.some.injEq, Prod.mk.injEq] at H
                          obtain ⟨rfl, rfl, rfl, rfl, rfl⟩ := H
                          have hnb32 := NB167_170.out
                          have hnc32 := NB170_167.out
                          have hcz33_0 : wc.cell? ⟨gb167, 0, none⟩ = some (.int .i64 x168000_2) := (blk_cell BK167.out 0).trans rfl
                          have hcz33_1 : wc.cell? ⟨gb167, 1, none⟩ = some (.string x168001_2) := (blk_cell BK167.out 1).trans rfl
                          have hcz33_2 : wc.cell? ⟨gb167, 2, none⟩ = some (.string x168002_2) := (blk_cell BK167.out 2).trans rfl
                          have hcz33_3 : wc.cell? ⟨gb167, 3, none⟩ = some (.slice none 0 0) := (blk_cell BK167.out 3).trans rfl
                          have hfz33_0 := blk_frozen BK167.out 0
                          have hfz33_1 := blk_frozen BK167.out 1
                          have hfz33_2 := blk_frozen BK167.out 2
                          have hfz33_3 := blk_frozen BK167.out 3
                          go_wp2
                          refine bodyPost_ret (results_ct rfl _ _ gb167 71 #[.int .i64 0, .string (⟨#[]⟩ : ByteArray), .string (⟨#[]⟩ : ByteArray), .slice none 0 0] (0, 0) _ rfl (by (with_reducible repeat (first | refine blk_drewN ?_ _ | refine blk_drew ?_ | refine blk_alloc ?_ _)); refine blk_put (cs := #[.int .i64 0, .string (⟨#[]⟩ : ByteArray), .string (⟨#[]⟩ : ByteArray), .slice none 0 0]) ?_ 3 _ rfl; (with_reducible repeat (first | refine blk_drewN ?_ _ | refine blk_drew ?_ | refine blk_alloc ?_ _)); refine blk_put (cs := #[.int .i64 0, .string (⟨#[]⟩ : ByteArray), .string x168002_2, .slice none 0 0]) ?_ 2 _ rfl; (with_reducible repeat (first | refine blk_drewN ?_ _ | refine blk_drew ?_ | refine blk_alloc ?_ _)); refine blk_put (cs := #[.int .i64 0, .string x168001_2, .string x168002_2, .slice none 0 0]) ?_ 1 _ rfl; (with_reducible repeat (first | refine blk_drewN ?_ _ | refine blk_drew ?_ | refine blk_alloc ?_ _)); refine blk_put (cs := #[.int .i64 x168000_2, .string x168001_2, .string x168002_2, .slice none 0 0]) ?_ 0 _ rfl; (with_reducible repeat (first | refine blk_drewN ?_ _ | refine blk_drew ?_ | refine blk_alloc ?_ _)); exact BK167.out) Tryz.underlying71 rfl (by kernel_rfl)) rfl ?_
                          exact ⟨_, by first | rfl | (simp [errW_none, errW_some] <;> rfl) | (simp only [← hji12]; first | rfl | (simp [errW_none, errW_some] <;> rfl)) | (simp [*, errW_none, errW_some] <;> rfl), by first | exact Kd.R_nil _ _ _ _ _ | exact Kd.N_nil _ _ _ _ _ | exact Kd.V_nil _ _ _ _ _ | exact Kd.Q_nil _ _ _ _ _ | exact Kd.S_nil _ _ _ _ _, by repeat (first | (with_reducible first | exact HB.out | apply below_alloc | apply pw_below_drewN | apply below_drew1 | refine below_set ?_ GE167.out | refine below_set ?_ GE170.out) | exact HB.out)⟩
                        · replace c31 := Bool.eq_false_iff.mpr c31
                          subst c31
                          have H1 : (if 0 ≤ (wrap64 (x1_2 + t171)) then (if (wrap64 (x1_2 + t171)) ≤ (wrap64 ((wrap64 (x1_2 + t171)) + t173)) then (if (wrap64 ((wrap64 (x1_2 + t171)) + t173)) ≤ (a0.size : Int) then ((scrimref04_Lower.f kj28 (a0.extract ((wrap64 (x1_2 + t171)) : Int).toNat ((wrap64 ((wrap64 (x1_2 + t171)) + t173)) : Int).toNat)).bind fun t174 => ((scrimref04_has.f a0 (wrap64 ((wrap64 (x1_2 + t171)) + t173)) (⟨#[61]⟩ : ByteArray)).bind fun t175 => (if t175 = true then ((scrimref04_has.f a0 (wrap64 ((wrap64 (x1_2 + t171)) + t173)) (⟨#[61, 34]⟩ : ByteArray)).bind fun t176 => (if t176 = true then (scrimref04_opening.l1 kj28 a0 (wrap64 ((wrap64 (x1_2 + t171)) + t173)) t174 (wrap64 ((wrap64 ((wrap64 (x1_2 + t171)) + t173)) + 2)) 1 t169 (⟨#[]⟩ : ByteArray) x171003_2) else (some (0, (⟨#[]⟩ : ByteArray), (⟨#[]⟩ : ByteArray), ([] : List (S70)), 0)))) else ((scrimref04_Attr.f kj28 x171003_2 t174).bind fun bt183 => (if bt183.2 = true then (scrimref04_opening.l0 kj28 a0 (wrap64 ((wrap64 (x1_2 + t171)) + t173)) 1 t169 (⟨#[]⟩ : ByteArray) x171003_2) else (if x171003_2.length < 4398046511104 then (scrimref04_opening.l0 kj28 a0 (wrap64 ((wrap64 (x1_2 + t171)) + t173)) 1 t169 (⟨#[]⟩ : ByteArray) (x171003_2 ++ [(⟨t174, (⟨#[]⟩ : ByteArray)⟩ : S70)])) else (none))))))) else (none)) else (none)) else (none)) = some (r1, r2, r3, r4, r5) := by rw [if_neg (show ¬ (false = true) by decide)] at H; exact H
                          clear H
                          have H := H1
                          clear H1
                          obtain ⟨ji34, hji34⟩ : ∃ j_ : Int, (wrap64 (x1_2 + t171)) = j_ := ⟨_, rfl⟩
                          replace H : (if 0 ≤ (ji34) then (if (ji34) ≤ (wrap64 ((ji34) + t173)) then (if (wrap64 ((ji34) + t173)) ≤ (a0.size : Int) then ((scrimref04_Lower.f kj28 (a0.extract ((ji34) : Int).toNat ((wrap64 ((ji34) + t173)) : Int).toNat)).bind fun t174 => ((scrimref04_has.f a0 (wrap64 ((ji34) + t173)) (⟨#[61]⟩ : ByteArray)).bind fun t175 => (if t175 = true then ((scrimref04_has.f a0 (wrap64 ((ji34) + t173)) (⟨#[61, 34]⟩ : ByteArray)).bind fun t176 => (if t176 = true then (scrimref04_opening.l1 kj28 a0 (wrap64 ((ji34) + t173)) t174 (wrap64 ((wrap64 ((ji34) + t173)) + 2)) 1 t169 (⟨#[]⟩ : ByteArray) x171003_2) else (some (0, (⟨#[]⟩ : ByteArray), (⟨#[]⟩ : ByteArray), ([] : List (S70)), 0)))) else ((scrimref04_Attr.f kj28 x171003_2 t174).bind fun bt183 => (if bt183.2 = true then (scrimref04_opening.l0 kj28 a0 (wrap64 ((ji34) + t173)) 1 t169 (⟨#[]⟩ : ByteArray) x171003_2) else (if x171003_2.length < 4398046511104 then (scrimref04_opening.l0 kj28 a0 (wrap64 ((ji34) + t173)) 1 t169 (⟨#[]⟩ : ByteArray) (x171003_2 ++ [(⟨t174, (⟨#[]⟩ : ByteArray)⟩ : S70)])) else (none))))))) else (none)) else (none)) else (none)) = some (r1, r2, r3, r4, r5) := by first | (rw [hji34] at H; exact H) | (simp only [hji34] at H ⊢; exact H)
                          have hji34w : (IntKind.i64.wrap (x1_2 + t171)) = ji34 := (i64_w _).trans hji34
                          by_cases c35 : 0 ≤ (ji34)
                          · rw [if_pos c35] at H
                            have c35b0 := eq_true c35
                            have c35b1 : decide (0 ≤ (ji34)) = true := decide_eq_true c35
                            clear c35
                            by_cases c36 : (ji34) ≤ (wrap64 ((ji34) + t173))
                            · rw [if_pos c36] at H
                              have c36b0 := eq_true c36
                              have c36b1 : decide ((ji34) ≤ (wrap64 ((ji34) + t173))) = true := decide_eq_true c36
                              by_cases c37 : (wrap64 ((ji34) + t173)) ≤ (a0.size : Int)
                              · rw [if_pos c37] at H
                                have c37b0 := eq_true c37
                                have c37b1 : decide ((wrap64 ((ji34) + t173)) ≤ (a0.size : Int)) = true := decide_eq_true c37
                                replace H := Option.bind_eq_some_iff.mp H
                                obtain ⟨t174, A380, H⟩ := H
                                replace H : ((scrimref04_has.f a0 (wrap64 ((ji34) + t173)) (⟨#[61]⟩ : ByteArray)).bind fun t175 => (if t175 = true then ((scrimref04_has.f a0 (wrap64 ((ji34) + t173)) (⟨#[61, 34]⟩ : ByteArray)).bind fun t176 => (if t176 = true then (scrimref04_opening.l1 kj28 a0 (wrap64 ((ji34) + t173)) t174 (wrap64 ((wrap64 ((ji34) + t173)) + 2)) 1 t169 (⟨#[]⟩ : ByteArray) x171003_2) else (some (0, (⟨#[]⟩ : ByteArray), (⟨#[]⟩ : ByteArray), ([] : List (S70)), 0)))) else ((scrimref04_Attr.f kj28 x171003_2 t174).bind fun bt183 => (if bt183.2 = true then (scrimref04_opening.l0 kj28 a0 (wrap64 ((ji34) + t173)) 1 t169 (⟨#[]⟩ : ByteArray) x171003_2) else (if x171003_2.length < 4398046511104 then (scrimref04_opening.l0 kj28 a0 (wrap64 ((ji34) + t173)) 1 t169 (⟨#[]⟩ : ByteArray) (x171003_2 ++ [(⟨t174, (⟨#[]⟩ : ByteArray)⟩ : S70)])) else (none)))))) = some (r1, r2, r3, r4, r5) := H
                                have A38 := Aside0.mk A380
                                clear A380
                                replace H := Option.bind_eq_some_iff.mp H
                                obtain ⟨t175, A390, H⟩ := H
                                replace H : (if t175 = true then ((scrimref04_has.f a0 (wrap64 ((ji34) + t173)) (⟨#[61, 34]⟩ : ByteArray)).bind fun t176 => (if t176 = true then (scrimref04_opening.l1 kj28 a0 (wrap64 ((ji34) + t173)) t174 (wrap64 ((wrap64 ((ji34) + t173)) + 2)) 1 t169 (⟨#[]⟩ : ByteArray) x171003_2) else (some (0, (⟨#[]⟩ : ByteArray), (⟨#[]⟩ : ByteArray), ([] : List (S70)), 0)))) else ((scrimref04_Attr.f kj28 x171003_2 t174).bind fun bt183 => (if bt183.2 = true then (scrimref04_opening.l0 kj28 a0 (wrap64 ((ji34) + t173)) 1 t169 (⟨#[]⟩ : ByteArray) x171003_2) else (if x171003_2.length < 4398046511104 then (scrimref04_opening.l0 kj28 a0 (wrap64 ((ji34) + t173)) 1 t169 (⟨#[]⟩ : ByteArray) (x171003_2 ++ [(⟨t174, (⟨#[]⟩ : ByteArray)⟩ : S70)])) else (none))))) = some (r1, r2, r3, r4, r5) := H
                                have A39 := Aside0.mk A390
                                clear A390
                                by_cases c40 : t175 = true
                                · subst c40
                                  have H1 : ((scrimref04_has.f a0 (wrap64 ((ji34) + t173)) (⟨#[61, 34]⟩ : ByteArray)).bind fun t176 => (if t176 = true then (scrimref04_opening.l1 kj28 a0 (wrap64 ((ji34) + t173)) t174 (wrap64 ((wrap64 ((ji34) + t173)) + 2)) 1 t169 (⟨#[]⟩ : ByteArray) x171003_2) else (some (0, (⟨#[]⟩ : ByteArray), (⟨#[]⟩ : ByteArray), ([] : List (S70)), 0)))) = some (r1, r2, r3, r4, r5) := by rw [if_pos rfl] at H; exact H
                                  clear H
                                  have H := H1
                                  clear H1
                                  replace H := Option.bind_eq_some_iff.mp H
                                  obtain ⟨t176, A410, H⟩ := H
                                  replace H : (if t176 = true then (scrimref04_opening.l1 kj28 a0 (wrap64 ((ji34) + t173)) t174 (wrap64 ((wrap64 ((ji34) + t173)) + 2)) 1 t169 (⟨#[]⟩ : ByteArray) x171003_2) else (some (0, (⟨#[]⟩ : ByteArray), (⟨#[]⟩ : ByteArray), ([] : List (S70)), 0))) = some (r1, r2, r3, r4, r5) := H
                                  have A41 := Aside0.mk A410
                                  clear A410
                                  by_cases c42 : t176 = true
                                  · subst c42
                                    have H1 : (scrimref04_opening.l1 kj28 a0 (wrap64 ((ji34) + t173)) t174 (wrap64 ((wrap64 ((ji34) + t173)) + 2)) 1 t169 (⟨#[]⟩ : ByteArray) x171003_2) = some (r1, r2, r3, r4, r5) := by rw [if_pos rfl] at H; exact H
                                    clear H
                                    have H := H1
                                    clear H1
                                    have HC43 := Aside0.mk H
                                    clear H
                                    go_upto_block 2 with (first | ((with_reducible refine gate_callee (f := 55) rfl ?_); refine goesL_ (some 76) rfl rfl Tryz.func55 (by kernel_rfl) rfl #[.string (a0.extract ((ji34) : Int).toNat ((wrap64 ((ji34) + t173)) : Int).toNat)] rfl (by (try simp only [List.map_toArray, List.map_cons, List.map_nil]); first | done | (simp only [hji34]; rfl) | rfl | (simp only [List.length_drop, List.length_take]; rfl)) ?_; (with_reducible refine (scrimref04_Lower.calls kj28 (a0.extract ((ji34) : Int).toNat ((wrap64 ((ji34) + t173)) : Int).toNat) t174 _ A38.out).mono ?_); rintro e w44 ⟨rfl, hb⟩; refine ⟨_, rfl, ?_⟩; have n0_ := Aside0.mk (Kd.R_below (by (with_reducible repeat (first | apply Kd.R_alloc | apply Kd.R_drewN | apply Kd.R_drew)); exact HO_171003.out) hb); have n1_ := Aside0.mk (blk_below (g := gb167) (o := .cells #[.int .i64 x168000_2, .string x168001_2, .string x168002_2, .slice none 0 0] 71 (0, 0)) (by (with_reducible repeat (first | refine blk_drewN ?_ _ | refine blk_drew ?_ | refine blk_alloc ?_ _)); exact BK167.out) hb); have n2_ := Aside0.mk (blk_below (g := gb170) (o := .cells #[.int .i64 1, .string t169, .string (⟨#[]⟩ : ByteArray), u171003] 71 (0, 0)) (by (with_reducible repeat (first | refine blk_drewN ?_ _ | refine blk_drew ?_ | refine blk_alloc ?_ _)); exact BK170.out) hb); have n3_ := Aside0.mk (below_step (by repeat (first | (with_reducible first | exact HB.out | apply below_alloc | apply pw_below_drewN | apply below_drew1 | refine below_set ?_ GE167.out | refine below_set ?_ GE170.out) | exact HB.out)) hb); clear HO_171003; clear BK167; clear BK170; clear HB; have HO_171003 := n0_; have BK167 := n1_; have BK170 := n2_; have HB := n3_; clear n0_ n1_ n2_ n3_; (try clear hb); (try clear hb2); (try clear hk); (try clear hi)) | ((with_reducible refine gate_callee (f := 58) rfl ?_); refine goesL_ (some 84) rfl rfl Tryz.func58 (by kernel_rfl) rfl #[.string a0, .int .i64 (wrap64 ((ji34) + t173)), .string (⟨#[61]⟩ : ByteArray)] rfl (by (try simp only [List.map_toArray, List.map_cons, List.map_nil]); first | done | (simp only [hji34]; rfl) | rfl | (simp only [List.length_drop, List.length_take]; rfl)) ?_; (with_reducible refine (scrimref04_has.calls a0 (wrap64 ((ji34) + t173)) (⟨#[61]⟩ : ByteArray) true _ A39.out).mono ?_); rintro e w' ⟨rfl, ⟨nd, rfl⟩⟩; refine ⟨_, rfl, ?_⟩) | ((with_reducible refine gate_callee (f := 58) rfl ?_); refine goesL_ (some 87) rfl rfl Tryz.func58 (by kernel_rfl) rfl #[.string a0, .int .i64 (wrap64 ((ji34) + t173)), .string (⟨#[61, 34]⟩ : ByteArray)] rfl (by (try simp only [List.map_toArray, List.map_cons, List.map_nil]); first | done | (simp only [hji34]; rfl) | rfl | (simp only [List.length_drop, List.length_take]; rfl)) ?_; (with_reducible refine (scrimref04_has.calls a0 (wrap64 ((ji34) + t173)) (⟨#[61, 34]⟩ : ByteArray) true _ A41.out).mono ?_); rintro e w' ⟨rfl, ⟨nd, rfl⟩⟩; refine ⟨_, rfl, ?_⟩))
                                    (try simp only [Act.put, List.setIfInBounds_toArray, List.set_cons_zero, List.set_cons_succ])
                                    go_cut [11] (fun v11 wc => ∃ (kq : Nat) (x11_42 : Int), v11 = .int .i64 x11_42 ∧ Aside0 (scrimref04_opening.j4 kq a0 (wrap64 ((ji34) + t173)) t174 x11_42 1 t169 (⟨#[]⟩ : ByteArray) x171003_2 = some (r1, r2, r3, r4, r5)) ∧ Aside0 (kq ≤ kj28) ∧ Aside0 (Kd.R k70 70 wc w.heap.size (fun _ => True) u171003 x171003_2) ∧ Aside0 (wc.heap[gb167]? = some (.cells #[.int .i64 x168000_2, .string x168001_2, .string x168002_2, (.slice none 0 0)] 71 (0, 0))) ∧ Aside0 (wc.heap[gb170]? = some (.cells #[.int .i64 1, .string t169, .string (⟨#[]⟩ : ByteArray), u171003] 71 (0, 0))) ∧ Aside0 (Below w.heap.size w wc))
                                    case first =>
                                      have H := HC43.out
                                      clear HC43
                                      have H' := Aside0.mk H
                                      clear H
                                      go_wp2
                                      go_loopg [11] kj28 (fun kq v11 w' => ∃ (x11_4 : Int), v11 = .int .i64 x11_4 ∧ Aside0 (scrimref04_opening.l1 kq a0 (wrap64 ((ji34) + t173)) t174 x11_4 1 t169 (⟨#[]⟩ : ByteArray) x171003_2 = some (r1, r2, r3, r4, r5)) ∧ Aside0 (kq ≤ kj28) ∧ Aside0 (Kd.R k70 70 w' w.heap.size (fun _ => True) u171003 x171003_2) ∧ Aside0 (w'.heap[gb167]? = some (.cells #[.int .i64 x168000_2, .string x168001_2, .string x168002_2, (.slice none 0 0)] 71 (0, 0))) ∧ Aside0 (w'.heap[gb170]? = some (.cells #[.int .i64 1, .string t169, .string (⟨#[]⟩ : ByteArray), u171003] 71 (0, 0))) ∧ Aside0 (Below w.heap.size w w'))
                                      case atStart => exact ⟨(wrap64 ((wrap64 ((ji34) + t173)) + 2)), (by first | rfl | (simp; done) | (simp only [← hji34] <;> (first | rfl | simp)) | (simp [*]; done)), H', ⟨Nat.le_refl _⟩, ⟨by (with_reducible repeat (first | apply Kd.R_alloc | apply Kd.R_drewN | apply Kd.R_drew)); exact HO_171003.out⟩, ⟨by (with_reducible repeat (first | refine blk_drewN ?_ _ | refine blk_drew ?_ | refine blk_alloc ?_ _)); exact BK167.out⟩, ⟨by (with_reducible repeat (first | refine blk_drewN ?_ _ | refine blk_drew ?_ | refine blk_alloc ?_ _)); exact BK170.out⟩, ⟨by repeat (first | (with_reducible first | exact HB.out | apply below_alloc | apply pw_below_drewN | apply below_drew1 | refine below_set ?_ GE167.out | refine below_set ?_ GE170.out) | exact HB.out)⟩⟩
                                      case round =>
                                        clear H'
                                        try clear c1
                                        try clear c2
                                        try clear p2
                                        try clear c3
                                        try clear c4
                                        try clear c5
                                        try clear c6
                                        try clear c6b0
                                        try clear p6
                                        try clear c7
                                        try clear c7b0
                                        try clear c8
                                        try clear p8
                                        try clear q8
                                        try clear hx8
                                        try clear c9
                                        try clear c9b0
                                        try clear c9b1
                                        try clear c10
                                        try clear c13
                                        try clear c13b0
                                        try clear c13b1
                                        try clear c14
                                        try clear c14b0
                                        try clear c14b1
                                        try clear c15
                                        try clear c15b0
                                        try clear c15b1
                                        try clear c19
                                        try clear c23
                                        try clear c24
                                        try clear c30
                                        try clear c30b0
                                        try clear c30b1
                                        try clear c31
                                        try clear c32
                                        try clear c35
                                        try clear c35b0
                                        try clear c35b1
                                        try clear c36
                                        try clear c36b0
                                        try clear c36b1
                                        try clear c37
                                        try clear c37b0
                                        try clear c37b1
                                        try clear c40
                                        try clear c42
                                        try clear hcz11_0
                                        try clear hcz11_1
                                        try clear hcz11_2
                                        try clear hcz11_3
                                        try clear hcz20_0
                                        try clear hcz20_1
                                        try clear hcz20_2
                                        try clear hcz20_3
                                        try clear hcz25_0
                                        try clear hcz25_1
                                        try clear hcz25_2
                                        try clear hcz25_3
                                        try clear hcz26_0
                                        try clear hcz26_1
                                        try clear hcz26_2
                                        try clear hcz26_3
                                        try clear hcz33_0
                                        try clear hcz33_1
                                        try clear hcz33_2
                                        try clear hcz33_3
                                        try clear hfz11_0
                                        try clear hfz11_1
                                        try clear hfz11_2
                                        try clear hfz11_3
                                        try clear hfz20_0
                                        try clear hfz20_1
                                        try clear hfz20_2
                                        try clear hfz20_3
                                        try clear hfz25_0
                                        try clear hfz25_1
                                        try clear hfz25_2
                                        try clear hfz25_3
                                        try clear hfz26_0
                                        try clear hfz26_1
                                        try clear hfz26_2
                                        try clear hfz26_3
                                        try clear hfz33_0
                                        try clear hfz33_1
                                        try clear hfz33_2
                                        try clear hfz33_3
                                        try clear p2
                                        try clear p6
                                        try clear p8
                                        try clear q8
                                        obtain ⟨x11_4, rfl, HA, HK4, HO_171003, BK167, BK170, HB⟩ := hrel
                                        cases gk with
                                        | zero => exact absurd HA.out (by simp [scrimref04_opening.l1])
                                        | succ k4 =>
                                          have H := HA.out
                                          clear HA
                                          simp only [scrimref04_opening.l1] at H
                                          by_cases c45 : x11_4 < (a0.size : Int)
                                          · rw [if_pos c45] at H
                                            have c45b0 : decide (x11_4 < (a0.size : Int)) = true := decide_eq_true c45
                                            clear c45
                                            (first | rw [c45b0] | (simp only [i64_w, i32_w]; rw [c45b0]) | skip)
                                            by_cases c46 : 0 ≤ x11_4
                                            · rw [if_pos c46] at H
                                              have c46b0 : decide (0 ≤ x11_4) = true := decide_eq_true c46
                                              clear c46
                                              by_cases c48 : (bt a0 x11_4) = 34
                                              · rw [if_pos c48] at H
                                                have c48b0 : ((bt a0 x11_4) == 34) = true := beq_iff_eq.mpr c48
                                                have c48b1 : ((bt a0 x11_4) != 34) = false := bne_eq_false_iff_eq.mpr c48
                                                clear c48
                                                have H' := Aside0.mk H
                                                clear H
                                                have p47 : 0 ≤ (x11_4 : Int) := of_decide_eq_true (by first | (with_reducible assumption) | assumption)
                                                have q47 : x11_4 < (a0.size : Int) := of_decide_eq_true (by first | (with_reducible assumption) | assumption)
                                                have hx47 := bt_at a0 x11_4
                                                replace p47 := eq_true p47
                                                replace q47 := eq_true q47
                                                go_wp2
                                                go_meet
                                                case rel => exact ⟨_, (x11_4), (by first | rfl | (simp; done) | (simp [*]; done)), H', ⟨by have := HJ3.out; have := HK2.out; have := HJ28.out; have := HK4.out; first | omega | exact Nat.le_refl _⟩, ⟨by (with_reducible repeat (first | apply Kd.R_alloc | apply Kd.R_drewN | apply Kd.R_drew)); exact HO_171003.out⟩, ⟨by (with_reducible repeat (first | refine blk_drewN ?_ _ | refine blk_drew ?_ | refine blk_alloc ?_ _)); exact BK167.out⟩, ⟨by (with_reducible repeat (first | refine blk_drewN ?_ _ | refine blk_drew ?_ | refine blk_alloc ?_ _)); exact BK170.out⟩, ⟨by repeat (first | (with_reducible first | exact HB.out | apply below_alloc | apply pw_below_drewN | apply below_drew1 | refine below_set ?_ GE167.out | refine below_set ?_ GE170.out) | exact HB.out)⟩⟩
                                              · rw [if_neg c48] at H
                                                have c48b0 : ((bt a0 x11_4) == 34) = false := beq_eq_false_iff_ne.mpr c48
                                                have c48b1 : ((bt a0 x11_4) != 34) = true := bne_iff_ne.mpr c48
                                                have H' := Aside0.mk H
                                                clear H
                                                have p47 : 0 ≤ (x11_4 : Int) := of_decide_eq_true (by first | (with_reducible assumption) | assumption)
                                                have q47 : x11_4 < (a0.size : Int) := of_decide_eq_true (by first | (with_reducible assumption) | assumption)
                                                have hx47 := bt_at a0 x11_4
                                                replace p47 := eq_true p47
                                                replace q47 := eq_true q47
                                                go_wp2
                                                go_roundg k4
                                                case measure => have := HJ3.out; have := HK2.out; have := HJ28.out; have := HK4.out; omega
                                                case rel => exact ⟨(wrap64 (x11_4 + 1)), (by first | rfl | (simp; done) | (simp [*]; done)), H', ⟨by have := HJ3.out; have := HK2.out; have := HJ28.out; have := HK4.out; omega⟩, ⟨by (with_reducible repeat (first | apply Kd.R_alloc | apply Kd.R_drewN | apply Kd.R_drew)); exact HO_171003.out⟩, ⟨by (with_reducible repeat (first | refine blk_drewN ?_ _ | refine blk_drew ?_ | refine blk_alloc ?_ _)); exact BK167.out⟩, ⟨by (with_reducible repeat (first | refine blk_drewN ?_ _ | refine blk_drew ?_ | refine blk_alloc ?_ _)); exact BK170.out⟩, ⟨by repeat (first | (with_reducible first | exact HB.out | apply below_alloc | apply pw_below_drewN | apply below_drew1 | refine below_set ?_ GE167.out | refine below_set ?_ GE170.out) | exact HB.out)⟩⟩
                                            · rw [if_neg c46] at H
                                              exact absurd H (by simp)
                                          · rw [if_neg c45] at H
                                            have c45b0 : decide (x11_4 < (a0.size : Int)) = false := decide_eq_false c45
                                            clear c45
                                            (first | rw [c45b0] | (simp only [i64_w, i32_w]; rw [c45b0]) | skip)
                                            have H' := Aside0.mk H
                                            clear H
                                            go_wp2
                                            go_meet
                                            case rel => exact ⟨_, (x11_4), (by first | rfl | (simp; done) | (simp [*]; done)), H', ⟨by have := HJ3.out; have := HK2.out; have := HJ28.out; have := HK4.out; first | omega | exact Nat.le_refl _⟩, ⟨by (with_reducible repeat (first | apply Kd.R_alloc | apply Kd.R_drewN | apply Kd.R_drew)); exact HO_171003.out⟩, ⟨by (with_reducible repeat (first | refine blk_drewN ?_ _ | refine blk_drew ?_ | refine blk_alloc ?_ _)); exact BK167.out⟩, ⟨by (with_reducible repeat (first | refine blk_drewN ?_ _ | refine blk_drew ?_ | refine blk_alloc ?_ _)); exact BK170.out⟩, ⟨by repeat (first | (with_reducible first | exact HB.out | apply below_alloc | apply pw_below_drewN | apply below_drew1 | refine below_set ?_ GE167.out | refine below_set ?_ GE170.out) | exact HB.out)⟩⟩
                                    case rest =>
                                      clear HC43
                                      try clear c1
                                      try clear c2
                                      try clear p2
                                      try clear c3
                                      try clear c4
                                      try clear p4
                                      try clear q4
                                      try clear hx4
                                      try clear c5
                                      try clear c6
                                      try clear c6b0
                                      try clear p6
                                      try clear c7
                                      try clear c7b0
                                      try clear c8
                                      try clear p8
                                      try clear q8
                                      try clear hx8
                                      try clear c9
                                      try clear c9b0
                                      try clear c9b1
                                      try clear c10
                                      try clear c13
                                      try clear c13b0
                                      try clear c13b1
                                      try clear c14
                                      try clear c14b0
                                      try clear c14b1
                                      try clear c15
                                      try clear c15b0
                                      try clear c15b1
                                      try clear c19
                                      try clear c23
                                      try clear c24
                                      try clear c30
                                      try clear c30b0
                                      try clear c30b1
                                      try clear c31
                                      try clear c32
                                      try clear c35
                                      try clear c35b0
                                      try clear c35b1
                                      try clear c36
                                      try clear c36b0
                                      try clear c36b1
                                      try clear c37
                                      try clear c37b0
                                      try clear c37b1
                                      try clear c40
                                      try clear c42
                                      try clear c45
                                      try clear c45b0
                                      try clear c46
                                      try clear c46b0
                                      try clear p47
                                      try clear q47
                                      try clear hx47
                                      try clear c48
                                      try clear c48b0
                                      try clear c48b1
                                      try clear hcz11_0
                                      try clear hcz11_1
                                      try clear hcz11_2
                                      try clear hcz11_3
                                      try clear hcz20_0
                                      try clear hcz20_1
                                      try clear hcz20_2
                                      try clear hcz20_3
                                      try clear hcz25_0
                                      try clear hcz25_1
                                      try clear hcz25_2
                                      try clear hcz25_3
                                      try clear hcz26_0
                                      try clear hcz26_1
                                      try clear hcz26_2
                                      try clear hcz26_3
                                      try clear hcz33_0
                                      try clear hcz33_1
                                      try clear hcz33_2
                                      try clear hcz33_3
                                      try clear hfz11_0
                                      try clear hfz11_1
                                      try clear hfz11_2
                                      try clear hfz11_3
                                      try clear hfz20_0
                                      try clear hfz20_1
                                      try clear hfz20_2
                                      try clear hfz20_3
                                      try clear hfz25_0
                                      try clear hfz25_1
                                      try clear hfz25_2
                                      try clear hfz25_3
                                      try clear hfz26_0
                                      try clear hfz26_1
                                      try clear hfz26_2
                                      try clear hfz26_3
                                      try clear hfz33_0
                                      try clear hfz33_1
                                      try clear hfz33_2
                                      try clear hfz33_3
                                      try clear p2
                                      try clear p47
                                      try clear p6
                                      try clear p8
                                      try clear q47
                                      try clear q8
                                      obtain ⟨kq, x11_42, rfl, HA, HJ42, HO_171003, BK167, BK170, HB⟩ := hcut
                                      cases kq with
                                      | zero => exact absurd HA.out (by simp [scrimref04_opening.j4])
                                      | succ kj42 =>
                                        have H := HA.out
                                        clear HA
                                        simp only [scrimref04_opening.j4] at H
                                        by_cases c49 : x11_42 = (a0.size : Int)
                                        · rw [if_pos c49] at H
                                          have c49b0 : (x11_42 == (a0.size : Int)) = true := beq_iff_eq.mpr c49
                                          have c49b1 : (x11_42 != (a0.size : Int)) = false := bne_eq_false_iff_eq.mpr c49
                                          clear c49
                                          simp only [Option.some.injEq, Prod.mk.injEq] at H
                                          obtain ⟨rfl, rfl, rfl, rfl, rfl⟩ := H
                                          have hnb50 := NB167_170.out
                                          have hnc50 := NB170_167.out
                                          have hcz51_0 : wc.cell? ⟨gb167, 0, none⟩ = some (.int .i64 x168000_2) := (blk_cell BK167.out 0).trans rfl
                                          have hcz51_1 : wc.cell? ⟨gb167, 1, none⟩ = some (.string x168001_2) := (blk_cell BK167.out 1).trans rfl
                                          have hcz51_2 : wc.cell? ⟨gb167, 2, none⟩ = some (.string x168002_2) := (blk_cell BK167.out 2).trans rfl
                                          have hcz51_3 : wc.cell? ⟨gb167, 3, none⟩ = some (.slice none 0 0) := (blk_cell BK167.out 3).trans rfl
                                          have hfz51_0 := blk_frozen BK167.out 0
                                          have hfz51_1 := blk_frozen BK167.out 1
                                          have hfz51_2 := blk_frozen BK167.out 2
                                          have hfz51_3 := blk_frozen BK167.out 3
                                          go_wp2
                                          refine bodyPost_ret (results_ct rfl _ _ gb167 71 #[.int .i64 0, .string (⟨#[]⟩ : ByteArray), .string (⟨#[]⟩ : ByteArray), .slice none 0 0] (0, 0) _ rfl (by (with_reducible repeat (first | refine blk_drewN ?_ _ | refine blk_drew ?_ | refine blk_alloc ?_ _)); refine blk_put (cs := #[.int .i64 0, .string (⟨#[]⟩ : ByteArray), .string (⟨#[]⟩ : ByteArray), .slice none 0 0]) ?_ 3 _ rfl; (with_reducible repeat (first | refine blk_drewN ?_ _ | refine blk_drew ?_ | refine blk_alloc ?_ _)); refine blk_put (cs := #[.int .i64 0, .string (⟨#[]⟩ : ByteArray), .string x168002_2, .slice none 0 0]) ?_ 2 _ rfl; (with_reducible repeat (first | refine blk_drewN ?_ _ | refine blk_drew ?_ | refine blk_alloc ?_ _)); refine blk_put (cs := #[.int .i64 0, .string x168001_2, .string x168002_2, .slice none 0 0]) ?_ 1 _ rfl; (with_reducible repeat (first | refine blk_drewN ?_ _ | refine blk_drew ?_ | refine blk_alloc ?_ _)); refine blk_put (cs := #[.int .i64 x168000_2, .string x168001_2, .string x168002_2, .slice none 0 0]) ?_ 0 _ rfl; (with_reducible repeat (first | refine blk_drewN ?_ _ | refine blk_drew ?_ | refine blk_alloc ?_ _)); exact BK167.out) Tryz.underlying71 rfl (by kernel_rfl)) rfl ?_
                                          exact ⟨_, by first | rfl | (simp [errW_none, errW_some] <;> rfl) | (simp only [← hji12, ← hji34]; first | rfl | (simp [errW_none, errW_some] <;> rfl)) | (simp [*, errW_none, errW_some] <;> rfl), by first | exact Kd.R_nil _ _ _ _ _ | exact Kd.N_nil _ _ _ _ _ | exact Kd.V_nil _ _ _ _ _ | exact Kd.Q_nil _ _ _ _ _ | exact Kd.S_nil _ _ _ _ _, by repeat (first | (with_reducible first | exact HB.out | apply below_alloc | apply pw_below_drewN | apply below_drew1 | refine below_set ?_ GE167.out | refine below_set ?_ GE170.out) | exact HB.out)⟩
                                        · rw [if_neg c49] at H
                                          have c49b0 : (x11_42 == (a0.size : Int)) = false := beq_eq_false_iff_ne.mpr c49
                                          have c49b1 : (x11_42 != (a0.size : Int)) = true := bne_iff_ne.mpr c49
                                          obtain ⟨ji52, hji52⟩ : ∃ j_ : Int, (wrap64 ((wrap64 ((ji34) + t173)) + 2)) = j_ := ⟨_, rfl⟩
                                          replace H : (if 0 ≤ (ji52) then (if (ji52) ≤ x11_42 then (if x11_42 ≤ (a0.size : Int) then ((scrimref04_Tell.f kj42 (a0.extract ((ji52) : Int).toNat (x11_42 : Int).toNat)).bind fun t177 => ((scrimref04_Attr.f kj42 x171003_2 t174).bind fun bt178 => (if bt178.2 = true then (scrimref04_opening.l0 kj42 a0 (wrap64 (x11_42 + 1)) 1 t169 (⟨#[]⟩ : ByteArray) x171003_2) else (if x171003_2.length < 4398046511104 then (scrimref04_opening.l0 kj42 a0 (wrap64 (x11_42 + 1)) 1 t169 (⟨#[]⟩ : ByteArray) (x171003_2 ++ [(⟨t174, t177⟩ : S70)])) else (none))))) else (none)) else (none)) else (none)) = some (r1, r2, r3, r4, r5) := by first | (rw [hji52] at H; exact H) | (simp only [hji52] at H ⊢; exact H)
                                          have hji52w : (IntKind.i64.wrap ((wrap64 ((ji34) + t173)) + 2)) = ji52 := (i64_w _).trans hji52
                                          by_cases c53 : 0 ≤ (ji52)
                                          · rw [if_pos c53] at H
                                            have c53b0 := eq_true c53
                                            have c53b1 : decide (0 ≤ (ji52)) = true := decide_eq_true c53
                                            clear c53
                                            by_cases c54 : (ji52) ≤ x11_42
                                            · rw [if_pos c54] at H
                                              have c54b0 := eq_true c54
                                              have c54b1 : decide ((ji52) ≤ x11_42) = true := decide_eq_true c54
                                              clear c54
                                              by_cases c55 : x11_42 ≤ (a0.size : Int)
                                              · rw [if_pos c55] at H
                                                have c55b0 := eq_true c55
                                                have c55b1 : decide (x11_42 ≤ (a0.size : Int)) = true := decide_eq_true c55
                                                clear c55
                                                replace H := Option.bind_eq_some_iff.mp H
                                                obtain ⟨t177, A560, H⟩ := H
                                                replace H : ((scrimref04_Attr.f kj42 x171003_2 t174).bind fun bt178 => (if bt178.2 = true then (scrimref04_opening.l0 kj42 a0 (wrap64 (x11_42 + 1)) 1 t169 (⟨#[]⟩ : ByteArray) x171003_2) else (if x171003_2.length < 4398046511104 then (scrimref04_opening.l0 kj42 a0 (wrap64 (x11_42 + 1)) 1 t169 (⟨#[]⟩ : ByteArray) (x171003_2 ++ [(⟨t174, t177⟩ : S70)])) else (none)))) = some (r1, r2, r3, r4, r5) := H
                                                have A56 := Aside0.mk A560
                                                clear A560
                                                replace H := Option.bind_eq_some_iff.mp H
                                                obtain ⟨⟨t178, t179⟩, A570, H⟩ := H
                                                replace H : (if t179 = true then (scrimref04_opening.l0 kj42 a0 (wrap64 (x11_42 + 1)) 1 t169 (⟨#[]⟩ : ByteArray) x171003_2) else (if x171003_2.length < 4398046511104 then (scrimref04_opening.l0 kj42 a0 (wrap64 (x11_42 + 1)) 1 t169 (⟨#[]⟩ : ByteArray) (x171003_2 ++ [(⟨t174, t177⟩ : S70)])) else (none))) = some (r1, r2, r3, r4, r5) := H
                                                have A57 := Aside0.mk A570
                                                clear A570
                                                by_cases c58 : t179 = true
                                                · subst c58
                                                  have H1 : (scrimref04_opening.l0 kj42 a0 (wrap64 (x11_42 + 1)) 1 t169 (⟨#[]⟩ : ByteArray) x171003_2) = some (r1, r2, r3, r4, r5) := by rw [if_pos rfl] at H; exact H
                                                  clear H
                                                  have H := H1
                                                  clear H1
                                                  have H' := Aside0.mk H
                                                  clear H
                                                  go_wp2_with (first | ((with_reducible refine gate_callee (f := 20) rfl ?_); refine goesL_ (some 114) rfl rfl Tryz.func20 (by kernel_rfl) rfl #[.string (a0.extract ((ji52) : Int).toNat (x11_42 : Int).toNat)] rfl (by (try simp only [List.map_toArray, List.map_cons, List.map_nil]); first | done | (simp only [hji52]; rfl) | rfl | (simp only [List.length_drop, List.length_take]; rfl)) ?_; (with_reducible refine (scrimref04_Tell.calls kj42 (a0.extract ((ji52) : Int).toNat (x11_42 : Int).toNat) t177 _ A56.out).mono ?_); rintro e w59 ⟨rfl, hb⟩; refine ⟨_, rfl, ?_⟩; have n0_ := Aside0.mk (Kd.R_below (by (with_reducible repeat (first | apply Kd.R_alloc | apply Kd.R_drewN | apply Kd.R_drew)); exact HO_171003.out) hb); have n1_ := Aside0.mk (blk_below (g := gb167) (o := .cells #[.int .i64 x168000_2, .string x168001_2, .string x168002_2, .slice none 0 0] 71 (0, 0)) (by (with_reducible repeat (first | refine blk_drewN ?_ _ | refine blk_drew ?_ | refine blk_alloc ?_ _)); exact BK167.out) hb); have n2_ := Aside0.mk (blk_below (g := gb170) (o := .cells #[.int .i64 1, .string t169, .string (⟨#[]⟩ : ByteArray), u171003] 71 (0, 0)) (by (with_reducible repeat (first | refine blk_drewN ?_ _ | refine blk_drew ?_ | refine blk_alloc ?_ _)); exact BK170.out) hb); have n3_ := Aside0.mk (below_step (by repeat (first | (with_reducible first | exact HB.out | apply below_alloc | apply pw_below_drewN | apply below_drew1 | refine below_set ?_ GE167.out | refine below_set ?_ GE170.out) | exact HB.out)) hb); clear HO_171003; clear BK167; clear BK170; clear HB; have HO_171003 := n0_; have BK167 := n1_; have BK170 := n2_; have HB := n3_; clear n0_ n1_ n2_ n3_; (try clear hb); (try clear hb2); (try clear hk); (try clear hi); have hnb60 := NB170_167.out; have hnc60 := NB167_170.out; have hcz61_0 : w59.cell? ⟨gb170, 0, none⟩ = some (.int .i64 1) := (blk_cell BK170.out 0).trans rfl; have hcz61_1 : w59.cell? ⟨gb170, 1, none⟩ = some (.string t169) := (blk_cell BK170.out 1).trans rfl; have hcz61_2 : w59.cell? ⟨gb170, 2, none⟩ = some (.string (⟨#[]⟩ : ByteArray)) := (blk_cell BK170.out 2).trans rfl; have hcz61_3 : w59.cell? ⟨gb170, 3, none⟩ = some (u171003) := (blk_cell BK170.out 3).trans rfl; have hfz61_0 := blk_frozen BK170.out 0; have hfz61_1 := blk_frozen BK170.out 1; have hfz61_2 := blk_frozen BK170.out 2; have hfz61_3 := blk_frozen BK170.out 3; obtain ⟨Ao62, co62, eo62⟩ := Kd.R_slice HO_171003.out; subst eo62) | ((with_reducible refine gate_callee (f := 71) rfl ?_); refine goesL_ (some 121) rfl rfl Tryz.func71 (by kernel_rfl) rfl #[.slice Ao62 x171003_2.length co62, .string t174] rfl (by (try simp only [List.map_toArray, List.map_cons, List.map_nil]); first | done | rfl | (simp only [List.length_drop, List.length_take]; rfl)) ?_; (with_reducible refine (scrimref04_Attr.calls kj42 _ _ x171003_2 t174 t178 true _ ?side1 ?side2 A57.out).mono ?_); (case side1 => repeat (first | exact (Kd.R_reads' HO_171003.out).2.2 | (with_reducible refine Kd.C_alloc ?_ _) | (with_reducible refine Kd.C_drewN ?_ _) | (with_reducible refine Kd.C_drew ?_))); (case side2 => exact (Kd.R_reads' HO_171003.out).2.1); rintro e w' ⟨rfl, ⟨nd, rfl⟩⟩; refine ⟨_, rfl, ?_⟩))
                                                  go_roundg kj42
                                                  case measure => have := HJ3.out; have := HK2.out; have := HJ28.out; have := HJ42.out; omega
                                                  case rel => exact ⟨(wrap64 (x11_42 + 1)), (x168000_2), (x168001_2), (x168002_2), (x171003_2), (.slice Ao62 x171003_2.length co62), (by first | rfl | (simp; done) | (simp [*]; done)), H', ⟨by have := HJ3.out; have := HK2.out; have := HJ28.out; have := HJ42.out; omega⟩, ⟨by (with_reducible repeat (first | apply Kd.R_alloc | apply Kd.R_drewN | apply Kd.R_drew)); exact HO_171003.out⟩, ⟨by (with_reducible repeat (first | refine blk_drewN ?_ _ | refine blk_drew ?_ | refine blk_alloc ?_ _)); exact BK167.out⟩, ⟨by (with_reducible repeat (first | refine blk_drewN ?_ _ | refine blk_drew ?_ | refine blk_alloc ?_ _)); exact BK170.out⟩, ⟨by repeat (first | (with_reducible first | exact HB.out | apply below_alloc | apply pw_below_drewN | apply below_drew1 | refine below_set ?_ GE167.out | refine below_set ?_ GE170.out) | exact HB.out)⟩⟩
                                                · replace c58 := Bool.eq_false_iff.mpr c58
                                                  subst c58
                                                  have H1 : (if x171003_2.length < 4398046511104 then (scrimref04_opening.l0 kj42 a0 (wrap64 (x11_42 + 1)) 1 t169 (⟨#[]⟩ : ByteArray) (x171003_2 ++ [(⟨t174, t177⟩ : S70)])) else (none)) = some (r1, r2, r3, r4, r5) := by rw [if_neg (show ¬ (false = true) by decide)] at H; exact H
                                                  clear H
                                                  have H := H1
                                                  clear H1
                                                  by_cases c63 : x171003_2.length < 4398046511104
                                                  · rw [if_pos c63] at H
                                                    have LMc63 := Aside0.mk c63
                                                    clear c63
                                                    obtain ⟨y180, hy180⟩ : ∃ y_ : List (S70), y_ = (x171003_2 ++ [(⟨t174, t177⟩ : S70)]) := ⟨_, rfl⟩
                                                    replace H : (scrimref04_opening.l0 kj42 a0 (wrap64 (x11_42 + 1)) 1 t169 (⟨#[]⟩ : ByteArray) y180) = some (r1, r2, r3, r4, r5) := by first | (rw [hy180]; with_reducible exact H) | (have H2_ := (Option.bind_some _ _).symm.trans H; rw [hy180]; with_reducible exact H2_) | (have H2_ := (Option.bind_some _ _).symm.trans H; with_reducible exact H2_) | with_reducible exact H | (rw [hy180]; exact H) | exact H
                                                    have Ny180 := Aside0.mk hy180
                                                    clear hy180
                                                    have H' := Aside0.mk H
                                                    clear H
                                                    go_wp2_with (first | ((with_reducible refine gate_callee (f := 20) rfl ?_); refine goesL_ (some 114) rfl rfl Tryz.func20 (by kernel_rfl) rfl #[.string (a0.extract ((ji52) : Int).toNat (x11_42 : Int).toNat)] rfl (by (try simp only [List.map_toArray, List.map_cons, List.map_nil]); first | done | (simp only [hji52]; rfl) | rfl | (simp only [List.length_drop, List.length_take]; rfl)) ?_; (with_reducible refine (scrimref04_Tell.calls kj42 (a0.extract ((ji52) : Int).toNat (x11_42 : Int).toNat) t177 _ A56.out).mono ?_); rintro e w64 ⟨rfl, hb⟩; refine ⟨_, rfl, ?_⟩; have n0_ := Aside0.mk (Kd.R_below (by (with_reducible repeat (first | apply Kd.R_alloc | apply Kd.R_drewN | apply Kd.R_drew)); exact HO_171003.out) hb); have n1_ := Aside0.mk (blk_below (g := gb167) (o := .cells #[.int .i64 x168000_2, .string x168001_2, .string x168002_2, .slice none 0 0] 71 (0, 0)) (by (with_reducible repeat (first | refine blk_drewN ?_ _ | refine blk_drew ?_ | refine blk_alloc ?_ _)); exact BK167.out) hb); have n2_ := Aside0.mk (blk_below (g := gb170) (o := .cells #[.int .i64 1, .string t169, .string (⟨#[]⟩ : ByteArray), u171003] 71 (0, 0)) (by (with_reducible repeat (first | refine blk_drewN ?_ _ | refine blk_drew ?_ | refine blk_alloc ?_ _)); exact BK170.out) hb); have n3_ := Aside0.mk (below_step (by repeat (first | (with_reducible first | exact HB.out | apply below_alloc | apply pw_below_drewN | apply below_drew1 | refine below_set ?_ GE167.out | refine below_set ?_ GE170.out) | exact HB.out)) hb); clear HO_171003; clear BK167; clear BK170; clear HB; have HO_171003 := n0_; have BK167 := n1_; have BK170 := n2_; have HB := n3_; clear n0_ n1_ n2_ n3_; (try clear hb); (try clear hb2); (try clear hk); (try clear hi); have hnb65 := NB170_167.out; have hnc65 := NB167_170.out; have hcz66_0 : w64.cell? ⟨gb170, 0, none⟩ = some (.int .i64 1) := (blk_cell BK170.out 0).trans rfl; have hcz66_1 : w64.cell? ⟨gb170, 1, none⟩ = some (.string t169) := (blk_cell BK170.out 1).trans rfl; have hcz66_2 : w64.cell? ⟨gb170, 2, none⟩ = some (.string (⟨#[]⟩ : ByteArray)) := (blk_cell BK170.out 2).trans rfl; have hcz66_3 : w64.cell? ⟨gb170, 3, none⟩ = some (u171003) := (blk_cell BK170.out 3).trans rfl; have hfz66_0 := blk_frozen BK170.out 0; have hfz66_1 := blk_frozen BK170.out 1; have hfz66_2 := blk_frozen BK170.out 2; have hfz66_3 := blk_frozen BK170.out 3; obtain ⟨Ao67, co67, eo67⟩ := Kd.R_slice HO_171003.out; subst eo67) | ((with_reducible refine gate_callee (f := 71) rfl ?_); refine goesL_ (some 121) rfl rfl Tryz.func71 (by kernel_rfl) rfl #[.slice Ao67 x171003_2.length co67, .string t174] rfl (by (try simp only [List.map_toArray, List.map_cons, List.map_nil]); first | done | rfl | (simp only [List.length_drop, List.length_take]; rfl)) ?_; (with_reducible refine (scrimref04_Attr.calls kj42 _ _ x171003_2 t174 t178 false _ ?side1 ?side2 A57.out).mono ?_); (case side1 => repeat (first | exact (Kd.R_reads' HO_171003.out).2.2 | (with_reducible refine Kd.C_alloc ?_ _) | (with_reducible refine Kd.C_drewN ?_ _) | (with_reducible refine Kd.C_drew ?_))); (case side2 => exact (Kd.R_reads' HO_171003.out).2.1); rintro e w' ⟨rfl, ⟨nd, rfl⟩⟩; refine ⟨_, rfl, ?_⟩; (try (rw [drewN_self w64]; generalize hq_ : World.drewN w64 _ = w64; have n0_ : Aside0 (Kd.R k70 70 w64 w.heap.size (fun _ => True) (.slice Ao67 x171003_2.length co67) x171003_2) := ⟨by rw [← hq_]; exact (by (with_reducible repeat (first | apply Kd.R_alloc | apply Kd.R_drewN | apply Kd.R_drew)); exact HO_171003.out)⟩; have n1_ : Aside0 (w64.heap[gb167]? = some (.cells #[.int .i64 x168000_2, .string x168001_2, .string x168002_2, .slice none 0 0] 71 (0, 0))) := ⟨by rw [← hq_]; exact (by (with_reducible repeat (first | refine blk_drewN ?_ _ | refine blk_drew ?_ | refine blk_alloc ?_ _)); exact BK167.out)⟩; have n2_ : Aside0 (w64.heap[gb170]? = some (.cells #[.int .i64 1, .string t169, .string (⟨#[]⟩ : ByteArray), .slice Ao67 x171003_2.length co67] 71 (0, 0))) := ⟨by rw [← hq_]; exact (by (with_reducible repeat (first | refine blk_drewN ?_ _ | refine blk_drew ?_ | refine blk_alloc ?_ _)); exact BK170.out)⟩; have n3_ : Aside0 (Below w.heap.size w w64) := ⟨by rw [← hq_]; exact (by repeat (first | (with_reducible first | exact HB.out | apply below_alloc | apply pw_below_drewN | apply below_drew1 | refine below_set ?_ GE167.out | refine below_set ?_ GE170.out) | exact HB.out))⟩; clear HO_171003 BK167 BK170 HB hq_; have HO_171003 := n0_; have BK167 := n1_; have BK170 := n2_; have HB := n3_; clear n0_ n1_ n2_ n3_)); have hcy_0 : w64.cell? ⟨gb170, 0, none⟩ = some (.int .i64 1) := (blk_cell BK170.out 0).trans rfl; have hcf_0 := blk_frozen BK170.out 0; have hcy_1 : w64.cell? ⟨gb170, 1, none⟩ = some (.string t169) := (blk_cell BK170.out 1).trans rfl; have hcf_1 := blk_frozen BK170.out 1; have hcy_2 : w64.cell? ⟨gb170, 2, none⟩ = some (.string (⟨#[]⟩ : ByteArray)) := (blk_cell BK170.out 2).trans rfl; have hcf_2 := blk_frozen BK170.out 2; have hcy_3 : w64.cell? ⟨gb170, 3, none⟩ = some (.slice Ao67 x171003_2.length co67) := (blk_cell BK170.out 3).trans rfl; have hcf_3 := blk_frozen BK170.out 3) | ((with_reducible refine gate_builtin (b := .append) (xs := #[.tmp 127, .tmp 131]) rfl ?_); at_builtin; refine Kd.R_append k70 (w0 := w) w.heap.size rfl (.tmp 127) (.tmp 131) 44 70 (.agg #[(.string ⟨#[]⟩), (.string ⟨#[]⟩)]) 32 rfl Tryz.underlying44 info70 rfl (by decide) (by omega) (.slice Ao67 x171003_2.length co67) x171003_2 (⟨t174, t177⟩ : S70) [.string t174, .string t177] (fun _ => True) (fun _ => False) rfl rfl ?aP (fun _ hk => hk.elim) ?aF ?aO ?aB ?aS ?aL ?_; (case aP => exact k70_mkM _ _ _ (⟨t174, t177⟩ : S70)); (case aB => exact (by repeat (first | (with_reducible first | exact HB.out | apply below_alloc | apply pw_below_drewN | apply below_drew1 | refine below_set ?_ GE167.out | refine below_set ?_ GE170.out) | exact HB.out))); (case aF => exact (fun _ _ => trivial)); (case aO => exact (by (with_reducible repeat (first | apply Kd.R_alloc | apply Kd.R_drewN | apply Kd.R_drew)); exact HO_171003.out)); (case aS => exact (below_size (by repeat (first | (with_reducible first | exact HB.out | apply below_alloc | apply pw_below_drewN | apply below_drew1 | refine below_set ?_ GE167.out | refine below_set ?_ GE170.out) | exact HB.out)))); (case aL => have := LMc63.out; omega); intro v181 w68 ho hb hg hat; rw [← Ny180.out] at ho; have n0_ := Aside0.mk (blk_grown (g := gb167) (o := .cells #[.int .i64 x168000_2, .string x168001_2, .string x168002_2, .slice none 0 0] 71 (0, 0)) (by (with_reducible repeat (first | refine blk_drewN ?_ _ | refine blk_drew ?_ | refine blk_alloc ?_ _)); exact BK167.out) hg (Kd.R_ne HO_171003.out BK167.out (by decide))); have n1_ := Aside0.mk (blk_grown (g := gb170) (o := .cells #[.int .i64 1, .string t169, .string (⟨#[]⟩ : ByteArray), .slice Ao67 x171003_2.length co67] 71 (0, 0)) (by (with_reducible repeat (first | refine blk_drewN ?_ _ | refine blk_drew ?_ | refine blk_alloc ?_ _)); exact BK170.out) hg (Kd.R_ne HO_171003.out BK170.out (by decide))); have n2_ := Aside0.mk (hb); have n3_ := Aside0.mk (ho); clear BK167; clear BK170; clear HB; clear HO_171003; have BK167 := n0_; have BK170 := n1_; have HB := n2_; have HO182 := n3_; clear n0_ n1_ n2_ n3_; clear ho hb hg hat; obtain ⟨Ao69, co69, eo69⟩ := Kd.R_slice HO182.out; subst eo69; have hcz70_0 : w68.cell? ⟨gb170, 0, none⟩ = some (.int .i64 1) := (blk_cell BK170.out 0).trans rfl; have hcz70_1 : w68.cell? ⟨gb170, 1, none⟩ = some (.string t169) := (blk_cell BK170.out 1).trans rfl; have hcz70_2 : w68.cell? ⟨gb170, 2, none⟩ = some (.string (⟨#[]⟩ : ByteArray)) := (blk_cell BK170.out 2).trans rfl; have hcz70_3 : w68.cell? ⟨gb170, 3, none⟩ = some (.slice Ao67 x171003_2.length co67) := (blk_cell BK170.out 3).trans rfl; have hfz70_0 := blk_frozen BK170.out 0; have hfz70_1 := blk_frozen BK170.out 1; have hfz70_2 := blk_frozen BK170.out 2; have hfz70_3 := blk_frozen BK170.out 3))
                                                    go_roundg kj42
                                                    case measure => have := HJ3.out; have := HK2.out; have := HJ28.out; have := HJ42.out; omega
                                                    case rel => exact ⟨(wrap64 (x11_42 + 1)), (x168000_2), (x168001_2), (x168002_2), (y180), (.slice Ao69 y180.length co69), (by first | rfl | (simp; done) | (simp [*]; done)), H', ⟨by have := HJ3.out; have := HK2.out; have := HJ28.out; have := HJ42.out; omega⟩, ⟨by (with_reducible repeat (first | apply Kd.R_alloc | apply Kd.R_drewN | apply Kd.R_drew)); exact Kd.R_mono (Kd.R_far (p := ⟨gb170, 3, none⟩) (Kd.R_types HO182.out BK170.out (by decide)) (fun _ hk => hk.2) (.slice Ao69 y180.length co69)) (fun _ hk => trivial)⟩, ⟨by (with_reducible repeat (first | refine blk_drewN ?_ _ | refine blk_drew ?_ | refine blk_alloc ?_ _)); refine blk_far ?_ NB167_170.out _; (with_reducible repeat (first | refine blk_drewN ?_ _ | refine blk_drew ?_ | refine blk_alloc ?_ _)); exact BK167.out⟩, ⟨by (with_reducible repeat (first | refine blk_drewN ?_ _ | refine blk_drew ?_ | refine blk_alloc ?_ _)); refine blk_put (cs := #[.int .i64 1, .string t169, .string (⟨#[]⟩ : ByteArray), .slice Ao67 x171003_2.length co67]) ?_ 3 _ rfl; (with_reducible repeat (first | refine blk_drewN ?_ _ | refine blk_drew ?_ | refine blk_alloc ?_ _)); exact BK170.out⟩, ⟨by repeat (first | (with_reducible first | exact HB.out | apply below_alloc | apply pw_below_drewN | apply below_drew1 | refine below_set ?_ GE167.out | refine below_set ?_ GE170.out) | exact HB.out)⟩⟩
                                                  · rw [if_neg c63] at H
                                                    exact absurd H (by simp)
                                              · rw [if_neg c55] at H
                                                exact absurd H (by simp)
                                            · rw [if_neg c54] at H
                                              exact absurd H (by simp)
                                          · rw [if_neg c53] at H
                                            exact absurd H (by simp)
                                  · replace c42 := Bool.eq_false_iff.mpr c42
                                    subst c42
                                    have H1 : (some (0, (⟨#[]⟩ : ByteArray), (⟨#[]⟩ : ByteArray), ([] : List (S70)), 0)) = some (r1, r2, r3, r4, r5) := by rw [if_neg (show ¬ (false = true) by decide)] at H; exact H
                                    clear H
                                    have H := H1
                                    clear H1
                                    simp only [Option.some.injEq, Prod.mk.injEq] at H
                                    obtain ⟨rfl, rfl, rfl, rfl, rfl⟩ := H
                                    go_wp2_with (first | ((with_reducible refine gate_callee (f := 55) rfl ?_); refine goesL_ (some 76) rfl rfl Tryz.func55 (by kernel_rfl) rfl #[.string (a0.extract ((ji34) : Int).toNat ((wrap64 ((ji34) + t173)) : Int).toNat)] rfl (by (try simp only [List.map_toArray, List.map_cons, List.map_nil]); first | done | (simp only [hji34]; rfl) | rfl | (simp only [List.length_drop, List.length_take]; rfl)) ?_; (with_reducible refine (scrimref04_Lower.calls kj28 (a0.extract ((ji34) : Int).toNat ((wrap64 ((ji34) + t173)) : Int).toNat) t174 _ A38.out).mono ?_); rintro e w71 ⟨rfl, hb⟩; refine ⟨_, rfl, ?_⟩; have n0_ := Aside0.mk (Kd.R_below (by (with_reducible repeat (first | apply Kd.R_alloc | apply Kd.R_drewN | apply Kd.R_drew)); exact HO_171003.out) hb); have n1_ := Aside0.mk (blk_below (g := gb167) (o := .cells #[.int .i64 x168000_2, .string x168001_2, .string x168002_2, .slice none 0 0] 71 (0, 0)) (by (with_reducible repeat (first | refine blk_drewN ?_ _ | refine blk_drew ?_ | refine blk_alloc ?_ _)); exact BK167.out) hb); have n2_ := Aside0.mk (blk_below (g := gb170) (o := .cells #[.int .i64 1, .string t169, .string (⟨#[]⟩ : ByteArray), u171003] 71 (0, 0)) (by (with_reducible repeat (first | refine blk_drewN ?_ _ | refine blk_drew ?_ | refine blk_alloc ?_ _)); exact BK170.out) hb); have n3_ := Aside0.mk (below_step (by repeat (first | (with_reducible first | exact HB.out | apply below_alloc | apply pw_below_drewN | apply below_drew1 | refine below_set ?_ GE167.out | refine below_set ?_ GE170.out) | exact HB.out)) hb); clear HO_171003; clear BK167; clear BK170; clear HB; have HO_171003 := n0_; have BK167 := n1_; have BK170 := n2_; have HB := n3_; clear n0_ n1_ n2_ n3_; (try clear hb); (try clear hb2); (try clear hk); (try clear hi)) | ((with_reducible refine gate_callee (f := 58) rfl ?_); refine goesL_ (some 84) rfl rfl Tryz.func58 (by kernel_rfl) rfl #[.string a0, .int .i64 (wrap64 ((ji34) + t173)), .string (⟨#[61]⟩ : ByteArray)] rfl (by (try simp only [List.map_toArray, List.map_cons, List.map_nil]); first | done | (simp only [hji34]; rfl) | rfl | (simp only [List.length_drop, List.length_take]; rfl)) ?_; (with_reducible refine (scrimref04_has.calls a0 (wrap64 ((ji34) + t173)) (⟨#[61]⟩ : ByteArray) true _ A39.out).mono ?_); rintro e w' ⟨rfl, ⟨nd, rfl⟩⟩; refine ⟨_, rfl, ?_⟩; (try (rw [drewN_self w71]; generalize hq_ : World.drewN w71 _ = w71; have n0_ : Aside0 (Kd.R k70 70 w71 w.heap.size (fun _ => True) u171003 x171003_2) := ⟨by rw [← hq_]; exact (by (with_reducible repeat (first | apply Kd.R_alloc | apply Kd.R_drewN | apply Kd.R_drew)); exact HO_171003.out)⟩; have n1_ : Aside0 (w71.heap[gb167]? = some (.cells #[.int .i64 x168000_2, .string x168001_2, .string x168002_2, .slice none 0 0] 71 (0, 0))) := ⟨by rw [← hq_]; exact (by (with_reducible repeat (first | refine blk_drewN ?_ _ | refine blk_drew ?_ | refine blk_alloc ?_ _)); exact BK167.out)⟩; have n2_ : Aside0 (w71.heap[gb170]? = some (.cells #[.int .i64 1, .string t169, .string (⟨#[]⟩ : ByteArray), u171003] 71 (0, 0))) := ⟨by rw [← hq_]; exact (by (with_reducible repeat (first | refine blk_drewN ?_ _ | refine blk_drew ?_ | refine blk_alloc ?_ _)); exact BK170.out)⟩; have n3_ : Aside0 (Below w.heap.size w w71) := ⟨by rw [← hq_]; exact (by repeat (first | (with_reducible first | exact HB.out | apply below_alloc | apply pw_below_drewN | apply below_drew1 | refine below_set ?_ GE167.out | refine below_set ?_ GE170.out) | exact HB.out))⟩; clear HO_171003 BK167 BK170 HB hq_; have HO_171003 := n0_; have BK167 := n1_; have BK170 := n2_; have HB := n3_; clear n0_ n1_ n2_ n3_))) | ((with_reducible refine gate_callee (f := 58) rfl ?_); refine goesL_ (some 87) rfl rfl Tryz.func58 (by kernel_rfl) rfl #[.string a0, .int .i64 (wrap64 ((ji34) + t173)), .string (⟨#[61, 34]⟩ : ByteArray)] rfl (by (try simp only [List.map_toArray, List.map_cons, List.map_nil]); first | done | (simp only [hji34]; rfl) | rfl | (simp only [List.length_drop, List.length_take]; rfl)) ?_; (with_reducible refine (scrimref04_has.calls a0 (wrap64 ((ji34) + t173)) (⟨#[61, 34]⟩ : ByteArray) false _ A41.out).mono ?_); rintro e w' ⟨rfl, ⟨nd, rfl⟩⟩; refine ⟨_, rfl, ?_⟩; (try (rw [drewN_self w71]; generalize hq_ : World.drewN w71 _ = w71; have n0_ : Aside0 (Kd.R k70 70 w71 w.heap.size (fun _ => True) u171003 x171003_2) := ⟨by rw [← hq_]; exact (by (with_reducible repeat (first | apply Kd.R_alloc | apply Kd.R_drewN | apply Kd.R_drew)); exact HO_171003.out)⟩; have n1_ : Aside0 (w71.heap[gb167]? = some (.cells #[.int .i64 x168000_2, .string x168001_2, .string x168002_2, .slice none 0 0] 71 (0, 0))) := ⟨by rw [← hq_]; exact (by (with_reducible repeat (first | refine blk_drewN ?_ _ | refine blk_drew ?_ | refine blk_alloc ?_ _)); exact BK167.out)⟩; have n2_ : Aside0 (w71.heap[gb170]? = some (.cells #[.int .i64 1, .string t169, .string (⟨#[]⟩ : ByteArray), u171003] 71 (0, 0))) := ⟨by rw [← hq_]; exact (by (with_reducible repeat (first | refine blk_drewN ?_ _ | refine blk_drew ?_ | refine blk_alloc ?_ _)); exact BK170.out)⟩; have n3_ : Aside0 (Below w.heap.size w w71) := ⟨by rw [← hq_]; exact (by repeat (first | (with_reducible first | exact HB.out | apply below_alloc | apply pw_below_drewN | apply below_drew1 | refine below_set ?_ GE167.out | refine below_set ?_ GE170.out) | exact HB.out))⟩; clear HO_171003 BK167 BK170 HB hq_; have HO_171003 := n0_; have BK167 := n1_; have BK170 := n2_; have HB := n3_; clear n0_ n1_ n2_ n3_)); have hnb72 := NB167_170.out; have hnc72 := NB170_167.out; have hcz73_0 : w71.cell? ⟨gb167, 0, none⟩ = some (.int .i64 x168000_2) := (blk_cell BK167.out 0).trans rfl; have hcz73_1 : w71.cell? ⟨gb167, 1, none⟩ = some (.string x168001_2) := (blk_cell BK167.out 1).trans rfl; have hcz73_2 : w71.cell? ⟨gb167, 2, none⟩ = some (.string x168002_2) := (blk_cell BK167.out 2).trans rfl; have hcz73_3 : w71.cell? ⟨gb167, 3, none⟩ = some (.slice none 0 0) := (blk_cell BK167.out 3).trans rfl; have hfz73_0 := blk_frozen BK167.out 0; have hfz73_1 := blk_frozen BK167.out 1; have hfz73_2 := blk_frozen BK167.out 2; have hfz73_3 := blk_frozen BK167.out 3))
                                    refine bodyPost_ret (results_ct rfl _ _ gb167 71 #[.int .i64 0, .string (⟨#[]⟩ : ByteArray), .string (⟨#[]⟩ : ByteArray), .slice none 0 0] (0, 0) _ rfl (by (with_reducible repeat (first | refine blk_drewN ?_ _ | refine blk_drew ?_ | refine blk_alloc ?_ _)); refine blk_put (cs := #[.int .i64 0, .string (⟨#[]⟩ : ByteArray), .string (⟨#[]⟩ : ByteArray), .slice none 0 0]) ?_ 3 _ rfl; (with_reducible repeat (first | refine blk_drewN ?_ _ | refine blk_drew ?_ | refine blk_alloc ?_ _)); refine blk_put (cs := #[.int .i64 0, .string (⟨#[]⟩ : ByteArray), .string x168002_2, .slice none 0 0]) ?_ 2 _ rfl; (with_reducible repeat (first | refine blk_drewN ?_ _ | refine blk_drew ?_ | refine blk_alloc ?_ _)); refine blk_put (cs := #[.int .i64 0, .string x168001_2, .string x168002_2, .slice none 0 0]) ?_ 1 _ rfl; (with_reducible repeat (first | refine blk_drewN ?_ _ | refine blk_drew ?_ | refine blk_alloc ?_ _)); refine blk_put (cs := #[.int .i64 x168000_2, .string x168001_2, .string x168002_2, .slice none 0 0]) ?_ 0 _ rfl; (with_reducible repeat (first | refine blk_drewN ?_ _ | refine blk_drew ?_ | refine blk_alloc ?_ _)); exact BK167.out) Tryz.underlying71 rfl (by kernel_rfl)) rfl ?_
                                    exact ⟨_, by first | rfl | (simp [errW_none, errW_some] <;> rfl) | (simp only [← hji12, ← hji34]; first | rfl | (simp [errW_none, errW_some] <;> rfl)) | (simp [*, errW_none, errW_some] <;> rfl), by first | exact Kd.R_nil _ _ _ _ _ | exact Kd.N_nil _ _ _ _ _ | exact Kd.V_nil _ _ _ _ _ | exact Kd.Q_nil _ _ _ _ _ | exact Kd.S_nil _ _ _ _ _, by repeat (first | (with_reducible first | exact HB.out | apply below_alloc | apply pw_below_drewN | apply below_drew1 | refine below_set ?_ GE167.out | refine below_set ?_ GE170.out) | exact HB.out)⟩
                                · replace c40 := Bool.eq_false_iff.mpr c40
                                  subst c40
                                  have H1 : ((scrimref04_Attr.f kj28 x171003_2 t174).bind fun bt183 => (if bt183.2 = true then (scrimref04_opening.l0 kj28 a0 (wrap64 ((ji34) + t173)) 1 t169 (⟨#[]⟩ : ByteArray) x171003_2) else (if x171003_2.length < 4398046511104 then (scrimref04_opening.l0 kj28 a0 (wrap64 ((ji34) + t173)) 1 t169 (⟨#[]⟩ : ByteArray) (x171003_2 ++ [(⟨t174, (⟨#[]⟩ : ByteArray)⟩ : S70)])) else (none)))) = some (r1, r2, r3, r4, r5) := by rw [if_neg (show ¬ (false = true) by decide)] at H; exact H
                                  clear H
                                  have H := H1
                                  clear H1
                                  replace H := Option.bind_eq_some_iff.mp H
                                  obtain ⟨⟨t183, t184⟩, A740, H⟩ := H
                                  replace H : (if t184 = true then (scrimref04_opening.l0 kj28 a0 (wrap64 ((ji34) + t173)) 1 t169 (⟨#[]⟩ : ByteArray) x171003_2) else (if x171003_2.length < 4398046511104 then (scrimref04_opening.l0 kj28 a0 (wrap64 ((ji34) + t173)) 1 t169 (⟨#[]⟩ : ByteArray) (x171003_2 ++ [(⟨t174, (⟨#[]⟩ : ByteArray)⟩ : S70)])) else (none))) = some (r1, r2, r3, r4, r5) := H
                                  have A74 := Aside0.mk A740
                                  clear A740
                                  by_cases c75 : t184 = true
                                  · subst c75
                                    have H1 : (scrimref04_opening.l0 kj28 a0 (wrap64 ((ji34) + t173)) 1 t169 (⟨#[]⟩ : ByteArray) x171003_2) = some (r1, r2, r3, r4, r5) := by rw [if_pos rfl] at H; exact H
                                    clear H
                                    have H := H1
                                    clear H1
                                    have H' := Aside0.mk H
                                    clear H
                                    go_wp2_with (first | ((with_reducible refine gate_callee (f := 55) rfl ?_); refine goesL_ (some 76) rfl rfl Tryz.func55 (by kernel_rfl) rfl #[.string (a0.extract ((ji34) : Int).toNat ((wrap64 ((ji34) + t173)) : Int).toNat)] rfl (by (try simp only [List.map_toArray, List.map_cons, List.map_nil]); first | done | (simp only [hji34]; rfl) | rfl | (simp only [List.length_drop, List.length_take]; rfl)) ?_; (with_reducible refine (scrimref04_Lower.calls kj28 (a0.extract ((ji34) : Int).toNat ((wrap64 ((ji34) + t173)) : Int).toNat) t174 _ A38.out).mono ?_); rintro e w76 ⟨rfl, hb⟩; refine ⟨_, rfl, ?_⟩; have n0_ := Aside0.mk (Kd.R_below (by (with_reducible repeat (first | apply Kd.R_alloc | apply Kd.R_drewN | apply Kd.R_drew)); exact HO_171003.out) hb); have n1_ := Aside0.mk (blk_below (g := gb167) (o := .cells #[.int .i64 x168000_2, .string x168001_2, .string x168002_2, .slice none 0 0] 71 (0, 0)) (by (with_reducible repeat (first | refine blk_drewN ?_ _ | refine blk_drew ?_ | refine blk_alloc ?_ _)); exact BK167.out) hb); have n2_ := Aside0.mk (blk_below (g := gb170) (o := .cells #[.int .i64 1, .string t169, .string (⟨#[]⟩ : ByteArray), u171003] 71 (0, 0)) (by (with_reducible repeat (first | refine blk_drewN ?_ _ | refine blk_drew ?_ | refine blk_alloc ?_ _)); exact BK170.out) hb); have n3_ := Aside0.mk (below_step (by repeat (first | (with_reducible first | exact HB.out | apply below_alloc | apply pw_below_drewN | apply below_drew1 | refine below_set ?_ GE167.out | refine below_set ?_ GE170.out) | exact HB.out)) hb); clear HO_171003; clear BK167; clear BK170; clear HB; have HO_171003 := n0_; have BK167 := n1_; have BK170 := n2_; have HB := n3_; clear n0_ n1_ n2_ n3_; (try clear hb); (try clear hb2); (try clear hk); (try clear hi)) | ((with_reducible refine gate_callee (f := 58) rfl ?_); refine goesL_ (some 84) rfl rfl Tryz.func58 (by kernel_rfl) rfl #[.string a0, .int .i64 (wrap64 ((ji34) + t173)), .string (⟨#[61]⟩ : ByteArray)] rfl (by (try simp only [List.map_toArray, List.map_cons, List.map_nil]); first | done | (simp only [hji34]; rfl) | rfl | (simp only [List.length_drop, List.length_take]; rfl)) ?_; (with_reducible refine (scrimref04_has.calls a0 (wrap64 ((ji34) + t173)) (⟨#[61]⟩ : ByteArray) false _ A39.out).mono ?_); rintro e w' ⟨rfl, ⟨nd, rfl⟩⟩; refine ⟨_, rfl, ?_⟩; have hnb77 := NB170_167.out; have hnc77 := NB167_170.out; have hcz78_0 : w76.cell? ⟨gb170, 0, none⟩ = some (.int .i64 1) := (blk_cell BK170.out 0).trans rfl; have hcz78_1 : w76.cell? ⟨gb170, 1, none⟩ = some (.string t169) := (blk_cell BK170.out 1).trans rfl; have hcz78_2 : w76.cell? ⟨gb170, 2, none⟩ = some (.string (⟨#[]⟩ : ByteArray)) := (blk_cell BK170.out 2).trans rfl; have hcz78_3 : w76.cell? ⟨gb170, 3, none⟩ = some (u171003) := (blk_cell BK170.out 3).trans rfl; have hfz78_0 := blk_frozen BK170.out 0; have hfz78_1 := blk_frozen BK170.out 1; have hfz78_2 := blk_frozen BK170.out 2; have hfz78_3 := blk_frozen BK170.out 3; obtain ⟨Ao79, co79, eo79⟩ := Kd.R_slice HO_171003.out; subst eo79) | ((with_reducible refine gate_callee (f := 71) rfl ?_); refine goesL_ (some 121) rfl rfl Tryz.func71 (by kernel_rfl) rfl #[.slice Ao79 x171003_2.length co79, .string t174] rfl (by (try simp only [List.map_toArray, List.map_cons, List.map_nil]); first | done | rfl | (simp only [List.length_drop, List.length_take]; rfl)) ?_; (with_reducible refine (scrimref04_Attr.calls kj28 _ _ x171003_2 t174 t183 true _ ?side1 ?side2 A74.out).mono ?_); (case side1 => repeat (first | exact (Kd.R_reads' HO_171003.out).2.2 | (with_reducible refine Kd.C_alloc ?_ _) | (with_reducible refine Kd.C_drewN ?_ _) | (with_reducible refine Kd.C_drew ?_))); (case side2 => exact (Kd.R_reads' HO_171003.out).2.1); rintro e w' ⟨rfl, ⟨nd, rfl⟩⟩; refine ⟨_, rfl, ?_⟩))
                                    go_roundg kj28
                                    case measure => have := HJ3.out; have := HK2.out; have := HJ28.out; omega
                                    case rel => exact ⟨(wrap64 ((ji34) + t173)), (x168000_2), (x168001_2), (x168002_2), (x171003_2), (.slice Ao79 x171003_2.length co79), (by first | rfl | (simp; done) | (simp only [← hji34] <;> (first | rfl | simp)) | (simp [*]; done)), H', ⟨by have := HJ3.out; have := HK2.out; have := HJ28.out; omega⟩, ⟨by (with_reducible repeat (first | apply Kd.R_alloc | apply Kd.R_drewN | apply Kd.R_drew)); exact HO_171003.out⟩, ⟨by (with_reducible repeat (first | refine blk_drewN ?_ _ | refine blk_drew ?_ | refine blk_alloc ?_ _)); exact BK167.out⟩, ⟨by (with_reducible repeat (first | refine blk_drewN ?_ _ | refine blk_drew ?_ | refine blk_alloc ?_ _)); exact BK170.out⟩, ⟨by repeat (first | (with_reducible first | exact HB.out | apply below_alloc | apply pw_below_drewN | apply below_drew1 | refine below_set ?_ GE167.out | refine below_set ?_ GE170.out) | exact HB.out)⟩⟩
                                  · replace c75 := Bool.eq_false_iff.mpr c75
                                    subst c75
                                    have H1 : (if x171003_2.length < 4398046511104 then (scrimref04_opening.l0 kj28 a0 (wrap64 ((ji34) + t173)) 1 t169 (⟨#[]⟩ : ByteArray) (x171003_2 ++ [(⟨t174, (⟨#[]⟩ : ByteArray)⟩ : S70)])) else (none)) = some (r1, r2, r3, r4, r5) := by rw [if_neg (show ¬ (false = true) by decide)] at H; exact H
                                    clear H
                                    have H := H1
                                    clear H1
                                    by_cases c80 : x171003_2.length < 4398046511104
                                    · rw [if_pos c80] at H
                                      have LMc80 := Aside0.mk c80
                                      clear c80
                                      obtain ⟨y185, hy185⟩ : ∃ y_ : List (S70), y_ = (x171003_2 ++ [(⟨t174, (⟨#[]⟩ : ByteArray)⟩ : S70)]) := ⟨_, rfl⟩
                                      replace H : (scrimref04_opening.l0 kj28 a0 (wrap64 ((ji34) + t173)) 1 t169 (⟨#[]⟩ : ByteArray) y185) = some (r1, r2, r3, r4, r5) := by first | (rw [hy185]; with_reducible exact H) | (have H2_ := (Option.bind_some _ _).symm.trans H; rw [hy185]; with_reducible exact H2_) | (have H2_ := (Option.bind_some _ _).symm.trans H; with_reducible exact H2_) | with_reducible exact H | (rw [hy185]; exact H) | exact H
                                      have Ny185 := Aside0.mk hy185
                                      clear hy185
                                      have H' := Aside0.mk H
                                      clear H
                                      go_wp2_with (first | ((with_reducible refine gate_callee (f := 55) rfl ?_); refine goesL_ (some 76) rfl rfl Tryz.func55 (by kernel_rfl) rfl #[.string (a0.extract ((ji34) : Int).toNat ((wrap64 ((ji34) + t173)) : Int).toNat)] rfl (by (try simp only [List.map_toArray, List.map_cons, List.map_nil]); first | done | (simp only [hji34]; rfl) | rfl | (simp only [List.length_drop, List.length_take]; rfl)) ?_; (with_reducible refine (scrimref04_Lower.calls kj28 (a0.extract ((ji34) : Int).toNat ((wrap64 ((ji34) + t173)) : Int).toNat) t174 _ A38.out).mono ?_); rintro e w81 ⟨rfl, hb⟩; refine ⟨_, rfl, ?_⟩; have n0_ := Aside0.mk (Kd.R_below (by (with_reducible repeat (first | apply Kd.R_alloc | apply Kd.R_drewN | apply Kd.R_drew)); exact HO_171003.out) hb); have n1_ := Aside0.mk (blk_below (g := gb167) (o := .cells #[.int .i64 x168000_2, .string x168001_2, .string x168002_2, .slice none 0 0] 71 (0, 0)) (by (with_reducible repeat (first | refine blk_drewN ?_ _ | refine blk_drew ?_ | refine blk_alloc ?_ _)); exact BK167.out) hb); have n2_ := Aside0.mk (blk_below (g := gb170) (o := .cells #[.int .i64 1, .string t169, .string (⟨#[]⟩ : ByteArray), u171003] 71 (0, 0)) (by (with_reducible repeat (first | refine blk_drewN ?_ _ | refine blk_drew ?_ | refine blk_alloc ?_ _)); exact BK170.out) hb); have n3_ := Aside0.mk (below_step (by repeat (first | (with_reducible first | exact HB.out | apply below_alloc | apply pw_below_drewN | apply below_drew1 | refine below_set ?_ GE167.out | refine below_set ?_ GE170.out) | exact HB.out)) hb); clear HO_171003; clear BK167; clear BK170; clear HB; have HO_171003 := n0_; have BK167 := n1_; have BK170 := n2_; have HB := n3_; clear n0_ n1_ n2_ n3_; (try clear hb); (try clear hb2); (try clear hk); (try clear hi)) | ((with_reducible refine gate_callee (f := 58) rfl ?_); refine goesL_ (some 84) rfl rfl Tryz.func58 (by kernel_rfl) rfl #[.string a0, .int .i64 (wrap64 ((ji34) + t173)), .string (⟨#[61]⟩ : ByteArray)] rfl (by (try simp only [List.map_toArray, List.map_cons, List.map_nil]); first | done | (simp only [hji34]; rfl) | rfl | (simp only [List.length_drop, List.length_take]; rfl)) ?_; (with_reducible refine (scrimref04_has.calls a0 (wrap64 ((ji34) + t173)) (⟨#[61]⟩ : ByteArray) false _ A39.out).mono ?_); rintro e w' ⟨rfl, ⟨nd, rfl⟩⟩; refine ⟨_, rfl, ?_⟩; (try (rw [drewN_self w81]; generalize hq_ : World.drewN w81 _ = w81; have n0_ : Aside0 (Kd.R k70 70 w81 w.heap.size (fun _ => True) u171003 x171003_2) := ⟨by rw [← hq_]; exact (by (with_reducible repeat (first | apply Kd.R_alloc | apply Kd.R_drewN | apply Kd.R_drew)); exact HO_171003.out)⟩; have n1_ : Aside0 (w81.heap[gb167]? = some (.cells #[.int .i64 x168000_2, .string x168001_2, .string x168002_2, .slice none 0 0] 71 (0, 0))) := ⟨by rw [← hq_]; exact (by (with_reducible repeat (first | refine blk_drewN ?_ _ | refine blk_drew ?_ | refine blk_alloc ?_ _)); exact BK167.out)⟩; have n2_ : Aside0 (w81.heap[gb170]? = some (.cells #[.int .i64 1, .string t169, .string (⟨#[]⟩ : ByteArray), u171003] 71 (0, 0))) := ⟨by rw [← hq_]; exact (by (with_reducible repeat (first | refine blk_drewN ?_ _ | refine blk_drew ?_ | refine blk_alloc ?_ _)); exact BK170.out)⟩; have n3_ : Aside0 (Below w.heap.size w w81) := ⟨by rw [← hq_]; exact (by repeat (first | (with_reducible first | exact HB.out | apply below_alloc | apply pw_below_drewN | apply below_drew1 | refine below_set ?_ GE167.out | refine below_set ?_ GE170.out) | exact HB.out))⟩; clear HO_171003 BK167 BK170 HB hq_; have HO_171003 := n0_; have BK167 := n1_; have BK170 := n2_; have HB := n3_; clear n0_ n1_ n2_ n3_)); have hnb82 := NB170_167.out; have hnc82 := NB167_170.out; have hcz83_0 : w81.cell? ⟨gb170, 0, none⟩ = some (.int .i64 1) := (blk_cell BK170.out 0).trans rfl; have hcz83_1 : w81.cell? ⟨gb170, 1, none⟩ = some (.string t169) := (blk_cell BK170.out 1).trans rfl; have hcz83_2 : w81.cell? ⟨gb170, 2, none⟩ = some (.string (⟨#[]⟩ : ByteArray)) := (blk_cell BK170.out 2).trans rfl; have hcz83_3 : w81.cell? ⟨gb170, 3, none⟩ = some (u171003) := (blk_cell BK170.out 3).trans rfl; have hfz83_0 := blk_frozen BK170.out 0; have hfz83_1 := blk_frozen BK170.out 1; have hfz83_2 := blk_frozen BK170.out 2; have hfz83_3 := blk_frozen BK170.out 3; obtain ⟨Ao84, co84, eo84⟩ := Kd.R_slice HO_171003.out; subst eo84) | ((with_reducible refine gate_callee (f := 71) rfl ?_); refine goesL_ (some 121) rfl rfl Tryz.func71 (by kernel_rfl) rfl #[.slice Ao84 x171003_2.length co84, .string t174] rfl (by (try simp only [List.map_toArray, List.map_cons, List.map_nil]); first | done | rfl | (simp only [List.length_drop, List.length_take]; rfl)) ?_; (with_reducible refine (scrimref04_Attr.calls kj28 _ _ x171003_2 t174 t183 false _ ?side1 ?side2 A74.out).mono ?_); (case side1 => repeat (first | exact (Kd.R_reads' HO_171003.out).2.2 | (with_reducible refine Kd.C_alloc ?_ _) | (with_reducible refine Kd.C_drewN ?_ _) | (with_reducible refine Kd.C_drew ?_))); (case side2 => exact (Kd.R_reads' HO_171003.out).2.1); rintro e w' ⟨rfl, ⟨nd, rfl⟩⟩; refine ⟨_, rfl, ?_⟩; (try (rw [drewN_self w81]; generalize hq_ : World.drewN w81 _ = w81; have n0_ : Aside0 (Kd.R k70 70 w81 w.heap.size (fun _ => True) (.slice Ao84 x171003_2.length co84) x171003_2) := ⟨by rw [← hq_]; exact (by (with_reducible repeat (first | apply Kd.R_alloc | apply Kd.R_drewN | apply Kd.R_drew)); exact HO_171003.out)⟩; have n1_ : Aside0 (w81.heap[gb167]? = some (.cells #[.int .i64 x168000_2, .string x168001_2, .string x168002_2, .slice none 0 0] 71 (0, 0))) := ⟨by rw [← hq_]; exact (by (with_reducible repeat (first | refine blk_drewN ?_ _ | refine blk_drew ?_ | refine blk_alloc ?_ _)); exact BK167.out)⟩; have n2_ : Aside0 (w81.heap[gb170]? = some (.cells #[.int .i64 1, .string t169, .string (⟨#[]⟩ : ByteArray), .slice Ao84 x171003_2.length co84] 71 (0, 0))) := ⟨by rw [← hq_]; exact (by (with_reducible repeat (first | refine blk_drewN ?_ _ | refine blk_drew ?_ | refine blk_alloc ?_ _)); exact BK170.out)⟩; have n3_ : Aside0 (Below w.heap.size w w81) := ⟨by rw [← hq_]; exact (by repeat (first | (with_reducible first | exact HB.out | apply below_alloc | apply pw_below_drewN | apply below_drew1 | refine below_set ?_ GE167.out | refine below_set ?_ GE170.out) | exact HB.out))⟩; clear HO_171003 BK167 BK170 HB hq_; have HO_171003 := n0_; have BK167 := n1_; have BK170 := n2_; have HB := n3_; clear n0_ n1_ n2_ n3_)); have hcy_0 : w81.cell? ⟨gb170, 0, none⟩ = some (.int .i64 1) := (blk_cell BK170.out 0).trans rfl; have hcf_0 := blk_frozen BK170.out 0; have hcy_1 : w81.cell? ⟨gb170, 1, none⟩ = some (.string t169) := (blk_cell BK170.out 1).trans rfl; have hcf_1 := blk_frozen BK170.out 1; have hcy_2 : w81.cell? ⟨gb170, 2, none⟩ = some (.string (⟨#[]⟩ : ByteArray)) := (blk_cell BK170.out 2).trans rfl; have hcf_2 := blk_frozen BK170.out 2; have hcy_3 : w81.cell? ⟨gb170, 3, none⟩ = some (.slice Ao84 x171003_2.length co84) := (blk_cell BK170.out 3).trans rfl; have hcf_3 := blk_frozen BK170.out 3) | ((with_reducible refine gate_builtin (b := .append) (xs := #[.tmp 127, .tmp 131]) rfl ?_); at_builtin; refine Kd.R_append k70 (w0 := w) w.heap.size rfl (.tmp 127) (.tmp 131) 44 70 (.agg #[(.string ⟨#[]⟩), (.string ⟨#[]⟩)]) 32 rfl Tryz.underlying44 info70 rfl (by decide) (by omega) (.slice Ao84 x171003_2.length co84) x171003_2 (⟨t174, (⟨#[]⟩ : ByteArray)⟩ : S70) [.string t174, .string (⟨#[]⟩ : ByteArray)] (fun _ => True) (fun _ => False) rfl rfl ?aP (fun _ hk => hk.elim) ?aF ?aO ?aB ?aS ?aL ?_; (case aP => exact k70_mkM _ _ _ (⟨t174, (⟨#[]⟩ : ByteArray)⟩ : S70)); (case aB => exact (by repeat (first | (with_reducible first | exact HB.out | apply below_alloc | apply pw_below_drewN | apply below_drew1 | refine below_set ?_ GE167.out | refine below_set ?_ GE170.out) | exact HB.out))); (case aF => exact (fun _ _ => trivial)); (case aO => exact (by (with_reducible repeat (first | apply Kd.R_alloc | apply Kd.R_drewN | apply Kd.R_drew)); exact HO_171003.out)); (case aS => exact (below_size (by repeat (first | (with_reducible first | exact HB.out | apply below_alloc | apply pw_below_drewN | apply below_drew1 | refine below_set ?_ GE167.out | refine below_set ?_ GE170.out) | exact HB.out)))); (case aL => have := LMc80.out; omega); intro v186 w85 ho hb hg hat; rw [← Ny185.out] at ho; have n0_ := Aside0.mk (blk_grown (g := gb167) (o := .cells #[.int .i64 x168000_2, .string x168001_2, .string x168002_2, .slice none 0 0] 71 (0, 0)) (by (with_reducible repeat (first | refine blk_drewN ?_ _ | refine blk_drew ?_ | refine blk_alloc ?_ _)); exact BK167.out) hg (Kd.R_ne HO_171003.out BK167.out (by decide))); have n1_ := Aside0.mk (blk_grown (g := gb170) (o := .cells #[.int .i64 1, .string t169, .string (⟨#[]⟩ : ByteArray), .slice Ao84 x171003_2.length co84] 71 (0, 0)) (by (with_reducible repeat (first | refine blk_drewN ?_ _ | refine blk_drew ?_ | refine blk_alloc ?_ _)); exact BK170.out) hg (Kd.R_ne HO_171003.out BK170.out (by decide))); have n2_ := Aside0.mk (hb); have n3_ := Aside0.mk (ho); clear BK167; clear BK170; clear HB; clear HO_171003; have BK167 := n0_; have BK170 := n1_; have HB := n2_; have HO187 := n3_; clear n0_ n1_ n2_ n3_; clear ho hb hg hat; obtain ⟨Ao86, co86, eo86⟩ := Kd.R_slice HO187.out; subst eo86; have hcz87_0 : w85.cell? ⟨gb170, 0, none⟩ = some (.int .i64 1) := (blk_cell BK170.out 0).trans rfl; have hcz87_1 : w85.cell? ⟨gb170, 1, none⟩ = some (.string t169) := (blk_cell BK170.out 1).trans rfl; have hcz87_2 : w85.cell? ⟨gb170, 2, none⟩ = some (.string (⟨#[]⟩ : ByteArray)) := (blk_cell BK170.out 2).trans rfl; have hcz87_3 : w85.cell? ⟨gb170, 3, none⟩ = some (.slice Ao84 x171003_2.length co84) := (blk_cell BK170.out 3).trans rfl; have hfz87_0 := blk_frozen BK170.out 0; have hfz87_1 := blk_frozen BK170.out 1; have hfz87_2 := blk_frozen BK170.out 2; have hfz87_3 := blk_frozen BK170.out 3))
                                      go_roundg kj28
                                      case measure => have := HJ3.out; have := HK2.out; have := HJ28.out; omega
                                      case rel => exact ⟨(wrap64 ((ji34) + t173)), (x168000_2), (x168001_2), (x168002_2), (y185), (.slice Ao86 y185.length co86), (by first | rfl | (simp; done) | (simp only [← hji34] <;> (first | rfl | simp)) | (simp [*]; done)), H', ⟨by have := HJ3.out; have := HK2.out; have := HJ28.out; omega⟩, ⟨by (with_reducible repeat (first | apply Kd.R_alloc | apply Kd.R_drewN | apply Kd.R_drew)); exact Kd.R_mono (Kd.R_far (p := ⟨gb170, 3, none⟩) (Kd.R_types HO187.out BK170.out (by decide)) (fun _ hk => hk.2) (.slice Ao86 y185.length co86)) (fun _ hk => trivial)⟩, ⟨by (with_reducible repeat (first | refine blk_drewN ?_ _ | refine blk_drew ?_ | refine blk_alloc ?_ _)); refine blk_far ?_ NB167_170.out _; (with_reducible repeat (first | refine blk_drewN ?_ _ | refine blk_drew ?_ | refine blk_alloc ?_ _)); exact BK167.out⟩, ⟨by (with_reducible repeat (first | refine blk_drewN ?_ _ | refine blk_drew ?_ | refine blk_alloc ?_ _)); refine blk_put (cs := #[.int .i64 1, .string t169, .string (⟨#[]⟩ : ByteArray), .slice Ao84 x171003_2.length co84]) ?_ 3 _ rfl; (with_reducible repeat (first | refine blk_drewN ?_ _ | refine blk_drew ?_ | refine blk_alloc ?_ _)); exact BK170.out⟩, ⟨by repeat (first | (with_reducible first | exact HB.out | apply below_alloc | apply pw_below_drewN | apply below_drew1 | refine below_set ?_ GE167.out | refine below_set ?_ GE170.out) | exact HB.out)⟩⟩
                                    · rw [if_neg c80] at H
                                      exact absurd H (by simp)
                              · rw [if_neg c37] at H
                                exact absurd H (by simp)
                            · rw [if_neg c36] at H
                              exact absurd H (by simp)
                          · rw [if_neg c35] at H
                            exact absurd H (by simp)
            · rw [if_neg c15] at H
              exact absurd H (by simp)
          · rw [if_neg c14] at H
            exact absurd H (by simp)
        · rw [if_neg c13] at H
          exact absurd H (by simp)
end Go.Proofs.YtkjgnkmnngaioaaGreat.Q
