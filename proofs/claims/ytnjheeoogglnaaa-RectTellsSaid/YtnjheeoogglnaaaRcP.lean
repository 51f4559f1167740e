/- The reference's Has, Meet and Union answer as the package rect does: the plain law. -/
import Derived.Test.YtnjheeoogglnaaaRcL
import Derived.Test.YtnjheeoogglnaaaQx7
import Derived.Test.YtnjheeoogglnaaaQx8
namespace Go.Proofs.Ytnjheeoogglnaaa.Q
open Go.RowKit Go.IntWalk Go.Proofs.Ytnjheeoogglnaaa.Mem Go.Proofs.YtnjheeoogglnaaaW.PrintWords Go.Proofs.YtnjheeoogglnaaaW.PrintLast Go.Proofs.YtnjheeoogglnaaaW.PrintMore
set_option linter.unusedVariables false
set_option linter.unusedSimpArgs false

theorem btw_f (a x w : Int) (h : -4398046511105 ≤ a - x ∧ a - x ≤ 9398046511105) : scrimref02_between.f a x w = some (decide (x ≤ a) && decide (a - x < w)) := by
  unfold scrimref02_between.f
  rw [wrap64_in _ (by omega)]
  by_cases h : a ≥ x
  · rw [if_pos h]; simp [show x ≤ a from h]
  · rw [if_neg h]; simp [show ¬ x ≤ a from h]
theorem rhas_f (k : Nat) (x y w h a b : Int) : scrimref02_Has.f (k + 1) x y w h a b = some (hasB x y w h a b) := by
  unfold scrimref02_Has.f scrimref02_Has.j0 scrimref02_May.f
  simp only [Option.bind_some]
  by_cases hm : mayB x y w h = true
  · obtain ⟨h1, h2, h3, h4⟩ := (mayB_iff x y w h).1 hm
    rw [if_pos hm]
    have no : ∀ {P : Prop}, (¬ (x ≤ a ∧ a < x + w ∧ y ≤ b ∧ b < y + h)) → hasB x y w h a b = false := by
      intro _ hn
      rw [← Bool.not_eq_true, hasB_iff]
      rintro ⟨_, hh⟩
      exact hn hh
    by_cases c1 : a < x
    · rw [if_pos c1, if_pos trivial, no (P := True) (by omega)]
    · rw [if_neg c1]
      by_cases c2 : b < y
      · rw [if_pos c2, if_pos trivial, no (P := True) (by omega)]
      · rw [if_neg c2]
        by_cases c3 : a > 4398046511104
        · rw [if_pos c3, if_pos trivial, no (P := True) (by omega)]
        · rw [if_neg c3]
          by_cases c4 : b > 4398046511104
          · rw [if_pos (by simpa using c4), no (P := True) (by omega)]
          · rw [if_neg (by simpa using c4), btw_f _ _ _ (by omega), btw_f _ _ _ (by omega)]
            simp only [Option.bind_some]
            have e1 : decide (x ≤ a) = true := by simp; omega
            have e2 : decide (y ≤ b) = true := by simp; omega
            rw [e1, e2]
            unfold hasB
            rw [hm, e1, e2]
            have e3 : decide (a - x < w) = decide (a < x + w) := by rw [Bool.eq_iff_iff]; simp; omega
            have e4 : decide (b - y < h) = decide (b < y + h) := by rw [Bool.eq_iff_iff]; simp; omega
            rw [e3, e4]
            cases decide (a < x + w) <;> simp
  · rw [if_neg hm, if_pos trivial]
    unfold hasB
    rw [Bool.not_eq_true] at hm
    rw [hm]; rfl
theorem has_corner {x y w h x' y' w' h' : Int} (hm : mayB x y w h = true) (hm' : mayB x' y' w' h' = true) :
    (hasB x y w h (mx x x') (mx y y') && hasB x' y' w' h' (mx x x') (mx y y')) = decide (0 < mn (x + w) (x' + w') - mx x x' ∧ 0 < mn (y + h) (y' + h') - mx y y') := by
  rw [Bool.eq_iff_iff, Bool.and_eq_true, hasB_iff, hasB_iff, decide_eq_true_eq]
  simp only [hm, hm', true_and]
  unfold mn mx
  split <;> split <;> split <;> split <;> omega
theorem rmeet_f (k : Nat) (x y w h x' y' w' h' : Int) : scrimref02_Meet.f (k + 2) x y w h x' y' w' h' = some (meetV x y w h x' y' w' h') := by
  unfold scrimref02_Meet.f scrimref02_May.f scrimref02_Meet.j0 meetV
  simp only [Option.bind_some, rhas_f k]
  by_cases hm : mayB x y w h = true
  · by_cases hm' : mayB x' y' w' h' = true
    · obtain ⟨h1, h2, h3, h4⟩ := (mayB_iff x y w h).1 hm
      obtain ⟨h1', h2', h3', h4'⟩ := (mayB_iff x' y' w' h').1 hm'
      have hc := has_corner hm hm'
      rw [if_pos hm, hm']
      simp only [Bool.not_true, hm, true_and, reduceCtorEq, if_false]
      have e1 : wrap64 (x + w) = x + w := wrap64_in _ (by omega)
      have e2 : wrap64 (x' + w') = x' + w' := wrap64_in _ (by omega)
      have e3 : wrap64 (y + h) = y + h := wrap64_in _ (by omega)
      have e4 : wrap64 (y' + h') = y' + h' := wrap64_in _ (by omega)
      rw [e1, e2, e3, e4]
      have b1 : -3099511627776 ≤ mn (x + w) (x' + w') - mx x x' ∧ mn (x + w) (x' + w') - mx x x' ≤ 3999511627776 := by
        unfold mn mx; split <;> split <;> omega
      have b2 : -3099511627776 ≤ mn (y + h) (y' + h') - mx y y' ∧ mn (y + h) (y' + h') - mx y y' ≤ 3999511627776 := by
        unfold mn mx; split <;> split <;> omega
      rw [wrap64_in _ (by omega), wrap64_in _ (by omega)]
      by_cases c : 0 < mn (x + w) (x' + w') - mx x x' ∧ 0 < mn (y + h) (y' + h') - mx y y'
      · rw [decide_eq_true c, Bool.and_eq_true] at hc
        rw [if_pos hc.1, if_pos hc.2, if_pos c]
      · rw [decide_eq_false c, Bool.and_eq_false_iff] at hc
        rw [if_neg c]
        by_cases q : hasB x y w h (mx x x') (mx y y') = true
        · rw [if_pos q]
          rcases hc with hc | hc
          · rw [hc] at q; cases q
          · rw [hc]; rfl
        · rw [if_neg q]
    · rw [if_pos hm]
      simp [hm']
  · rw [if_neg hm]
    simp [hm]

/-! ### The union -/
def fin4 (u : US) : Int × Int × Int × Int × Bool := (u.nx, u.ny, sS u.fx u.nx, sS u.fy u.ny, !((u.rg || !sSe u.fx u.nx) || !sSe u.fy u.ny))
theorem ru_step (k : Nat) (l : List S50) (u : US) (i : Nat) (hi : 0 < i) (hl : i < l.length) (hb : l.length ≤ 100) (hm : mayB l[i].f0 l[i].f1 l[i].f2 l[i].f3 = true) :
    scrimref02_Union.l0 (k + 7) l u.nx u.ny u.fx u.fy (!u.rg) (i : Int) =
    scrimref02_Union.l0 k l (usStep u l[i]).nx (usStep u l[i]).ny (usStep u l[i]).fx (usStep u l[i]).fy (!(usStep u l[i]).rg) ((i + 1 : Nat) : Int) := by
  have hrd : rd_T50 l (i : Int) = l[i] := by simp [rd_T50, hl]
  have ew : wrap64 ((i : Int) + 1) = ((i + 1 : Nat) : Int) := by rw [wrap64_in _ (by omega)]; rfl
  have n0 : ¬ (i : Int) = 0 := by omega
  rw [scrimref02_Union.l0]
  rw [if_pos (by omega), if_pos (by omega), hrd]
  simp only [scrimref02_May.f, scrimref01_Add.f, Option.bind_some, hm, if_true]
  change (if (!u.rg) = true then if sAe l[i].f0 l[i].f2 = true then scrimref02_Union.j1 (k + 6) l u.nx u.ny u.fx u.fy (sAe l[i].f1 l[i].f3) ↑i (sA l[i].f0 l[i].f2) (sA l[i].f1 l[i].f3) l[i].f0 l[i].f1 l[i].f2 l[i].f3
    else scrimref02_Union.j1 (k + 6) l u.nx u.ny u.fx u.fy false ↑i (sA l[i].f0 l[i].f2) (sA l[i].f1 l[i].f3) l[i].f0 l[i].f1 l[i].f2 l[i].f3
    else scrimref02_Union.j1 (k + 6) l u.nx u.ny u.fx u.fy false ↑i (sA l[i].f0 l[i].f2) (sA l[i].f1 l[i].f3) l[i].f0 l[i].f1 l[i].f2 l[i].f3) = _
  have hj : ∀ e : Bool, scrimref02_Union.j1 (k + 6) l u.nx u.ny u.fx u.fy e ↑i (sA l[i].f0 l[i].f2) (sA l[i].f1 l[i].f3) l[i].f0 l[i].f1 l[i].f2 l[i].f3 =
      scrimref02_Union.l0 k l (usStep u l[i]).nx (usStep u l[i]).ny (usStep u l[i]).fx (usStep u l[i]).fy e ((i + 1 : Nat) : Int) := by
    intro e
    rw [scrimref02_Union.j1, if_neg n0, scrimref02_Union.j2]
    simp only [decide_eq_true_eq]
    have t3 : ∀ nx : Int, scrimref02_Union.j3 (k + 4) l nx u.ny u.fx u.fy e ↑i (sA l[i].f0 l[i].f2) (sA l[i].f1 l[i].f3) l[i].f0 l[i].f1 l[i].f2 l[i].f3 =
        scrimref02_Union.l0 k l nx (usStep u l[i]).ny (usStep u l[i]).fx (usStep u l[i]).fy e ((i + 1 : Nat) : Int) := by
      intro nx
      rw [scrimref02_Union.j3, if_neg n0, scrimref02_Union.j4]
      simp only [decide_eq_true_eq]
      have t5 : ∀ ny : Int, scrimref02_Union.j5 (k + 2) l nx ny u.fx u.fy e ↑i (sA l[i].f0 l[i].f2) (sA l[i].f1 l[i].f3) =
          scrimref02_Union.l0 k l nx ny (usStep u l[i]).fx (usStep u l[i]).fy e ((i + 1 : Nat) : Int) := by
        intro ny
        rw [scrimref02_Union.j5, if_neg n0, scrimref02_Union.j6, if_neg n0, if_neg n0, ew]
        simp only [decide_eq_true_eq, usStep, mxI, gt_iff_lt]
        split <;> split <;> rfl
      rw [t5, t5]
      simp only [usStep, mnI]
      split <;> rfl
    rw [t3, t3]
    simp only [usStep, mnI]
    split <;> rfl
  rw [hj, hj]
  have hrg : (usStep u l[i]).rg = ((u.rg || !sAe l[i].f0 l[i].f2) || !sAe l[i].f1 l[i].f3) := rfl
  rw [hrg]
  cases u.rg <;> cases sAe l[i].f0 l[i].f2 <;> cases sAe l[i].f1 l[i].f3 <;> simp
theorem ru_first (k : Nat) (l : List S50) (hl : 0 < l.length) (hm : mayB l[0].f0 l[0].f1 l[0].f2 l[0].f3 = true) :
    scrimref02_Union.l0 (k + 7) l 0 0 0 0 true 0 =
    scrimref02_Union.l0 k l (usStep usStart l[0]).nx (usStep usStart l[0]).ny (usStep usStart l[0]).fx (usStep usStart l[0]).fy (!(usStep usStart l[0]).rg) ((1 : Nat) : Int) := by
  have hrd : rd_T50 l 0 = l[0] := by simp [rd_T50, hl]
  have ew : wrap64 ((0 : Int) + 1) = ((1 : Nat) : Int) := by rw [wrap64_in _ (by omega)]; rfl
  have hmm := (mayB_iff _ _ _ _).1 hm
  rw [scrimref02_Union.l0]
  rw [if_pos (by omega), if_pos (by omega), hrd]
  simp only [scrimref02_May.f, scrimref01_Add.f, Option.bind_some, hm, if_true]
  change (if sAe l[0].f0 l[0].f2 = true then scrimref02_Union.j1 (k + 6) l 0 0 0 0 (sAe l[0].f1 l[0].f3) 0 (sA l[0].f0 l[0].f2) (sA l[0].f1 l[0].f3) l[0].f0 l[0].f1 l[0].f2 l[0].f3
    else scrimref02_Union.j1 (k + 6) l 0 0 0 0 false 0 (sA l[0].f0 l[0].f2) (sA l[0].f1 l[0].f3) l[0].f0 l[0].f1 l[0].f2 l[0].f3) = _
  have e1 : (usStep usStart l[0]).nx = l[0].f0 := by simp only [usStep, usStart, mnI]; omega
  have e2 : (usStep usStart l[0]).ny = l[0].f1 := by simp only [usStep, usStart, mnI]; omega
  have e3 : (usStep usStart l[0]).fx = sA l[0].f0 l[0].f2 := by have := cl_lo (cl l[0].f0 + cl l[0].f2); simp only [usStep, usStart, mxI, sA]; omega
  have e4 : (usStep usStart l[0]).fy = sA l[0].f1 l[0].f3 := by have := cl_lo (cl l[0].f1 + cl l[0].f3); simp only [usStep, usStart, mxI, sA]; omega
  have hrg : (usStep usStart l[0]).rg = ((false || !sAe l[0].f0 l[0].f2) || !sAe l[0].f1 l[0].f3) := rfl
  have hj : ∀ e : Bool, scrimref02_Union.j1 (k + 6) l 0 0 0 0 e 0 (sA l[0].f0 l[0].f2) (sA l[0].f1 l[0].f3) l[0].f0 l[0].f1 l[0].f2 l[0].f3 =
      scrimref02_Union.l0 k l l[0].f0 l[0].f1 (sA l[0].f0 l[0].f2) (sA l[0].f1 l[0].f3) e ((1 : Nat) : Int) := by
    intro e
    rw [scrimref02_Union.j1, if_pos rfl, scrimref02_Union.j2, if_pos rfl, scrimref02_Union.j3, if_pos rfl, scrimref02_Union.j4, if_pos rfl, scrimref02_Union.j5, if_pos rfl, scrimref02_Union.j6, if_pos rfl, if_pos rfl, ew]
  rw [hj, hj, e1, e2, e3, e4, hrg]
  cases sAe l[0].f0 l[0].f2 <;> cases sAe l[0].f1 l[0].f3 <;> simp
theorem ru_loop (l : List S50) (hb : l.length ≤ 100) : ∀ (d i : Nat) (u : US), 0 < i → i + d = l.length →
    scrimref02_Union.l0 (7 * d + 1) l u.nx u.ny u.fx u.fy (!u.rg) (i : Int) = some (if allMay (l.drop i) = true then fin4 ((l.drop i).foldl usStep u) else (0, 0, 0, 0, false)) := by
  intro d
  induction d with
  | zero =>
    intro i u h0 hi
    have hd : l.drop i = [] := by rw [List.drop_eq_nil_iff]; omega
    rw [scrimref02_Union.l0, if_neg (by omega), hd]
    simp only [scrimref01_Sub.f, Option.bind_some]
    change (if (!u.rg) = true then if sSe u.fx u.nx = true then some (u.nx, u.ny, sS u.fx u.nx, sS u.fy u.ny, sSe u.fy u.ny) else some (u.nx, u.ny, sS u.fx u.nx, sS u.fy u.ny, false) else some (u.nx, u.ny, sS u.fx u.nx, sS u.fy u.ny, false)) = _
    have ha : allMay ([] : List S50) = true := rfl
    rw [if_pos ha]
    unfold fin4
    simp only [List.foldl_nil]
    cases u.rg <;> cases sSe u.fx u.nx <;> cases sSe u.fy u.ny <;> simp
  | succ d ih =>
    intro i u h0 hi
    have hl : i < l.length := by omega
    have hd : l.drop i = l[i] :: l.drop (i + 1) := List.drop_eq_getElem_cons hl
    rw [hd]
    by_cases hm : mayB l[i].f0 l[i].f1 l[i].f2 l[i].f3 = true
    · have := ru_step (7 * d + 1) l u i h0 hl hb hm
      rw [show 7 * (d + 1) + 1 = 7 * d + 1 + 7 from by omega, this, ih (i + 1) _ (by omega) (by omega)]
      have ha : allMay (l[i] :: l.drop (i + 1)) = allMay (l.drop (i + 1)) := by unfold allMay; rw [List.all_cons, hm, Bool.true_and]
      rw [ha, List.foldl_cons]
    · have ha : ¬ allMay (l[i] :: l.drop (i + 1)) = true := by
        unfold allMay
        rw [List.all_cons, Bool.and_eq_true]
        exact fun hh => hm hh.1
      rw [if_neg ha, show 7 * (d + 1) + 1 = (7 * d + 7) + 1 from by omega, scrimref02_Union.l0, if_pos (by omega), if_pos (by omega)]
      have hrd : rd_T50 l (i : Int) = l[i] := by simp [rd_T50, hl]
      rw [hrd]
      simp only [scrimref02_May.f, Option.bind_some]
      rw [if_neg hm]
theorem runion_f (l : List S50) (hb : l.length ≤ 100) : ∃ k, scrimref02_Union.f k l = rect_Union.f l := by
  unfold scrimref02_Union.f rect_Union.f
  by_cases h0 : l.length = 0
  · exact ⟨0, by rw [if_pos (by omega), if_pos h0]⟩
  · have hl : 0 < l.length := by omega
    rw [if_neg h0]
    have hd : l = l[0] :: l.drop 1 := by
      have := List.drop_eq_getElem_cons hl
      simpa using this
    by_cases hm : mayB l[0].f0 l[0].f1 l[0].f2 l[0].f3 = true
    · refine ⟨7 * (l.length - 1) + 1 + 7, ?_⟩
      rw [if_neg (by omega), ru_first _ l hl hm, ru_loop l hb (l.length - 1) 1 _ (by omega) (by omega)]
      have ha : allMay (l.drop 1) = allMay l := by
        conv => rhs; rw [hd]
        unfold allMay
        rw [List.all_cons, hm, Bool.true_and]
      have hu : (l.drop 1).foldl usStep (usStep usStart l[0]) = usOf l := by
        unfold usOf
        conv => rhs; rw [hd]
        rfl
      rw [ha, hu]
      rfl
    · refine ⟨1, ?_⟩
      have ha : ¬ allMay l = true := by
        rw [hd]
        unfold allMay
        rw [List.all_cons, Bool.and_eq_true]
        exact fun hh => hm hh.1
      rw [if_neg (by omega), if_neg ha, scrimref02_Union.l0, if_pos (by omega), if_pos (by omega)]
      have hrd : rd_T50 l 0 = l[0] := by simp [rd_T50, hl]
      rw [hrd]
      simp only [scrimref02_May.f, Option.bind_some]
      rw [if_neg hm]
end Go.Proofs.Ytnjheeoogglnaaa.Q
