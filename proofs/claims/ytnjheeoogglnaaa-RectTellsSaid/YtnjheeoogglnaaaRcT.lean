/- Has and Meet told plainly, and that RectMeets tells true. -/
import Derived.Test.YtnjheeoogglnaaaQx9
import Derived.IntWalk
namespace Go.Proofs.Ytnjheeoogglnaaa.Q
open Go.RowKit Go.IntWalk Go.Proofs.Ytnjheeoogglnaaa.Mem Go.Proofs.YtnjheeoogglnaaaW.PrintWords Go.Proofs.YtnjheeoogglnaaaW.PrintLast Go.Proofs.YtnjheeoogglnaaaW.PrintMore
set_option linter.unusedVariables false
set_option linter.unusedSimpArgs false

theorem clB_iff (n : Int) : clB n = true ↔ -1099511627776 ≤ n ∧ n ≤ 1099511627776 := by
  simp [clB]
theorem mayB_iff (x y w h : Int) : mayB x y w h = true ↔ (-1099511627776 ≤ x ∧ x ≤ 1099511627776) ∧ (-1099511627776 ≤ y ∧ y ≤ 1099511627776) ∧ (0 ≤ w ∧ w ≤ 1099511627776) ∧ (0 ≤ h ∧ h ≤ 1099511627776) := by
  simp only [mayB, Bool.and_eq_true, clB_iff, decide_eq_true_eq]
  constructor
  · rintro ⟨⟨⟨⟨⟨h1, h2⟩, h3⟩, h4⟩, h5⟩, h6⟩
    exact ⟨h1, h2, ⟨h5, h3.2⟩, ⟨h6, h4.2⟩⟩
  · rintro ⟨h1, h2, h3, h4⟩
    exact ⟨⟨⟨⟨⟨h1, h2⟩, ⟨by omega, h3.2⟩⟩, ⟨by omega, h4.2⟩⟩, h3.1⟩, h4.1⟩
def hasB (x y w h a b : Int) : Bool := mayB x y w h && (decide (x ≤ a) && decide (a < x + w) && decide (y ≤ b) && decide (b < y + h))
theorem hasB_iff (x y w h a b : Int) : hasB x y w h a b = true ↔ mayB x y w h = true ∧ x ≤ a ∧ a < x + w ∧ y ≤ b ∧ b < y + h := by
  simp [hasB, and_assoc]
theorem has_f (x y w h a b : Int) : rect_Has.f x y w h a b = some (hasB x y w h a b) := by
  unfold rect_Has.f rect_May.f hasB
  simp only [Option.bind_some]
  by_cases hm : mayB x y w h = true
  · obtain ⟨h1, h2, h3, h4⟩ := (mayB_iff x y w h).1 hm
    rw [if_pos hm, hm, wrap64_in _ (by omega), wrap64_in _ (by omega)]
    by_cases c1 : a ≥ x
    · rw [if_pos c1]
      by_cases c2 : a < x + w
      · rw [if_pos c2]
        by_cases c3 : b ≥ y
        · rw [if_pos c3]; simp; omega
        · rw [if_neg c3]; simp; omega
      · rw [if_neg c2]; simp; omega
    · rw [if_neg c1]; simp; omega
  · rw [if_neg hm]
    simp [hm]

/-- What two have together. -/
def meetV (x y w h x' y' w' h' : Int) : Int × Int × Int × Int × Bool :=
  if mayB x y w h = true ∧ mayB x' y' w' h' = true ∧ 0 < mn (x + w) (x' + w') - mx x x' ∧ 0 < mn (y + h) (y' + h') - mx y y'
  then (mx x x', mx y y', mn (x + w) (x' + w') - mx x x', mn (y + h) (y' + h') - mx y y', true) else (0, 0, 0, 0, false)
theorem meet_f (k : Nat) (x y w h x' y' w' h' : Int) : rect_Meet.f (k + 1) x y w h x' y' w' h' = some (meetV x y w h x' y' w' h') := by
  unfold rect_Meet.f rect_May.f rect_Meet.j0 meetV
  simp only [Option.bind_some]
  by_cases hm : mayB x y w h = true
  · by_cases hm' : mayB x' y' w' h' = true
    · obtain ⟨h1, h2, h3, h4⟩ := (mayB_iff x y w h).1 hm
      obtain ⟨h1', h2', h3', h4'⟩ := (mayB_iff x' y' w' h').1 hm'
      rw [if_pos hm, hm']
      simp only [Bool.not_true, hm, true_and, reduceCtorEq, if_false]
      have e1 : wrap64 (x + w) = x + w := wrap64_in _ (by omega)
      have e2 : wrap64 (x' + w') = x' + w' := wrap64_in _ (by omega)
      have e3 : wrap64 (y + h) = y + h := wrap64_in _ (by omega)
      have e4 : wrap64 (y' + h') = y' + h' := wrap64_in _ (by omega)
      rw [e1, e2, e3, e4]
      have b1 : -3099511627776 ≤ mn (x + w) (x' + w') - mx x x' ∧ mn (x + w) (x' + w') - mx x x' ≤ 3999511627776 := by
        unfold mn mx; split <;> split <;> omega
      have b2 : -3099511627776 ≤ mn (y + h) (y' + h') - mx y y' ∧ mn (y + h) (y' + h') - mx y y' ≤ 3999511627776 := by
        unfold mn mx; split <;> split <;> omega
      rw [wrap64_in _ (by omega), wrap64_in _ (by omega)]
      by_cases c1 : mn (x + w) (x' + w') - mx x x' ≤ 0
      · rw [if_pos c1, if_neg (by omega)]
      · rw [if_neg c1]
        by_cases c2 : mn (y + h) (y' + h') - mx y y' ≤ 0
        · rw [if_pos c2, if_neg (by omega)]
        · rw [if_neg c2, if_pos (by omega)]
    · rw [if_pos hm]
      simp [hm']
  · rw [if_neg hm]
    simp [hm]
theorem mx_comm (a b : Int) : mx a b = mx b a := by unfold mx; split <;> split <;> omega
theorem mn_comm (a b : Int) : mn a b = mn b a := by unfold mn; split <;> split <;> omega
theorem meet_comm (x y w h x' y' w' h' : Int) : meetV x' y' w' h' x y w h = meetV x y w h x' y' w' h' := by
  unfold meetV
  rw [mx_comm x' x, mx_comm y' y, mn_comm (x' + w'), mn_comm (y' + h')]
  by_cases hm : mayB x y w h = true <;> by_cases hm' : mayB x' y' w' h' = true <;> simp [hm, hm']
theorem meet_has (x y w h x' y' w' h' a b : Int) :
    hasB (meetV x y w h x' y' w' h').1 (meetV x y w h x' y' w' h').2.1 (meetV x y w h x' y' w' h').2.2.1 (meetV x y w h x' y' w' h').2.2.2.1 a b = (hasB x y w h a b && hasB x' y' w' h' a b) := by
  rw [Bool.eq_iff_iff, Bool.and_eq_true]
  simp only [hasB_iff]
  unfold meetV
  split
  · rename_i hc
    obtain ⟨hm, hm', c1, c2⟩ := hc
    simp only [hm, hm', true_and]
    have hm2 := (mayB_iff x y w h).1 hm
    have hm2' := (mayB_iff x' y' w' h').1 hm'
    rw [mayB_iff]
    revert c1 c2
    unfold mn mx
    split <;> split <;> split <;> split <;> omega
  · rename_i hc
    constructor
    · rintro ⟨_, h⟩; dsimp only at h; omega
    · rintro ⟨⟨hm, h⟩, ⟨hm', h'⟩⟩
      refine (hc ⟨hm, hm', ?_, ?_⟩).elim
      · unfold mn mx; split <;> split <;> omega
      · unfold mn mx; split <;> split <;> omega
theorem meet_may (x y w h x' y' w' h' : Int) (hs : (meetV x y w h x' y' w' h').2.2.2.2 = true) :
    mayB (meetV x y w h x' y' w' h').1 (meetV x y w h x' y' w' h').2.1 (meetV x y w h x' y' w' h').2.2.1 (meetV x y w h x' y' w' h').2.2.2.1 = true := by
  revert hs
  unfold meetV
  split
  · rename_i hc
    obtain ⟨hm, hm', c1, c2⟩ := hc
    intro _
    have hm2 := (mayB_iff x y w h).1 hm
    have hm2' := (mayB_iff x' y' w' h').1 hm'
    rw [mayB_iff]
    dsimp only
    revert c1 c2
    unfold mn mx
    split <;> split <;> split <;> split <;> omega
  · intro hs; exact absurd hs (by decide)
theorem meet_none (x y w h x' y' w' h' : Int) (hs : (meetV x y w h x' y' w' h').2.2.2.2 = false) : meetV x y w h x' y' w' h' = (0, 0, 0, 0, false) := by
  revert hs
  unfold meetV
  split
  · intro hs; cases hs
  · intro _; rfl
theorem meets_true (x y w h x' y' w' h' a b : Int) : scrimlaw02_RectMeets.f 1 x y w h x' y' w' h' a b = some true := by
  unfold scrimlaw02_RectMeets.f scrimlaw02_awake.f
  simp only [Option.bind_some, meet_f 0, if_true]
  rw [meet_comm x y w h x' y' w' h']
  simp only [beq_self_eq_true, Bool.not_true, Bool.or_self, bne_self_eq_false, if_false, reduceCtorEq]
  have J : scrimlaw02_RectMeets.j0 1 a b false x y w h x' y' w' h' (meetV x y w h x' y' w' h').1 (meetV x y w h x' y' w' h').2.1 (meetV x y w h x' y' w' h').2.2.1 (meetV x y w h x' y' w' h').2.2.2.1 = some true := by
    unfold scrimlaw02_RectMeets.j0
    simp only [has_f, Option.bind_some, meet_has, reduceCtorEq, if_false]
    cases hasB x y w h a b <;> simp
  rcases hb : (meetV x y w h x' y' w' h').2.2.2.2 with _ | _
  · have hz := meet_none _ _ _ _ _ _ _ _ hb
    simp only [reduceCtorEq, if_false]
    rw [hz] at J ⊢
    exact J
  · simp only [if_true, rect_May.f, Option.bind_some, meet_may _ _ _ _ _ _ _ _ hb]
    exact J
theorem meets_walk (a0_0 : Int) (a0_1 : Int) (a0_2 : Int) (a0_3 : Int) (a1_0 : Int) (a1_1 : Int) (a1_2 : Int) (a1_3 : Int) (a2 : Int) (a3 : Int) (w : World) (g0_0 : ((Lit.int .i64 a0_0).wf = true)) (g0_1 : ((Lit.int .i64 a0_1).wf = true)) (g0_2 : ((Lit.int .i64 a0_2).wf = true)) (g0_3 : ((Lit.int .i64 a0_3).wf = true)) (g1_0 : ((Lit.int .i64 a1_0).wf = true)) (g1_1 : ((Lit.int .i64 a1_1).wf = true)) (g1_2 : ((Lit.int .i64 a1_2).wf = true)) (g1_3 : ((Lit.int .i64 a1_3).wf = true)) (g2 : ((Lit.int .i64 a2).wf = true)) (g3 : ((Lit.int .i64 a3).wf = true)) :
    Calls Try.prog 8 #[.agg #[.int .i64 a0_0, .int .i64 a0_1, .int .i64 a0_2, .int .i64 a0_3], .agg #[.int .i64 a1_0, .int .i64 a1_1, .int .i64 a1_2, .int .i64 a1_3], .int .i64 a2, .int .i64 a3] w fun e w' => e = .returned (.bool true) ∧ Below w.heap.size w w' :=
  scrimlaw02_RectMeets.calls 1 a0_0 a0_1 a0_2 a0_3 a1_0 a1_1 a1_2 a1_3 a2 a3 true w (meets_true a0_0 a0_1 a0_2 a0_3 a1_0 a1_1 a1_2 a1_3 a2 a3)
end Go.Proofs.Ytnjheeoogglnaaa.Q
