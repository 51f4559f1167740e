/- RectBack tells true: the plain law. -/
import Derived.Test.YtnjheeoogglnaaaRcS
import Derived.Test.YtnjheeoogglnaaaQx6
namespace Go.Proofs.Ytnjheeoogglnaaa.Q
open Go.RowKit Go.IntWalk Go.Proofs.Ytnjheeoogglnaaa.Mem Go.Proofs.YtnjheeoogglnaaaW.PrintWords Go.Proofs.YtnjheeoogglnaaaW.PrintLast Go.Proofs.YtnjheeoogglnaaaW.PrintMore
set_option linter.unusedVariables false
set_option linter.unusedSimpArgs false

theorem back_j (a b px py x y w h : Int) (hw : 0 ≤ w) (hh : 0 ≤ h) (hm : mayB x y w h = true) (hm' : mayB (x + a) (y + b) w h = true) :
    scrimlaw02_RectBack.j0 2 a b px py false x y w h (x + a) (y + b) w h = some true := by
  have l1 : scrimlaw02_RectBack.j1 1 a b px py true x y w h (x + a) (y + b) w h = some true := by
    unfold scrimlaw02_RectBack.j1; simp
  unfold scrimlaw02_RectBack.j0
  simp only [reduceCtorEq, if_false, l1]
  by_cases c1 : px < -1099511627776
  · rw [if_pos c1]
  rw [if_neg c1]
  by_cases c2 : px > 1099511627776
  · rw [if_pos c2]
  rw [if_neg c2]
  by_cases c3 : py < -1099511627776
  · rw [if_pos c3]
  rw [if_neg c3]
  by_cases c4 : py > 1099511627776
  · rw [decide_eq_true c4]; exact l1
  rw [decide_eq_false c4]
  unfold scrimlaw02_RectBack.j1
  simp only [reduceCtorEq, if_false, has_f, Option.bind_some]
  have q := (mayB_iff _ _ _ _).1 hm
  have q' := (mayB_iff _ _ _ _).1 hm'
  rw [wrap64_in _ (by omega), wrap64_in _ (by omega)]
  have : hasB (x + a) (y + b) w h (px + a) (py + b) = hasB x y w h px py := by
    rw [Bool.eq_iff_iff, hasB_iff, hasB_iff, hm, hm']
    simp only [true_and]
    omega
  rw [this]
  simp
theorem back_true (x y w h a b px py : Int) : scrimlaw02_RectBack.f 2 x y w h a b px py = some true := by
  unfold scrimlaw02_RectBack.f scrimlaw02_awake.f rect_Move.f rect_May.f
  simp only [Option.bind_some, if_true]
  by_cases hm : mayB x y w h = true
  · have e : moveF x y w h a b = (sA x a, sA y b, w, h, sAe x a && sAe y b) := by unfold moveF; rw [if_pos hm]
    rw [e]
    dsimp only
    by_cases he : (sAe x a && sAe y b) = true
    · rw [if_pos he]
      rw [Bool.and_eq_true] at he
      obtain ⟨h1, h2⟩ := he
      rw [sA_of h1, sA_of h2]
      have i1 := (sAe_iff _ _).1 h1
      have i2 := (sAe_iff _ _).1 h2
      have q := (mayB_iff _ _ _ _).1 hm
      have hm' : mayB (x + a) (y + b) w h = true := by rw [mayB_iff]; omega
      have e' : moveF (x + a) (y + b) w h (wrap64 (-a)) (wrap64 (-b)) = (x, y, w, h, true) := by
        rw [wrap64_in _ (by omega), wrap64_in _ (by omega)]
        unfold moveF
        rw [if_pos hm']
        have g1 : sAe (x + a) (-a) = true := by rw [sAe_iff]; omega
        have g2 : sAe (y + b) (-b) = true := by rw [sAe_iff]; omega
        rw [sA_of g1, sA_of g2, g1, g2]
        simp only [Prod.mk.injEq, and_true, Bool.and_self]
        omega
      rw [e']
      simp only [if_true, beq_self_eq_true, Bool.not_true, Bool.or_self, reduceCtorEq, if_false, hm']
      exact back_j a b px py x y w h q.2.2.1.1 q.2.2.2.1 hm hm'
    · rw [if_neg he]
  · have e : moveF x y w h a b = (0, 0, 0, 0, false) := by unfold moveF; rw [if_neg hm]
    rw [e]
    simp
theorem back_walk (a0_0 : Int) (a0_1 : Int) (a0_2 : Int) (a0_3 : Int) (a1 : Int) (a2 : Int) (a3 : Int) (a4 : Int) (w : World) (g0_0 : ((Lit.int .i64 a0_0).wf = true)) (g0_1 : ((Lit.int .i64 a0_1).wf = true)) (g0_2 : ((Lit.int .i64 a0_2).wf = true)) (g0_3 : ((Lit.int .i64 a0_3).wf = true)) (g1 : ((Lit.int .i64 a1).wf = true)) (g2 : ((Lit.int .i64 a2).wf = true)) (g3 : ((Lit.int .i64 a3).wf = true)) (g4 : ((Lit.int .i64 a4).wf = true)) :
    Calls Try.prog 7 #[.agg #[.int .i64 a0_0, .int .i64 a0_1, .int .i64 a0_2, .int .i64 a0_3], .int .i64 a1, .int .i64 a2, .int .i64 a3, .int .i64 a4] w fun e w' => e = .returned (.bool true) ∧ Below w.heap.size w w' :=
  scrimlaw02_RectBack.calls 2 a0_0 a0_1 a0_2 a0_3 a1 a2 a3 a4 true w (back_true a0_0 a0_1 a0_2 a0_3 a1 a2 a3 a4)
end Go.Proofs.Ytnjheeoogglnaaa.Q
