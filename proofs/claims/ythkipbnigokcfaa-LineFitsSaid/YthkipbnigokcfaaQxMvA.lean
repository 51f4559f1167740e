/- Written by a program of this session (wip/xprint.py): plain Lean functions, and that the Go functions compute them. -/
import Derived.Test.YthkipbnigokcfaaQx0
import Derived.Test.YthkipbnigokcfaaLnF
import Derived.Test.YthkipbnigokcfaaLnA
namespace Go.Proofs.Ythkipbnigokcfaa.Q
open Go.RowKit Go.Proofs.YthkipbnigokcfaaW.PrintWords Go.Proofs.YthkipbnigokcfaaW.PrintLast Go.Proofs.YthkipbnigokcfaaW.PrintMore
attribute [local go_sem] max2_int min2_int max_two min_two max_three min_three max_four min_four   -- for this text's walks alone
set_option linter.unusedVariables false
set_option linter.unusedSimpArgs false

/-! ### scrimlaw16_LineMoves: function 5 -/
mutual
def scrimlaw16_LineMoves.j0 : Nat → Int → List (S30) → Int → List (S30) → Int → List (S30) → Int → Bool → Option (Bool)
 | 0, _, _, _, _, _, _, _, _ => none
 | k + 1, x1, x5, x6, x8, x9, x11, x12, x53 => if x53 = true then (some true) else (if x6 = x9 then (if x6 = x12 then (if (x5.length : Int) = (x8.length : Int) then (scrimlaw16_LineMoves.j1 k x1 x5 x8 x11 ((x5.length : Int) != (x11.length : Int))) else (scrimlaw16_LineMoves.j1 k x1 x5 x8 x11 true)) else (scrimlaw16_LineMoves.j1 k x1 x5 x8 x11 true)) else (scrimlaw16_LineMoves.j1 k x1 x5 x8 x11 true))
def scrimlaw16_LineMoves.j1 : Nat → Int → List (S30) → List (S30) → List (S30) → Bool → Option (Bool)
 | 0, _, _, _, _, _ => none
 | k + 1, x1, x5, x8, x11, x75 => if x75 = true then (some false) else (scrimlaw16_LineMoves.l0 k x1 x5 x8 x11 0 (x5.length : Int) 0)
def scrimlaw16_LineMoves.l0 : Nat → Int → List (S30) → List (S30) → List (S30) → Int → Int → Int → Option (Bool)
 | 0, _, _, _, _, _, _, _ => none
 | k + 1, x1, x5, x8, x11, x14, x77, x78 => if x78 < x77 then (if 0 ≤ x78 then (if x78 < (x5.length : Int) then (if 0 ≤ x14 then (if x14 < (x5.length : Int) then (if ((rd_T30 x5 x78).f1) = ((rd_T30 x5 x14).f1) then (scrimlaw16_LineMoves.j3 k x1 x5 x8 x11 x14 x78 x77 x78) else (scrimlaw16_LineMoves.j3 k x1 x5 x8 x11 x78 x78 x77 x78)) else (none)) else (none)) else (none)) else (none)) else (some true)
def scrimlaw16_LineMoves.j3 : Nat → Int → List (S30) → List (S30) → List (S30) → Int → Int → Int → Int → Option (Bool)
 | 0, _, _, _, _, _, _, _, _ => none
 | k + 1, x1, x5, x8, x11, x14, x15, x77, x78 => if 0 ≤ x15 then (if x15 < (x11.length : Int) then (if x15 < (x5.length : Int) then (if 0 ≤ x14 then (if x14 < (x5.length : Int) then (if ((rd_T30 x5 x14).f2.f0) = 0 then (if (wrap64 (((rd_T30 x11 x15).f2.f0) - ((rd_T30 x5 x15).f2.f0))) < 0 then (scrimlaw16_LineMoves.j4 k x1 x5 x8 x11 x14 x15 (wrap64 (((rd_T30 x11 x15).f2.f0) - ((rd_T30 x5 x15).f2.f0))) x77 x78 true) else (if x15 < (x8.length : Int) then (if (wrap64 (((rd_T30 x8 x15).f2.f0) - ((rd_T30 x5 x15).f2.f0))) = (wrap64 (Int.tdiv (wrap64 (((rd_T30 x11 x15).f2.f0) - ((rd_T30 x5 x15).f2.f0))) 2)) then (if ((rd_T30 x5 x15).f2.f1) = ((rd_T30 x8 x15).f2.f1) then (if ((rd_T30 x5 x15).f2.f1) = ((rd_T30 x11 x15).f2.f1) then (if ((rd_T30 x5 x15).f1) = ((rd_T30 x8 x15).f1) then (scrimlaw16_LineMoves.j4 k x1 x5 x8 x11 x14 x15 (wrap64 (((rd_T30 x11 x15).f2.f0) - ((rd_T30 x5 x15).f2.f0))) x77 x78 (((rd_T30 x5 x15).f1) != ((rd_T30 x11 x15).f1))) else (scrimlaw16_LineMoves.j4 k x1 x5 x8 x11 x14 x15 (wrap64 (((rd_T30 x11 x15).f2.f0) - ((rd_T30 x5 x15).f2.f0))) x77 x78 true)) else (scrimlaw16_LineMoves.j4 k x1 x5 x8 x11 x14 x15 (wrap64 (((rd_T30 x11 x15).f2.f0) - ((rd_T30 x5 x15).f2.f0))) x77 x78 true)) else (scrimlaw16_LineMoves.j4 k x1 x5 x8 x11 x14 x15 (wrap64 (((rd_T30 x11 x15).f2.f0) - ((rd_T30 x5 x15).f2.f0))) x77 x78 true)) else (scrimlaw16_LineMoves.j4 k x1 x5 x8 x11 x14 x15 (wrap64 (((rd_T30 x11 x15).f2.f0) - ((rd_T30 x5 x15).f2.f0))) x77 x78 true)) else (none))) else (scrimlaw16_LineMoves.j4 k x1 x5 x8 x11 x14 x15 (wrap64 (((rd_T30 x11 x15).f2.f0) - ((rd_T30 x5 x15).f2.f0))) x77 x78 true)) else (none)) else (none)) else (none)) else (none)) else (none)
def scrimlaw16_LineMoves.j4 : Nat → Int → List (S30) → List (S30) → List (S30) → Int → Int → Int → Int → Int → Bool → Option (Bool)
 | 0, _, _, _, _, _, _, _, _, _, _ => none
 | k + 1, x1, x5, x8, x11, x14, x15, x16, x77, x78, x190 => if x190 = true then (some false) else (if (wrap64 (x15 + 1)) = (x5.length : Int) then (scrimlaw16_LineMoves.j5 k x1 x5 x8 x11 x14 x15 x16 x77 x78 true) else (if 0 ≤ (wrap64 (x15 + 1)) then (if (wrap64 (x15 + 1)) < (x5.length : Int) then (if 0 ≤ x15 then (if x15 < (x5.length : Int) then (scrimlaw16_LineMoves.j5 k x1 x5 x8 x11 x14 x15 x16 x77 x78 (((rd_T30 x5 (wrap64 (x15 + 1))).f1) != ((rd_T30 x5 x15).f1))) else (none)) else (none)) else (none)) else (none)))
def scrimlaw16_LineMoves.j5 : Nat → Int → List (S30) → List (S30) → List (S30) → Int → Int → Int → Int → Int → Bool → Option (Bool)
 | 0, _, _, _, _, _, _, _, _, _, _ => none
 | k + 1, x1, x5, x8, x11, x14, x15, x16, x77, x78, x209 => if x209 = true then (if 0 ≤ x15 then (if x15 < (x11.length : Int) then (if x16 > 0 then (if (wrap64 (((rd_T30 x11 x15).f2.f0) + ((rd_T30 x11 x15).f2.f2))) = x1 then (if x16 = 0 then (if (wrap64 (((rd_T30 x11 x15).f2.f0) + ((rd_T30 x11 x15).f2.f2))) < x1 then (some false) else (scrimlaw16_LineMoves.l0 k x1 x5 x8 x11 x14 x77 (wrap64 (x78 + 1)))) else (scrimlaw16_LineMoves.l0 k x1 x5 x8 x11 x14 x77 (wrap64 (x78 + 1)))) else (some false)) else (if x16 = 0 then (if (wrap64 (((rd_T30 x11 x15).f2.f0) + ((rd_T30 x11 x15).f2.f2))) < x1 then (some false) else (scrimlaw16_LineMoves.l0 k x1 x5 x8 x11 x14 x77 (wrap64 (x78 + 1)))) else (scrimlaw16_LineMoves.l0 k x1 x5 x8 x11 x14 x77 (wrap64 (x78 + 1))))) else (none)) else (none)) else (scrimlaw16_LineMoves.l0 k x1 x5 x8 x11 x14 x77 (wrap64 (x78 + 1)))
end
def scrimlaw16_LineMoves.f (k : Nat) (l0 : List (S32)) (a1 : Int) : Option (Bool) := (scrimlaw16_awake.f).bind fun t175 => (if t175 = true then (if (l0.length : Int) > 200 then (some true) else ((line_Fill.f l0 a1 0).bind fun bt176 => ((line_Fill.f l0 a1 1).bind fun bt181 => ((line_Fill.f l0 a1 2).bind fun bt186 => (if bt176.2.2 = true then (if bt181.2.2 = true then (scrimlaw16_LineMoves.j0 k a1 bt176.1 bt176.2.1 bt181.1 bt181.2.1 bt186.1 bt186.2.1 (!bt186.2.2)) else (scrimlaw16_LineMoves.j0 k a1 bt176.1 bt176.2.1 bt181.1 bt181.2.1 bt186.1 bt186.2.1 true)) else (scrimlaw16_LineMoves.j0 k a1 bt176.1 bt176.2.1 bt181.1 bt181.2.1 bt186.1 bt186.2.1 true)))))) else (some false))
theorem scrimlaw16_LineMoves.mono_l : ∀ k, (∀ y0 y1 y2 y3 y4 y5 y6 y7, LeO (scrimlaw16_LineMoves.j0 k y0 y1 y2 y3 y4 y5 y6 y7) (scrimlaw16_LineMoves.j0 (k + 1) y0 y1 y2 y3 y4 y5 y6 y7)) ∧ (∀ y0 y1 y2 y3 y4, LeO (scrimlaw16_LineMoves.j1 k y0 y1 y2 y3 y4) (scrimlaw16_LineMoves.j1 (k + 1) y0 y1 y2 y3 y4)) ∧ (∀ y0 y1 y2 y3 y4 y5 y6, LeO (scrimlaw16_LineMoves.l0 k y0 y1 y2 y3 y4 y5 y6) (scrimlaw16_LineMoves.l0 (k + 1) y0 y1 y2 y3 y4 y5 y6)) ∧ (∀ y0 y1 y2 y3 y4 y5 y6 y7, LeO (scrimlaw16_LineMoves.j3 k y0 y1 y2 y3 y4 y5 y6 y7) (scrimlaw16_LineMoves.j3 (k + 1) y0 y1 y2 y3 y4 y5 y6 y7)) ∧ (∀ y0 y1 y2 y3 y4 y5 y6 y7 y8 y9, LeO (scrimlaw16_LineMoves.j4 k y0 y1 y2 y3 y4 y5 y6 y7 y8 y9) (scrimlaw16_LineMoves.j4 (k + 1) y0 y1 y2 y3 y4 y5 y6 y7 y8 y9)) ∧ (∀ y0 y1 y2 y3 y4 y5 y6 y7 y8 y9, LeO (scrimlaw16_LineMoves.j5 k y0 y1 y2 y3 y4 y5 y6 y7 y8 y9) (scrimlaw16_LineMoves.j5 (k + 1) y0 y1 y2 y3 y4 y5 y6 y7 y8 y9))
 | 0 => ⟨fun _ _ _ _ _ _ _ _ r h => by simp [scrimlaw16_LineMoves.j0] at h, fun _ _ _ _ _ r h => by simp [scrimlaw16_LineMoves.j1] at h, fun _ _ _ _ _ _ _ r h => by simp [scrimlaw16_LineMoves.l0] at h, fun _ _ _ _ _ _ _ _ r h => by simp [scrimlaw16_LineMoves.j3] at h, fun _ _ _ _ _ _ _ _ _ _ r h => by simp [scrimlaw16_LineMoves.j4] at h, fun _ _ _ _ _ _ _ _ _ _ r h => by simp [scrimlaw16_LineMoves.j5] at h⟩
 | k + 1 => by
  obtain ⟨ih0, ih1, ih2, ih3, ih4, ih5⟩ := scrimlaw16_LineMoves.mono_l k
  refine ⟨?_, ?_, ?_, ?_, ?_, ?_⟩
  ·
   intro y0 y1 y2 y3 y4 y5 y6 y7
   unfold scrimlaw16_LineMoves.j0
   repeat' first
   | (with_reducible exact ih0 _ _ _ _ _ _ _ _)
   | (with_reducible exact ih1 _ _ _ _ _)
   | (with_reducible exact ih2 _ _ _ _ _ _ _)
   | (with_reducible exact ih3 _ _ _ _ _ _ _ _)
   | (with_reducible exact ih4 _ _ _ _ _ _ _ _ _ _)
   | (with_reducible exact ih5 _ _ _ _ _ _ _ _ _ _)
   | (with_reducible exact LeO.refl _)
   | (with_reducible exact LeO.none _)
   | (with_reducible refine LeO.ite ?_ ?_)
   | (with_reducible refine LeO.bind ?_ (fun _ => ?_))
   | exact ih0 _ _ _ _ _ _ _ _
   | exact ih1 _ _ _ _ _
   | exact ih2 _ _ _ _ _ _ _
   | exact ih3 _ _ _ _ _ _ _ _
   | exact ih4 _ _ _ _ _ _ _ _ _ _
   | exact ih5 _ _ _ _ _ _ _ _ _ _
   | exact LeO.none _
   | refine LeO.ite ?_ ?_
   | refine LeO.bind ?_ (fun _ => ?_)
  ·
   intro y0 y1 y2 y3 y4
   unfold scrimlaw16_LineMoves.j1
   repeat' first
   | (with_reducible exact ih0 _ _ _ _ _ _ _ _)
   | (with_reducible exact ih1 _ _ _ _ _)
   | (with_reducible exact ih2 _ _ _ _ _ _ _)
   | (with_reducible exact ih3 _ _ _ _ _ _ _ _)
   | (with_reducible exact ih4 _ _ _ _ _ _ _ _ _ _)
   | (with_reducible exact ih5 _ _ _ _ _ _ _ _ _ _)
   | (with_reducible exact LeO.refl _)
   | (with_reducible exact LeO.none _)
   | (with_reducible refine LeO.ite ?_ ?_)
   | (with_reducible refine LeO.bind ?_ (fun _ => ?_))
   | exact ih0 _ _ _ _ _ _ _ _
   | exact ih1 _ _ _ _ _
   | exact ih2 _ _ _ _ _ _ _
   | exact ih3 _ _ _ _ _ _ _ _
   | exact ih4 _ _ _ _ _ _ _ _ _ _
   | exact ih5 _ _ _ _ _ _ _ _ _ _
   | exact LeO.none _
   | refine LeO.ite ?_ ?_
   | refine LeO.bind ?_ (fun _ => ?_)
  ·
   intro y0 y1 y2 y3 y4 y5 y6
   unfold scrimlaw16_LineMoves.l0
   repeat' first
   | (with_reducible exact ih0 _ _ _ _ _ _ _ _)
   | (with_reducible exact ih1 _ _ _ _ _)
   | (with_reducible exact ih2 _ _ _ _ _ _ _)
   | (with_reducible exact ih3 _ _ _ _ _ _ _ _)
   | (with_reducible exact ih4 _ _ _ _ _ _ _ _ _ _)
   | (with_reducible exact ih5 _ _ _ _ _ _ _ _ _ _)
   | (with_reducible exact LeO.refl _)
   | (with_reducible exact LeO.none _)
   | (with_reducible refine LeO.ite ?_ ?_)
   | (with_reducible refine LeO.bind ?_ (fun _ => ?_))
   | exact ih0 _ _ _ _ _ _ _ _
   | exact ih1 _ _ _ _ _
   | exact ih2 _ _ _ _ _ _ _
   | exact ih3 _ _ _ _ _ _ _ _
   | exact ih4 _ _ _ _ _ _ _ _ _ _
   | exact ih5 _ _ _ _ _ _ _ _ _ _
   | exact LeO.none _
   | refine LeO.ite ?_ ?_
   | refine LeO.bind ?_ (fun _ => ?_)
  ·
   intro y0 y1 y2 y3 y4 y5 y6 y7
   unfold scrimlaw16_LineMoves.j3
   repeat' first
   | (with_reducible exact ih0 _ _ _ _ _ _ _ _)
   | (with_reducible exact ih1 _ _ _ _ _)
   | (with_reducible exact ih2 _ _ _ _ _ _ _)
   | (with_reducible exact ih3 _ _ _ _ _ _ _ _)
   | (with_reducible exact ih4 _ _ _ _ _ _ _ _ _ _)
   | (with_reducible exact ih5 _ _ _ _ _ _ _ _ _ _)
   | (with_reducible exact LeO.refl _)
   | (with_reducible exact LeO.none _)
   | (with_reducible refine LeO.ite ?_ ?_)
   | (with_reducible refine LeO.bind ?_ (fun _ => ?_))
   | exact ih0 _ _ _ _ _ _ _ _
   | exact ih1 _ _ _ _ _
   | exact ih2 _ _ _ _ _ _ _
   | exact ih3 _ _ _ _ _ _ _ _
   | exact ih4 _ _ _ _ _ _ _ _ _ _
   | exact ih5 _ _ _ _ _ _ _ _ _ _
   | exact LeO.none _
   | refine LeO.ite ?_ ?_
   | refine LeO.bind ?_ (fun _ => ?_)
  ·
   intro y0 y1 y2 y3 y4 y5 y6 y7 y8 y9
   unfold scrimlaw16_LineMoves.j4
   repeat' first
   | (with_reducible exact ih0 _ _ _ _ _ _ _ _)
   | (with_reducible exact ih1 _ _ _ _ _)
   | (with_reducible exact ih2 _ _ _ _ _ _ _)
   | (with_reducible exact ih3 _ _ _ _ _ _ _ _)
   | (with_reducible exact ih4 _ _ _ _ _ _ _ _ _ _)
   | (with_reducible exact ih5 _ _ _ _ _ _ _ _ _ _)
   | (with_reducible exact LeO.refl _)
   | (with_reducible exact LeO.none _)
   | (with_reducible refine LeO.ite ?_ ?_)
   | (with_reducible refine LeO.bind ?_ (fun _ => ?_))
   | exact ih0 _ _ _ _ _ _ _ _
   | exact ih1 _ _ _ _ _
   | exact ih2 _ _ _ _ _ _ _
   | exact ih3 _ _ _ _ _ _ _ _
   | exact ih4 _ _ _ _ _ _ _ _ _ _
   | exact ih5 _ _ _ _ _ _ _ _ _ _
   | exact LeO.none _
   | refine LeO.ite ?_ ?_
   | refine LeO.bind ?_ (fun _ => ?_)
  ·
   intro y0 y1 y2 y3 y4 y5 y6 y7 y8 y9
   unfold scrimlaw16_LineMoves.j5
   repeat' first
   | (with_reducible exact ih0 _ _ _ _ _ _ _ _)
   | (with_reducible exact ih1 _ _ _ _ _)
   | (with_reducible exact ih2 _ _ _ _ _ _ _)
   | (with_reducible exact ih3 _ _ _ _ _ _ _ _)
   | (with_reducible exact ih4 _ _ _ _ _ _ _ _ _ _)
   | (with_reducible exact ih5 _ _ _ _ _ _ _ _ _ _)
   | (with_reducible exact LeO.refl _)
   | (with_reducible exact LeO.none _)
   | (with_reducible refine LeO.ite ?_ ?_)
   | (with_reducible refine LeO.bind ?_ (fun _ => ?_))
   | exact ih0 _ _ _ _ _ _ _ _
   | exact ih1 _ _ _ _ _
   | exact ih2 _ _ _ _ _ _ _
   | exact ih3 _ _ _ _ _ _ _ _
   | exact ih4 _ _ _ _ _ _ _ _ _ _
   | exact ih5 _ _ _ _ _ _ _ _ _ _
   | exact LeO.none _
   | refine LeO.ite ?_ ?_
   | refine LeO.bind ?_ (fun _ => ?_)
theorem scrimlaw16_LineMoves.mono : ∀ a0 a1 k, LeO (scrimlaw16_LineMoves.f k a0 a1) (scrimlaw16_LineMoves.f (k + 1) a0 a1) := by
 intro a0 a1 k
 obtain ⟨ih0, ih1, ih2, ih3, ih4, ih5⟩ := scrimlaw16_LineMoves.mono_l k
 unfold scrimlaw16_LineMoves.f
 repeat' first
   | (with_reducible exact ih0 _ _ _ _ _ _ _ _)
   | (with_reducible exact ih1 _ _ _ _ _)
   | (with_reducible exact ih2 _ _ _ _ _ _ _)
   | (with_reducible exact ih3 _ _ _ _ _ _ _ _)
   | (with_reducible exact ih4 _ _ _ _ _ _ _ _ _ _)
   | (with_reducible exact ih5 _ _ _ _ _ _ _ _ _ _)
   | (with_reducible exact LeO.refl _)
   | (with_reducible exact LeO.none _)
   | (with_reducible refine LeO.ite ?_ ?_)
   | (with_reducible refine LeO.bind ?_ (fun _ => ?_))
   | exact ih0 _ _ _ _ _ _ _ _
   | exact ih1 _ _ _ _ _
   | exact ih2 _ _ _ _ _ _ _
   | exact ih3 _ _ _ _ _ _ _ _
   | exact ih4 _ _ _ _ _ _ _ _ _ _
   | exact ih5 _ _ _ _ _ _ _ _ _ _
   | exact LeO.none _
   | refine LeO.ite ?_ ?_
   | refine LeO.bind ?_ (fun _ => ?_)
end Go.Proofs.Ythkipbnigokcfaa.Q
