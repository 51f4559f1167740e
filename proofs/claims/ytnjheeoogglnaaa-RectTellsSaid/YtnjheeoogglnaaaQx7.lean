/- Written by a program of this session (wip/xprint.py): plain Lean functions, and that the Go functions compute them. -/
import Derived.Test.YtnjheeoogglnaaaQx0
import Derived.Test.YtnjheeoogglnaaaRcG
import Derived.Test.YtnjheeoogglnaaaRcM
namespace Go.Proofs.Ytnjheeoogglnaaa.Q
open Go.RowKit Go.Proofs.YtnjheeoogglnaaaW.PrintWords Go.Proofs.YtnjheeoogglnaaaW.PrintLast Go.Proofs.YtnjheeoogglnaaaW.PrintMore
attribute [local go_sem] max2_int min2_int max_two min_two max_three min_three max_four min_four   -- for this text's walks alone
set_option linter.unusedVariables false
set_option linter.unusedSimpArgs false

/-! ### scrimref02_Union: function 31 -/
mutual
def scrimref02_Union.l0 : Nat → List (S50) → Int → Int → Int → Int → Bool → Int → Option (Int × Int × Int × Int × Bool)
  | 0, _, _, _, _, _, _, _ => none
  | k + 1, x0, x4, x5, x6, x7, x8, x9 => if x9 < (x0.length : Int) then (if 0 ≤ x9 then ((scrimref02_May.f ((rd_T50 x0 x9).f0) ((rd_T50 x0 x9).f1) ((rd_T50 x0 x9).f2) ((rd_T50 x0 x9).f3)).bind fun t149 => (if t149 = true then ((scrimref01_Add.f ((rd_T50 x0 x9).f0) ((rd_T50 x0 x9).f2)).bind fun bt150 => ((scrimref01_Add.f ((rd_T50 x0 x9).f1) ((rd_T50 x0 x9).f3)).bind fun bt152 => (if x8 = true then (if bt150.2 = true then (scrimref02_Union.j1 k x0 x4 x5 x6 x7 bt152.2 x9 bt150.1 bt152.1 ((rd_T50 x0 x9).f0) ((rd_T50 x0 x9).f1) ((rd_T50 x0 x9).f2) ((rd_T50 x0 x9).f3)) else (scrimref02_Union.j1 k x0 x4 x5 x6 x7 false x9 bt150.1 bt152.1 ((rd_T50 x0 x9).f0) ((rd_T50 x0 x9).f1) ((rd_T50 x0 x9).f2) ((rd_T50 x0 x9).f3))) else (scrimref02_Union.j1 k x0 x4 x5 x6 x7 false x9 bt150.1 bt152.1 ((rd_T50 x0 x9).f0) ((rd_T50 x0 x9).f1) ((rd_T50 x0 x9).f2) ((rd_T50 x0 x9).f3))))) else (some (0, 0, 0, 0, false)))) else (none)) else ((scrimref01_Sub.f x6 x4).bind fun bt143 => ((scrimref01_Sub.f x7 x5).bind fun bt145 => (if x8 = true then (if bt143.2 = true then (some (x4, x5, bt143.1, bt145.1, bt145.2)) else (some (x4, x5, bt143.1, bt145.1, false))) else (some (x4, x5, bt143.1, bt145.1, false)))))
def scrimref02_Union.j1 : Nat → List (S50) → Int → Int → Int → Int → Bool → Int → Int → Int → Int → Int → Int → Int → Option (Int × Int × Int × Int × Bool)
  | 0, _, _, _, _, _, _, _, _, _, _, _, _, _ => none
  | k + 1, x0, x4, x5, x6, x7, x8, x9, x11, x13, x149000, x149001, x149002, x149003 => if x9 = 0 then (scrimref02_Union.j2 k x0 x4 x5 x6 x7 x8 x9 x11 x13 true x149000 x149001 x149002 x149003) else (scrimref02_Union.j2 k x0 x4 x5 x6 x7 x8 x9 x11 x13 (decide (x149000 < x4)) x149000 x149001 x149002 x149003)
def scrimref02_Union.j2 : Nat → List (S50) → Int → Int → Int → Int → Bool → Int → Int → Int → Bool → Int → Int → Int → Int → Option (Int × Int × Int × Int × Bool)
  | 0, _, _, _, _, _, _, _, _, _, _, _, _, _, _ => none
  | k + 1, x0, x4, x5, x6, x7, x8, x9, x11, x13, x67, x149000, x149001, x149002, x149003 => if x67 = true then (scrimref02_Union.j3 k x0 x149000 x5 x6 x7 x8 x9 x11 x13 x149000 x149001 x149002 x149003) else (scrimref02_Union.j3 k x0 x4 x5 x6 x7 x8 x9 x11 x13 x149000 x149001 x149002 x149003)
def scrimref02_Union.j3 : Nat → List (S50) → Int → Int → Int → Int → Bool → Int → Int → Int → Int → Int → Int → Int → Option (Int × Int × Int × Int × Bool)
  | 0, _, _, _, _, _, _, _, _, _, _, _, _, _ => none
  | k + 1, x0, x4, x5, x6, x7, x8, x9, x11, x13, x149000, x149001, x149002, x149003 => if x9 = 0 then (scrimref02_Union.j4 k x0 x4 x5 x6 x7 x8 x9 x11 x13 true x149000 x149001 x149002 x149003) else (scrimref02_Union.j4 k x0 x4 x5 x6 x7 x8 x9 x11 x13 (decide (x149001 < x5)) x149000 x149001 x149002 x149003)
def scrimref02_Union.j4 : Nat → List (S50) → Int → Int → Int → Int → Bool → Int → Int → Int → Bool → Int → Int → Int → Int → Option (Int × Int × Int × Int × Bool)
  | 0, _, _, _, _, _, _, _, _, _, _, _, _, _, _ => none
  | k + 1, x0, x4, x5, x6, x7, x8, x9, x11, x13, x77, x149000, x149001, x149002, x149003 => if x77 = true then (scrimref02_Union.j5 k x0 x4 x149001 x6 x7 x8 x9 x11 x13) else (scrimref02_Union.j5 k x0 x4 x5 x6 x7 x8 x9 x11 x13)
def scrimref02_Union.j5 : Nat → List (S50) → Int → Int → Int → Int → Bool → Int → Int → Int → Option (Int × Int × Int × Int × Bool)
  | 0, _, _, _, _, _, _, _, _, _ => none
  | k + 1, x0, x4, x5, x6, x7, x8, x9, x11, x13 => if x9 = 0 then (scrimref02_Union.j6 k x0 x4 x5 x6 x7 x8 x9 x11 x13 true) else (scrimref02_Union.j6 k x0 x4 x5 x6 x7 x8 x9 x11 x13 (decide (x11 > x6)))
def scrimref02_Union.j6 : Nat → List (S50) → Int → Int → Int → Int → Bool → Int → Int → Int → Bool → Option (Int × Int × Int × Int × Bool)
  | 0, _, _, _, _, _, _, _, _, _, _ => none
  | k + 1, x0, x4, x5, x6, x7, x8, x9, x11, x13, x86 => if x86 = true then (if x9 = 0 then (scrimref02_Union.l0 k x0 x4 x5 x11 x13 x8 (wrap64 (x9 + 1))) else (if x13 > x7 then (scrimref02_Union.l0 k x0 x4 x5 x11 x13 x8 (wrap64 (x9 + 1))) else (scrimref02_Union.l0 k x0 x4 x5 x11 x7 x8 (wrap64 (x9 + 1))))) else (if x9 = 0 then (scrimref02_Union.l0 k x0 x4 x5 x6 x13 x8 (wrap64 (x9 + 1))) else (if x13 > x7 then (scrimref02_Union.l0 k x0 x4 x5 x6 x13 x8 (wrap64 (x9 + 1))) else (scrimref02_Union.l0 k x0 x4 x5 x6 x7 x8 (wrap64 (x9 + 1)))))
end
def scrimref02_Union.f (k : Nat) (l0 : List (S50)) : Option (Int × Int × Int × Int × Bool) := if (l0.length : Int) = 0 then (some (0, 0, 0, 0, true)) else (scrimref02_Union.l0 k l0 0 0 0 0 true 0)
theorem scrimref02_Union.mono_l : ∀ k, (∀ y0 y1 y2 y3 y4 y5 y6, LeO (scrimref02_Union.l0 k y0 y1 y2 y3 y4 y5 y6) (scrimref02_Union.l0 (k + 1) y0 y1 y2 y3 y4 y5 y6)) ∧ (∀ y0 y1 y2 y3 y4 y5 y6 y7 y8 y9 y10 y11 y12, LeO (scrimref02_Union.j1 k y0 y1 y2 y3 y4 y5 y6 y7 y8 y9 y10 y11 y12) (scrimref02_Union.j1 (k + 1) y0 y1 y2 y3 y4 y5 y6 y7 y8 y9 y10 y11 y12)) ∧ (∀ y0 y1 y2 y3 y4 y5 y6 y7 y8 y9 y10 y11 y12 y13, LeO (scrimref02_Union.j2 k y0 y1 y2 y3 y4 y5 y6 y7 y8 y9 y10 y11 y12 y13) (scrimref02_Union.j2 (k + 1) y0 y1 y2 y3 y4 y5 y6 y7 y8 y9 y10 y11 y12 y13)) ∧ (∀ y0 y1 y2 y3 y4 y5 y6 y7 y8 y9 y10 y11 y12, LeO (scrimref02_Union.j3 k y0 y1 y2 y3 y4 y5 y6 y7 y8 y9 y10 y11 y12) (scrimref02_Union.j3 (k + 1) y0 y1 y2 y3 y4 y5 y6 y7 y8 y9 y10 y11 y12)) ∧ (∀ y0 y1 y2 y3 y4 y5 y6 y7 y8 y9 y10 y11 y12 y13, LeO (scrimref02_Union.j4 k y0 y1 y2 y3 y4 y5 y6 y7 y8 y9 y10 y11 y12 y13) (scrimref02_Union.j4 (k + 1) y0 y1 y2 y3 y4 y5 y6 y7 y8 y9 y10 y11 y12 y13)) ∧ (∀ y0 y1 y2 y3 y4 y5 y6 y7 y8, LeO (scrimref02_Union.j5 k y0 y1 y2 y3 y4 y5 y6 y7 y8) (scrimref02_Union.j5 (k + 1) y0 y1 y2 y3 y4 y5 y6 y7 y8)) ∧ (∀ y0 y1 y2 y3 y4 y5 y6 y7 y8 y9, LeO (scrimref02_Union.j6 k y0 y1 y2 y3 y4 y5 y6 y7 y8 y9) (scrimref02_Union.j6 (k + 1) y0 y1 y2 y3 y4 y5 y6 y7 y8 y9))
  | 0 => ⟨fun _ _ _ _ _ _ _ r h => by simp [scrimref02_Union.l0] at h, fun _ _ _ _ _ _ _ _ _ _ _ _ _ r h => by simp [scrimref02_Union.j1] at h, fun _ _ _ _ _ _ _ _ _ _ _ _ _ _ r h => by simp [scrimref02_Union.j2] at h, fun _ _ _ _ _ _ _ _ _ _ _ _ _ r h => by simp [scrimref02_Union.j3] at h, fun _ _ _ _ _ _ _ _ _ _ _ _ _ _ r h => by simp [scrimref02_Union.j4] at h, fun _ _ _ _ _ _ _ _ _ r h => by simp [scrimref02_Union.j5] at h, fun _ _ _ _ _ _ _ _ _ _ r h => by simp [scrimref02_Union.j6] at h⟩
  | k + 1 => by
    obtain ⟨ih0, ih1, ih2, ih3, ih4, ih5, ih6⟩ := scrimref02_Union.mono_l k
    refine ⟨?_, ?_, ?_, ?_, ?_, ?_, ?_⟩
    · intro y0 y1 y2 y3 y4 y5 y6
      unfold scrimref02_Union.l0
      repeat' first
      | (with_reducible exact ih0 _ _ _ _ _ _ _)
      | (with_reducible exact ih1 _ _ _ _ _ _ _ _ _ _ _ _ _)
      | (with_reducible exact ih2 _ _ _ _ _ _ _ _ _ _ _ _ _ _)
      | (with_reducible exact ih3 _ _ _ _ _ _ _ _ _ _ _ _ _)
      | (with_reducible exact ih4 _ _ _ _ _ _ _ _ _ _ _ _ _ _)
      | (with_reducible exact ih5 _ _ _ _ _ _ _ _ _)
      | (with_reducible exact ih6 _ _ _ _ _ _ _ _ _ _)
      | (with_reducible exact LeO.refl _)
      | (with_reducible exact LeO.none _)
      | (with_reducible refine LeO.ite ?_ ?_)
      | (with_reducible refine LeO.bind ?_ (fun _ => ?_))
      | exact ih0 _ _ _ _ _ _ _
      | exact ih1 _ _ _ _ _ _ _ _ _ _ _ _ _
      | exact ih2 _ _ _ _ _ _ _ _ _ _ _ _ _ _
      | exact ih3 _ _ _ _ _ _ _ _ _ _ _ _ _
      | exact ih4 _ _ _ _ _ _ _ _ _ _ _ _ _ _
      | exact ih5 _ _ _ _ _ _ _ _ _
      | exact ih6 _ _ _ _ _ _ _ _ _ _
      | exact LeO.none _
      | refine LeO.ite ?_ ?_
      | refine LeO.bind ?_ (fun _ => ?_)
    · intro y0 y1 y2 y3 y4 y5 y6 y7 y8 y9 y10 y11 y12
      unfold scrimref02_Union.j1
      repeat' first
      | (with_reducible exact ih0 _ _ _ _ _ _ _)
      | (with_reducible exact ih1 _ _ _ _ _ _ _ _ _ _ _ _ _)
      | (with_reducible exact ih2 _ _ _ _ _ _ _ _ _ _ _ _ _ _)
      | (with_reducible exact ih3 _ _ _ _ _ _ _ _ _ _ _ _ _)
      | (with_reducible exact ih4 _ _ _ _ _ _ _ _ _ _ _ _ _ _)
      | (with_reducible exact ih5 _ _ _ _ _ _ _ _ _)
      | (with_reducible exact ih6 _ _ _ _ _ _ _ _ _ _)
      | (with_reducible exact LeO.refl _)
      | (with_reducible exact LeO.none _)
      | (with_reducible refine LeO.ite ?_ ?_)
      | (with_reducible refine LeO.bind ?_ (fun _ => ?_))
      | exact ih0 _ _ _ _ _ _ _
      | exact ih1 _ _ _ _ _ _ _ _ _ _ _ _ _
      | exact ih2 _ _ _ _ _ _ _ _ _ _ _ _ _ _
      | exact ih3 _ _ _ _ _ _ _ _ _ _ _ _ _
      | exact ih4 _ _ _ _ _ _ _ _ _ _ _ _ _ _
      | exact ih5 _ _ _ _ _ _ _ _ _
      | exact ih6 _ _ _ _ _ _ _ _ _ _
      | exact LeO.none _
      | refine LeO.ite ?_ ?_
      | refine LeO.bind ?_ (fun _ => ?_)
    · intro y0 y1 y2 y3 y4 y5 y6 y7 y8 y9 y10 y11 y12 y13
      unfold scrimref02_Union.j2
      repeat' first
      | (with_reducible exact ih0 _ _ _ _ _ _ _)
      | (with_reducible exact ih1 _ _ _ _ _ _ _ _ _ _ _ _ _)
      | (with_reducible exact ih2 _ _ _ _ _ _ _ _ _ _ _ _ _ _)
      | (with_reducible exact ih3 _ _ _ _ _ _ _ _ _ _ _ _ _)
      | (with_reducible exact ih4 _ _ _ _ _ _ _ _ _ _ _ _ _ _)
      | (with_reducible exact ih5 _ _ _ _ _ _ _ _ _)
      | (with_reducible exact ih6 _ _ _ _ _ _ _ _ _ _)
      | (with_reducible exact LeO.refl _)
      | (with_reducible exact LeO.none _)
      | (with_reducible refine LeO.ite ?_ ?_)
      | (with_reducible refine LeO.bind ?_ (fun _ => ?_))
      | exact ih0 _ _ _ _ _ _ _
      | exact ih1 _ _ _ _ _ _ _ _ _ _ _ _ _
      | exact ih2 _ _ _ _ _ _ _ _ _ _ _ _ _ _
      | exact ih3 _ _ _ _ _ _ _ _ _ _ _ _ _
      | exact ih4 _ _ _ _ _ _ _ _ _ _ _ _ _ _
      | exact ih5 _ _ _ _ _ _ _ _ _
      | exact ih6 _ _ _ _ _ _ _ _ _ _
      | exact LeO.none _
      | refine LeO.ite ?_ ?_
      | refine LeO.bind ?_ (fun _ => ?_)
    · intro y0 y1 y2 y3 y4 y5 y6 y7 y8 y9 y10 y11 y12
      unfold scrimref02_Union.j3
      repeat' first
      | (with_reducible exact ih0 _ _ _ _ _ _ _)
      | (with_reducible exact ih1 _ _ _ _ _ _ _ _ _ _ _ _ _)
      | (with_reducible exact ih2 _ _ _ _ _ _ _ _ _ _ _ _ _ _)
      | (with_reducible exact ih3 _ _ _ _ _ _ _ _ _ _ _ _ _)
      | (with_reducible exact ih4 _ _ _ _ _ _ _ _ _ _ _ _ _ _)
      | (with_reducible exact ih5 _ _ _ _ _ _ _ _ _)
      | (with_reducible exact ih6 _ _ _ _ _ _ _ _ _ _)
      | (with_reducible exact LeO.refl _)
      | (with_reducible exact LeO.none _)
      | (with_reducible refine LeO.ite ?_ ?_)
      | (with_reducible refine LeO.bind ?_ (fun _ => ?_))
      | exact ih0 _ _ _ _ _ _ _
      | exact ih1 _ _ _ _ _ _ _ _ _ _ _ _ _
      | exact ih2 _ _ _ _ _ _ _ _ _ _ _ _ _ _
      | exact ih3 _ _ _ _ _ _ _ _ _ _ _ _ _
      | exact ih4 _ _ _ _ _ _ _ _ _ _ _ _ _ _
      | exact ih5 _ _ _ _ _ _ _ _ _
      | exact ih6 _ _ _ _ _ _ _ _ _ _
      | exact LeO.none _
      | refine LeO.ite ?_ ?_
      | refine LeO.bind ?_ (fun _ => ?_)
    · intro y0 y1 y2 y3 y4 y5 y6 y7 y8 y9 y10 y11 y12 y13
      unfold scrimref02_Union.j4
      repeat' first
      | (with_reducible exact ih0 _ _ _ _ _ _ _)
      | (with_reducible exact ih1 _ _ _ _ _ _ _ _ _ _ _ _ _)
      | (with_reducible exact ih2 _ _ _ _ _ _ _ _ _ _ _ _ _ _)
      | (with_reducible exact ih3 _ _ _ _ _ _ _ _ _ _ _ _ _)
      | (with_reducible exact ih4 _ _ _ _ _ _ _ _ _ _ _ _ _ _)
      | (with_reducible exact ih5 _ _ _ _ _ _ _ _ _)
      | (with_reducible exact ih6 _ _ _ _ _ _ _ _ _ _)
      | (with_reducible exact LeO.refl _)
      | (with_reducible exact LeO.none _)
      | (with_reducible refine LeO.ite ?_ ?_)
      | (with_reducible refine LeO.bind ?_ (fun _ => ?_))
      | exact ih0 _ _ _ _ _ _ _
      | exact ih1 _ _ _ _ _ _ _ _ _ _ _ _ _
      | exact ih2 _ _ _ _ _ _ _ _ _ _ _ _ _ _
      | exact ih3 _ _ _ _ _ _ _ _ _ _ _ _ _
      | exact ih4 _ _ _ _ _ _ _ _ _ _ _ _ _ _
      | exact ih5 _ _ _ _ _ _ _ _ _
      | exact ih6 _ _ _ _ _ _ _ _ _ _
      | exact LeO.none _
      | refine LeO.ite ?_ ?_
      | refine LeO.bind ?_ (fun _ => ?_)
    · intro y0 y1 y2 y3 y4 y5 y6 y7 y8
      unfold scrimref02_Union.j5
      repeat' first
      | (with_reducible exact ih0 _ _ _ _ _ _ _)
      | (with_reducible exact ih1 _ _ _ _ _ _ _ _ _ _ _ _ _)
      | (with_reducible exact ih2 _ _ _ _ _ _ _ _ _ _ _ _ _ _)
      | (with_reducible exact ih3 _ _ _ _ _ _ _ _ _ _ _ _ _)
      | (with_reducible exact ih4 _ _ _ _ _ _ _ _ _ _ _ _ _ _)
      | (with_reducible exact ih5 _ _ _ _ _ _ _ _ _)
      | (with_reducible exact ih6 _ _ _ _ _ _ _ _ _ _)
      | (with_reducible exact LeO.refl _)
      | (with_reducible exact LeO.none _)
      | (with_reducible refine LeO.ite ?_ ?_)
      | (with_reducible refine LeO.bind ?_ (fun _ => ?_))
      | exact ih0 _ _ _ _ _ _ _
      | exact ih1 _ _ _ _ _ _ _ _ _ _ _ _ _
      | exact ih2 _ _ _ _ _ _ _ _ _ _ _ _ _ _
      | exact ih3 _ _ _ _ _ _ _ _ _ _ _ _ _
      | exact ih4 _ _ _ _ _ _ _ _ _ _ _ _ _ _
      | exact ih5 _ _ _ _ _ _ _ _ _
      | exact ih6 _ _ _ _ _ _ _ _ _ _
      | exact LeO.none _
      | refine LeO.ite ?_ ?_
      | refine LeO.bind ?_ (fun _ => ?_)
    · intro y0 y1 y2 y3 y4 y5 y6 y7 y8 y9
      unfold scrimref02_Union.j6
      repeat' first
      | (with_reducible exact ih0 _ _ _ _ _ _ _)
      | (with_reducible exact ih1 _ _ _ _ _ _ _ _ _ _ _ _ _)
      | (with_reducible exact ih2 _ _ _ _ _ _ _ _ _ _ _ _ _ _)
      | (with_reducible exact ih3 _ _ _ _ _ _ _ _ _ _ _ _ _)
      | (with_reducible exact ih4 _ _ _ _ _ _ _ _ _ _ _ _ _ _)
      | (with_reducible exact ih5 _ _ _ _ _ _ _ _ _)
      | (with_reducible exact ih6 _ _ _ _ _ _ _ _ _ _)
      | (with_reducible exact LeO.refl _)
      | (with_reducible exact LeO.none _)
      | (with_reducible refine LeO.ite ?_ ?_)
      | (with_reducible refine LeO.bind ?_ (fun _ => ?_))
      | exact ih0 _ _ _ _ _ _ _
      | exact ih1 _ _ _ _ _ _ _ _ _ _ _ _ _
      | exact ih2 _ _ _ _ _ _ _ _ _ _ _ _ _ _
      | exact ih3 _ _ _ _ _ _ _ _ _ _ _ _ _
      | exact ih4 _ _ _ _ _ _ _ _ _ _ _ _ _ _
      | exact ih5 _ _ _ _ _ _ _ _ _
      | exact ih6 _ _ _ _ _ _ _ _ _ _
      | exact LeO.none _
      | refine LeO.ite ?_ ?_
      | refine LeO.bind ?_ (fun _ => ?_)
theorem scrimref02_Union.mono : ∀ a0 k, LeO (scrimref02_Union.f k a0) (scrimref02_Union.f (k + 1) a0) := by
  intro a0 k
  obtain ⟨ih0, ih1, ih2, ih3, ih4, ih5, ih6⟩ := scrimref02_Union.mono_l k
  unfold scrimref02_Union.f
  repeat' first
      | (with_reducible exact ih0 _ _ _ _ _ _ _)
      | (with_reducible exact ih1 _ _ _ _ _ _ _ _ _ _ _ _ _)
      | (with_reducible exact ih2 _ _ _ _ _ _ _ _ _ _ _ _ _ _)
      | (with_reducible exact ih3 _ _ _ _ _ _ _ _ _ _ _ _ _)
      | (with_reducible exact ih4 _ _ _ _ _ _ _ _ _ _ _ _ _ _)
      | (with_reducible exact ih5 _ _ _ _ _ _ _ _ _)
      | (with_reducible exact ih6 _ _ _ _ _ _ _ _ _ _)
      | (with_reducible exact LeO.refl _)
      | (with_reducible exact LeO.none _)
      | (with_reducible refine LeO.ite ?_ ?_)
      | (with_reducible refine LeO.bind ?_ (fun _ => ?_))
      | exact ih0 _ _ _ _ _ _ _
      | exact ih1 _ _ _ _ _ _ _ _ _ _ _ _ _
      | exact ih2 _ _ _ _ _ _ _ _ _ _ _ _ _ _
      | exact ih3 _ _ _ _ _ _ _ _ _ _ _ _ _
      | exact ih4 _ _ _ _ _ _ _ _ _ _ _ _ _ _
      | exact ih5 _ _ _ _ _ _ _ _ _
      | exact ih6 _ _ _ _ _ _ _ _ _ _
      | exact LeO.none _
      | refine LeO.ite ?_ ?_
      | refine LeO.bind ?_ (fun _ => ?_)
set_option maxHeartbeats 8000000 in
set_option maxRecDepth 100000 in
theorem scrimref02_Union.calls (k : Nat) (A0 : Option Addr) (c0 : Nat) (l0 : List (S50)) (r1 : Int) (r2 : Int) (r3 : Int) (r4 : Int) (r5 : Bool) (w : World) (hr0 : Kd.C k50 w A0 l0.length l0) (hc0 : l0.length ≤ c0) (h : scrimref02_Union.f k l0 = some (r1, r2, r3, r4, r5)) :
    Calls Try.prog 31 #[.slice A0 l0.length c0] w fun e w' => e = .returned (.tuple #[.agg #[.int .i64 r1, .int .i64 r2, .int .i64 r3, .int .i64 r4], .bool r5]) ∧ Below w.heap.size w w' := by
  have hu50 := Try.underlying50
  have HR0 := Aside0.mk hr0
  have HC0 := Aside0.mk hc0
  clear hr0 hc0
  have HB := Aside0.mk (Below.refl w.heap.size w)
  have H : (if (l0.length : Int) = 0 then (some (0, 0, 0, 0, true)) else (scrimref02_Union.l0 k l0 0 0 0 0 true 0)) = some (r1, r2, r3, r4, r5) := h
  clear h
  by_cases c2 : (l0.length : Int) = 0
  · rw [if_pos c2] at H
    have c2b0 : ((l0.length : Int) == 0) = true := beq_iff_eq.mpr c2
    have c2b1 : ((l0.length : Int) != 0) = false := bne_eq_false_iff_eq.mpr c2
    clear c2
    simp only [Option.some.injEq, Prod.mk.injEq] at H
    obtain ⟨rfl, rfl, rfl, rfl, rfl⟩ := H
    go_enter Try.func31, Try.ntmps31
    go_wp2_with (first | ((with_reducible refine gate_dst (N := 2) rfl ?_); refine box_event ?hg (N := 2) ?hd (cs := #[.int .i64 0, .int .i64 0, .int .i64 0, .int .i64 0]) (t := 50) ?hr ?_; (case hd => rfl); (case hg => rfl); (case hr => first | (go_simp; done) | (go_simp; rfl)); intro gb142 hg w3 hbox hb; have n0_ := Aside0.mk (below_step (by repeat (first | (with_reducible first | exact HB.out | apply below_alloc | apply pw_below_drewN | apply below_drew1) | exact HB.out)) hb); have n1_ := Aside0.mk (hbox); have n2_ := Aside0.mk ((by rw [hg]; exact (below_size (by repeat (first | (with_reducible first | exact HB.out | apply below_alloc | apply pw_below_drewN | apply below_drew1) | exact HB.out))) : w.heap.size ≤ gb142)); have n3_ := Aside0.mk ((by rw [hg]; exact (below_size (by repeat (first | (with_reducible first | exact HB.out | apply below_alloc | apply pw_below_drewN | apply below_drew1) | exact HB.out))) : w.heap.size ≤ gb142)); clear HB; have HB := n0_; have BK142 := n1_; have GW142 := n2_; have GE142 := n3_; clear n0_ n1_ n2_ n3_; clear hb hbox hg; have hcz4_0 : w3.cell? ⟨gb142, 0, none⟩ = some (.int .i64 0) := (blk_cell BK142.out 0).trans rfl; have hcz4_1 : w3.cell? ⟨gb142, 1, none⟩ = some (.int .i64 0) := (blk_cell BK142.out 1).trans rfl; have hcz4_2 : w3.cell? ⟨gb142, 2, none⟩ = some (.int .i64 0) := (blk_cell BK142.out 2).trans rfl; have hcz4_3 : w3.cell? ⟨gb142, 3, none⟩ = some (.int .i64 0) := (blk_cell BK142.out 3).trans rfl; have hfz4_0 := blk_frozen BK142.out 0; have hfz4_1 := blk_frozen BK142.out 1; have hfz4_2 := blk_frozen BK142.out 2; have hfz4_3 := blk_frozen BK142.out 3))
    refine bodyPost_ret (results_ct rfl _ _ gb142 50 #[.int .i64 0, .int .i64 0, .int .i64 0, .int .i64 0] (0, 0) _ rfl (by (with_reducible repeat (first | refine blk_drewN ?_ _ | refine blk_drew ?_ | refine blk_alloc ?_ _)); refine blk_put (cs := #[.int .i64 0, .int .i64 0, .int .i64 0, .int .i64 0]) ?_ 3 _ rfl; (with_reducible repeat (first | refine blk_drewN ?_ _ | refine blk_drew ?_ | refine blk_alloc ?_ _)); refine blk_put (cs := #[.int .i64 0, .int .i64 0, .int .i64 0, .int .i64 0]) ?_ 2 _ rfl; (with_reducible repeat (first | refine blk_drewN ?_ _ | refine blk_drew ?_ | refine blk_alloc ?_ _)); refine blk_put (cs := #[.int .i64 0, .int .i64 0, .int .i64 0, .int .i64 0]) ?_ 1 _ rfl; (with_reducible repeat (first | refine blk_drewN ?_ _ | refine blk_drew ?_ | refine blk_alloc ?_ _)); refine blk_put (cs := #[.int .i64 0, .int .i64 0, .int .i64 0, .int .i64 0]) ?_ 0 _ rfl; (with_reducible repeat (first | refine blk_drewN ?_ _ | refine blk_drew ?_ | refine blk_alloc ?_ _)); exact BK142.out) Try.underlying50 rfl (by kernel_rfl)) rfl ?_
    exact ⟨by first | rfl | (simp [errW_none, errW_some] <;> rfl) | (simp [*, errW_none, errW_some] <;> rfl), by repeat (first | (with_reducible first | exact HB.out | apply below_alloc | apply pw_below_drewN | apply below_drew1 | refine below_set ?_ GE142.out) | exact HB.out)⟩
  · rw [if_neg c2] at H
    have c2b0 : ((l0.length : Int) == 0) = false := beq_eq_false_iff_ne.mpr c2
    have c2b1 : ((l0.length : Int) != 0) = true := bne_iff_ne.mpr c2
    have c2b2 : ¬ (l0 = []) := fun h_ => c2 (by rw [h_]; rfl)
    have H' := Aside0.mk H
    clear H
    go_enter Try.func31, Try.ntmps31
    go_wp2_with (first | ((with_reducible refine gate_dst (N := 2) rfl ?_); refine box_event ?hg (N := 2) ?hd (cs := #[.int .i64 0, .int .i64 0, .int .i64 0, .int .i64 0]) (t := 50) ?hr ?_; (case hd => rfl); (case hg => rfl); (case hr => first | (go_simp; done) | (go_simp; rfl)); intro gb142 hg w5 hbox hb; have n0_ := Aside0.mk (below_step (by repeat (first | (with_reducible first | exact HB.out | apply below_alloc | apply pw_below_drewN | apply below_drew1) | exact HB.out)) hb); have n1_ := Aside0.mk (hbox); have n2_ := Aside0.mk ((by rw [hg]; exact (below_size (by repeat (first | (with_reducible first | exact HB.out | apply below_alloc | apply pw_below_drewN | apply below_drew1) | exact HB.out))) : w.heap.size ≤ gb142)); have n3_ := Aside0.mk ((by rw [hg]; exact (below_size (by repeat (first | (with_reducible first | exact HB.out | apply below_alloc | apply pw_below_drewN | apply below_drew1) | exact HB.out))) : w.heap.size ≤ gb142)); clear HB; have HB := n0_; have BK142 := n1_; have GW142 := n2_; have GE142 := n3_; clear n0_ n1_ n2_ n3_; clear hb hbox hg))
    go_loopg [4, 5, 6, 7, 8, 9] k (fun kq v4 v5 v6 v7 v8 v9 w' => ∃ (x4_1 : Int) (x5_1 : Int) (x6_1 : Int) (x7_1 : Int) (x8_1 : Bool) (x9_1 : Int) (x143000_1 : Int) (x143001_1 : Int) (x143002_1 : Int) (x143003_1 : Int), v4 = .int .i64 x4_1 ∧ v5 = .int .i64 x5_1 ∧ v6 = .int .i64 x6_1 ∧ v7 = .int .i64 x7_1 ∧ v8 = .bool x8_1 ∧ v9 = .int .i64 x9_1 ∧ Aside0 (scrimref02_Union.l0 kq l0 x4_1 x5_1 x6_1 x7_1 x8_1 x9_1 = some (r1, r2, r3, r4, r5)) ∧ Aside0 (kq ≤ k) ∧ Aside0 (w'.heap[gb142]? = some (.cells #[.int .i64 x143000_1, .int .i64 x143001_1, .int .i64 x143002_1, .int .i64 x143003_1] 50 (0, 0))) ∧ Aside0 (Below w.heap.size w w'))
    case atStart => exact ⟨(0), (0), (0), (0), (true), (0), (0), (0), (0), (0), (by first | rfl | (simp; done) | (simp [*]; done)), (by first | rfl | (simp; done) | (simp [*]; done)), (by first | rfl | (simp; done) | (simp [*]; done)), (by first | rfl | (simp; done) | (simp [*]; done)), (by first | rfl | (simp; done) | (simp [*]; done)), (by first | rfl | (simp; done) | (simp [*]; done)), H', ⟨Nat.le_refl _⟩, ⟨by (with_reducible repeat (first | refine blk_drewN ?_ _ | refine blk_drew ?_ | refine blk_alloc ?_ _)); exact BK142.out⟩, ⟨by repeat (first | (with_reducible first | exact HB.out | apply below_alloc | apply pw_below_drewN | apply below_drew1 | refine below_set ?_ GE142.out) | exact HB.out)⟩⟩
    case round =>
      clear H'
      try clear c2
      try clear c2b0
      try clear c2b1
      try clear c2b2
      try clear p2
      try clear c3
      try clear hcz4_0
      try clear hcz4_1
      try clear hcz4_2
      try clear hcz4_3
      try clear hfz4_0
      try clear hfz4_1
      try clear hfz4_2
      try clear hfz4_3
      obtain ⟨x4_1, x5_1, x6_1, x7_1, x8_1, x9_1, x143000_1, x143001_1, x143002_1, x143003_1, rfl, rfl, rfl, rfl, rfl, rfl, HA, HK1, BK142, HB⟩ := hrel
      cases gk with
      | zero => exact absurd HA.out (by simp [scrimref02_Union.l0])
      | succ k1 =>
        have H := HA.out
        clear HA
        simp only [scrimref02_Union.l0] at H
        by_cases c6 : x9_1 < (l0.length : Int)
        · rw [if_pos c6] at H
          have c6b0 : decide (x9_1 < (l0.length : Int)) = true := decide_eq_true c6
          clear c6
          by_cases c7 : 0 ≤ x9_1
          · rw [if_pos c7] at H
            have c7b0 : decide (0 ≤ x9_1) = true := decide_eq_true c7
            clear c7
            replace H := Option.bind_eq_some_iff.mp H
            obtain ⟨t149, A80, H⟩ := H
            replace H : (if t149 = true then ((scrimref01_Add.f ((rd_T50 l0 x9_1).f0) ((rd_T50 l0 x9_1).f2)).bind fun bt150 => ((scrimref01_Add.f ((rd_T50 l0 x9_1).f1) ((rd_T50 l0 x9_1).f3)).bind fun bt152 => (if x8_1 = true then (if bt150.2 = true then (scrimref02_Union.j1 k1 l0 x4_1 x5_1 x6_1 x7_1 bt152.2 x9_1 bt150.1 bt152.1 ((rd_T50 l0 x9_1).f0) ((rd_T50 l0 x9_1).f1) ((rd_T50 l0 x9_1).f2) ((rd_T50 l0 x9_1).f3)) else (scrimref02_Union.j1 k1 l0 x4_1 x5_1 x6_1 x7_1 false x9_1 bt150.1 bt152.1 ((rd_T50 l0 x9_1).f0) ((rd_T50 l0 x9_1).f1) ((rd_T50 l0 x9_1).f2) ((rd_T50 l0 x9_1).f3))) else (scrimref02_Union.j1 k1 l0 x4_1 x5_1 x6_1 x7_1 false x9_1 bt150.1 bt152.1 ((rd_T50 l0 x9_1).f0) ((rd_T50 l0 x9_1).f1) ((rd_T50 l0 x9_1).f2) ((rd_T50 l0 x9_1).f3))))) else (some (0, 0, 0, 0, false))) = some (r1, r2, r3, r4, r5) := H
            have A8 := Aside0.mk A80
            clear A80
            by_cases c9 : t149 = true
            · subst c9
              have H1 : ((scrimref01_Add.f ((rd_T50 l0 x9_1).f0) ((rd_T50 l0 x9_1).f2)).bind fun bt150 => ((scrimref01_Add.f ((rd_T50 l0 x9_1).f1) ((rd_T50 l0 x9_1).f3)).bind fun bt152 => (if x8_1 = true then (if bt150.2 = true then (scrimref02_Union.j1 k1 l0 x4_1 x5_1 x6_1 x7_1 bt152.2 x9_1 bt150.1 bt152.1 ((rd_T50 l0 x9_1).f0) ((rd_T50 l0 x9_1).f1) ((rd_T50 l0 x9_1).f2) ((rd_T50 l0 x9_1).f3)) else (scrimref02_Union.j1 k1 l0 x4_1 x5_1 x6_1 x7_1 false x9_1 bt150.1 bt152.1 ((rd_T50 l0 x9_1).f0) ((rd_T50 l0 x9_1).f1) ((rd_T50 l0 x9_1).f2) ((rd_T50 l0 x9_1).f3))) else (scrimref02_Union.j1 k1 l0 x4_1 x5_1 x6_1 x7_1 false x9_1 bt150.1 bt152.1 ((rd_T50 l0 x9_1).f0) ((rd_T50 l0 x9_1).f1) ((rd_T50 l0 x9_1).f2) ((rd_T50 l0 x9_1).f3))))) = some (r1, r2, r3, r4, r5) := by rw [if_pos rfl] at H; exact H
              clear H
              have H := H1
              clear H1
              replace H := Option.bind_eq_some_iff.mp H
              obtain ⟨⟨t150, t151⟩, A100, H⟩ := H
              replace H : ((scrimref01_Add.f ((rd_T50 l0 x9_1).f1) ((rd_T50 l0 x9_1).f3)).bind fun bt152 => (if x8_1 = true then (if t151 = true then (scrimref02_Union.j1 k1 l0 x4_1 x5_1 x6_1 x7_1 bt152.2 x9_1 t150 bt152.1 ((rd_T50 l0 x9_1).f0) ((rd_T50 l0 x9_1).f1) ((rd_T50 l0 x9_1).f2) ((rd_T50 l0 x9_1).f3)) else (scrimref02_Union.j1 k1 l0 x4_1 x5_1 x6_1 x7_1 false x9_1 t150 bt152.1 ((rd_T50 l0 x9_1).f0) ((rd_T50 l0 x9_1).f1) ((rd_T50 l0 x9_1).f2) ((rd_T50 l0 x9_1).f3))) else (scrimref02_Union.j1 k1 l0 x4_1 x5_1 x6_1 x7_1 false x9_1 t150 bt152.1 ((rd_T50 l0 x9_1).f0) ((rd_T50 l0 x9_1).f1) ((rd_T50 l0 x9_1).f2) ((rd_T50 l0 x9_1).f3)))) = some (r1, r2, r3, r4, r5) := H
              have A10 := Aside0.mk A100
              clear A100
              replace H := Option.bind_eq_some_iff.mp H
              obtain ⟨⟨t152, t153⟩, A110, H⟩ := H
              replace H : (if x8_1 = true then (if t151 = true then (scrimref02_Union.j1 k1 l0 x4_1 x5_1 x6_1 x7_1 t153 x9_1 t150 t152 ((rd_T50 l0 x9_1).f0) ((rd_T50 l0 x9_1).f1) ((rd_T50 l0 x9_1).f2) ((rd_T50 l0 x9_1).f3)) else (scrimref02_Union.j1 k1 l0 x4_1 x5_1 x6_1 x7_1 false x9_1 t150 t152 ((rd_T50 l0 x9_1).f0) ((rd_T50 l0 x9_1).f1) ((rd_T50 l0 x9_1).f2) ((rd_T50 l0 x9_1).f3))) else (scrimref02_Union.j1 k1 l0 x4_1 x5_1 x6_1 x7_1 false x9_1 t150 t152 ((rd_T50 l0 x9_1).f0) ((rd_T50 l0 x9_1).f1) ((rd_T50 l0 x9_1).f2) ((rd_T50 l0 x9_1).f3))) = some (r1, r2, r3, r4, r5) := H
              have A11 := Aside0.mk A110
              clear A110
              have HC12 := Aside0.mk H
              clear H
              have p147 : 0 ≤ (x9_1 : Int) := of_decide_eq_true (by first | (with_reducible assumption) | assumption)
              have q147 : x9_1 < (l0.length : Int) := of_decide_eq_true (by first | (with_reducible assumption) | assumption)
              obtain ⟨ad147, e147, hx147_0, hx147_1, hx147_2, hx147_3⟩ := at_T50 HR0.out x9_1 p147 q147
              cases e147
              replace hx147_0 := (HB.out.cell (World.block_lt_of_cell? w _ hx147_0)).trans hx147_0
              replace hx147_1 := (HB.out.cell (World.block_lt_of_cell? w _ hx147_1)).trans hx147_1
              replace hx147_2 := (HB.out.cell (World.block_lt_of_cell? w _ hx147_2)).trans hx147_2
              replace hx147_3 := (HB.out.cell (World.block_lt_of_cell? w _ hx147_3)).trans hx147_3
              replace p147 := eq_true p147
              replace q147 := eq_true q147
              go_upto_region 16 with (first | ((with_reducible refine gate_dst (N := 10) rfl ?_); refine box_event ?hg (N := 10) ?hd (cs := #[.int .i64 0, .int .i64 0, .int .i64 0, .int .i64 0]) (t := 50) ?hr ?_; (case hd => rfl); (case hg => rfl); (case hr => first | (go_simp; done) | (go_simp; rfl)); intro gb148 hg w13 hbox hb; have n0_ := Aside0.mk (blk_below (g := gb142) (o := .cells #[.int .i64 x143000_1, .int .i64 x143001_1, .int .i64 x143002_1, .int .i64 x143003_1] 50 (0, 0)) (by (with_reducible repeat (first | refine blk_drewN ?_ _ | refine blk_drew ?_ | refine blk_alloc ?_ _)); exact BK142.out) hb); have n1_ := Aside0.mk (below_step (by repeat (first | (with_reducible first | exact HB.out | apply below_alloc | apply pw_below_drewN | apply below_drew1 | refine below_set ?_ GE142.out) | exact HB.out)) hb); have n2_ := Aside0.mk (hbox); have n3_ := Aside0.mk ((by rw [hg]; exact (below_size (by repeat (first | (with_reducible first | exact HB.out | apply below_alloc | apply pw_below_drewN | apply below_drew1 | refine below_set ?_ GE142.out) | exact HB.out))) : w.heap.size ≤ gb148)); have n4_ := Aside0.mk ((by rw [hg]; exact (below_size (by repeat (first | (with_reducible first | exact HB.out | apply below_alloc | apply pw_below_drewN | apply below_drew1 | refine below_set ?_ GE142.out) | exact HB.out))) : w.heap.size ≤ gb148)); have n5_ := Aside0.mk ((by rw [hg]; exact Nat.ne_of_lt (blk_lt (g := gb142) (o := .cells #[.int .i64 x143000_1, .int .i64 x143001_1, .int .i64 x143002_1, .int .i64 x143003_1] 50 (0, 0)) (by (with_reducible repeat (first | refine blk_drewN ?_ _ | refine blk_drew ?_ | refine blk_alloc ?_ _)); exact BK142.out)) : gb142 ≠ gb148)); have n6_ := Aside0.mk ((by rw [hg]; exact Nat.ne_of_gt (blk_lt (g := gb142) (o := .cells #[.int .i64 x143000_1, .int .i64 x143001_1, .int .i64 x143002_1, .int .i64 x143003_1] 50 (0, 0)) (by (with_reducible repeat (first | refine blk_drewN ?_ _ | refine blk_drew ?_ | refine blk_alloc ?_ _)); exact BK142.out)) : gb148 ≠ gb142)); clear BK142; clear HB; have BK142 := n0_; have HB := n1_; have BK148 := n2_; have GW148 := n3_; have GE148 := n4_; have NB142_148 := n5_; have NB148_142 := n6_; clear n0_ n1_ n2_ n3_ n4_ n5_ n6_; clear hb hbox hg; have hnb14 := NB148_142.out; have hnc14 := NB142_148.out; have hcz15_0 : w13.cell? ⟨gb148, 0, none⟩ = some (.int .i64 0) := (blk_cell BK148.out 0).trans rfl; have hcz15_1 : w13.cell? ⟨gb148, 1, none⟩ = some (.int .i64 0) := (blk_cell BK148.out 1).trans rfl; have hcz15_2 : w13.cell? ⟨gb148, 2, none⟩ = some (.int .i64 0) := (blk_cell BK148.out 2).trans rfl; have hcz15_3 : w13.cell? ⟨gb148, 3, none⟩ = some (.int .i64 0) := (blk_cell BK148.out 3).trans rfl; have hfz15_0 := blk_frozen BK148.out 0; have hfz15_1 := blk_frozen BK148.out 1; have hfz15_2 := blk_frozen BK148.out 2; have hfz15_3 := blk_frozen BK148.out 3) | ((with_reducible refine gate_callee (f := 35) rfl ?_); refine goesL_ (some 34) rfl rfl Try.func35 (by kernel_rfl) rfl #[.agg #[.int .i64 ((rd_T50 l0 x9_1).f0), .int .i64 ((rd_T50 l0 x9_1).f1), .int .i64 ((rd_T50 l0 x9_1).f2), .int .i64 ((rd_T50 l0 x9_1).f3)]] rfl (by (try simp only [List.map_toArray, List.map_cons, List.map_nil]); first | done | rfl | (simp only [List.length_drop, List.length_take]; rfl)) ?_; (with_reducible refine (scrimref02_May.calls ((rd_T50 l0 x9_1).f0) ((rd_T50 l0 x9_1).f1) ((rd_T50 l0 x9_1).f2) ((rd_T50 l0 x9_1).f3) true _ A8.out).mono ?_); rintro e w16 ⟨rfl, hb⟩; refine ⟨_, rfl, ?_⟩; have n0_ := Aside0.mk (blk_below (g := gb142) (o := .cells #[.int .i64 x143000_1, .int .i64 x143001_1, .int .i64 x143002_1, .int .i64 x143003_1] 50 (0, 0)) (by (with_reducible repeat (first | refine blk_drewN ?_ _ | refine blk_drew ?_ | refine blk_alloc ?_ _)); refine blk_far ?_ NB142_148.out _; (with_reducible repeat (first | refine blk_drewN ?_ _ | refine blk_drew ?_ | refine blk_alloc ?_ _)); refine blk_far ?_ NB142_148.out _; (with_reducible repeat (first | refine blk_drewN ?_ _ | refine blk_drew ?_ | refine blk_alloc ?_ _)); refine blk_far ?_ NB142_148.out _; (with_reducible repeat (first | refine blk_drewN ?_ _ | refine blk_drew ?_ | refine blk_alloc ?_ _)); refine blk_far ?_ NB142_148.out _; (with_reducible repeat (first | refine blk_drewN ?_ _ | refine blk_drew ?_ | refine blk_alloc ?_ _)); exact BK142.out) hb); have n1_ := Aside0.mk (blk_below (g := gb148) (o := .cells #[.int .i64 ((rd_T50 l0 x9_1).f0), .int .i64 ((rd_T50 l0 x9_1).f1), .int .i64 ((rd_T50 l0 x9_1).f2), .int .i64 ((rd_T50 l0 x9_1).f3)] 50 (0, 0)) (by (with_reducible repeat (first | refine blk_drewN ?_ _ | refine blk_drew ?_ | refine blk_alloc ?_ _)); refine blk_put (cs := #[.int .i64 ((rd_T50 l0 x9_1).f0), .int .i64 ((rd_T50 l0 x9_1).f1), .int .i64 ((rd_T50 l0 x9_1).f2), .int .i64 0]) ?_ 3 _ rfl; (with_reducible repeat (first | refine blk_drewN ?_ _ | refine blk_drew ?_ | refine blk_alloc ?_ _)); refine blk_put (cs := #[.int .i64 ((rd_T50 l0 x9_1).f0), .int .i64 ((rd_T50 l0 x9_1).f1), .int .i64 0, .int .i64 0]) ?_ 2 _ rfl; (with_reducible repeat (first | refine blk_drewN ?_ _ | refine blk_drew ?_ | refine blk_alloc ?_ _)); refine blk_put (cs := #[.int .i64 ((rd_T50 l0 x9_1).f0), .int .i64 0, .int .i64 0, .int .i64 0]) ?_ 1 _ rfl; (with_reducible repeat (first | refine blk_drewN ?_ _ | refine blk_drew ?_ | refine blk_alloc ?_ _)); refine blk_put (cs := #[.int .i64 0, .int .i64 0, .int .i64 0, .int .i64 0]) ?_ 0 _ rfl; (with_reducible repeat (first | refine blk_drewN ?_ _ | refine blk_drew ?_ | refine blk_alloc ?_ _)); exact BK148.out) hb); have n2_ := Aside0.mk (below_step (by repeat (first | (with_reducible first | exact HB.out | apply below_alloc | apply pw_below_drewN | apply below_drew1 | refine below_set ?_ GE142.out | refine below_set ?_ GE148.out) | exact HB.out)) hb); clear BK142; clear BK148; clear HB; have BK142 := n0_; have BK148 := n1_; have HB := n2_; clear n0_ n1_ n2_; (try clear hb); (try clear hb2); (try clear hk); (try clear hi); have hcz17_0 : w16.cell? ⟨gb148, 0, none⟩ = some (.int .i64 ((rd_T50 l0 x9_1).f0)) := (blk_cell BK148.out 0).trans rfl; have hcz17_1 : w16.cell? ⟨gb148, 1, none⟩ = some (.int .i64 ((rd_T50 l0 x9_1).f1)) := (blk_cell BK148.out 1).trans rfl; have hcz17_2 : w16.cell? ⟨gb148, 2, none⟩ = some (.int .i64 ((rd_T50 l0 x9_1).f2)) := (blk_cell BK148.out 2).trans rfl; have hcz17_3 : w16.cell? ⟨gb148, 3, none⟩ = some (.int .i64 ((rd_T50 l0 x9_1).f3)) := (blk_cell BK148.out 3).trans rfl; have hfz17_0 := blk_frozen BK148.out 0; have hfz17_1 := blk_frozen BK148.out 1; have hfz17_2 := blk_frozen BK148.out 2; have hfz17_3 := blk_frozen BK148.out 3) | ((with_reducible refine gate_callee (f := 43) rfl ?_); refine goesL_ (some 42) rfl rfl Try.func43 (by kernel_rfl) rfl #[.int .i64 ((rd_T50 l0 x9_1).f0), .int .i64 ((rd_T50 l0 x9_1).f2)] rfl (by (try simp only [List.map_toArray, List.map_cons, List.map_nil]); first | done | rfl | (simp only [List.length_drop, List.length_take]; rfl)) ?_; (with_reducible refine (scrimref01_Add.calls ((rd_T50 l0 x9_1).f0) ((rd_T50 l0 x9_1).f2) t150 t151 _ A10.out).mono ?_); rintro e w' ⟨rfl, ⟨nd, rfl⟩⟩; refine ⟨_, rfl, ?_⟩) | ((with_reducible refine gate_callee (f := 43) rfl ?_); refine goesL_ (some 50) rfl rfl Try.func43 (by kernel_rfl) rfl #[.int .i64 ((rd_T50 l0 x9_1).f1), .int .i64 ((rd_T50 l0 x9_1).f3)] rfl (by (try simp only [List.map_toArray, List.map_cons, List.map_nil]); first | done | rfl | (simp only [List.length_drop, List.length_take]; rfl)) ?_; (with_reducible refine (scrimref01_Add.calls ((rd_T50 l0 x9_1).f1) ((rd_T50 l0 x9_1).f3) t152 t153 _ A11.out).mono ?_); rintro e w' ⟨rfl, ⟨nd, rfl⟩⟩; refine ⟨_, rfl, ?_⟩))
              (try simp only [Act.put, List.setIfInBounds_toArray, List.set_cons_zero, List.set_cons_succ])
              go_cut [8] (fun v8 wc => ∃ (kq : Nat) (x8_11 : Bool), v8 = .bool x8_11 ∧ Aside0 (scrimref02_Union.j1 kq l0 x4_1 x5_1 x6_1 x7_1 x8_11 x9_1 t150 t152 ((rd_T50 l0 x9_1).f0) ((rd_T50 l0 x9_1).f1) ((rd_T50 l0 x9_1).f2) ((rd_T50 l0 x9_1).f3) = some (r1, r2, r3, r4, r5)) ∧ Aside0 (kq ≤ k1) ∧ Aside0 (wc.heap[gb142]? = some (.cells #[.int .i64 x143000_1, .int .i64 x143001_1, .int .i64 x143002_1, .int .i64 x143003_1] 50 (0, 0))) ∧ Aside0 (wc.heap[gb148]? = some (.cells #[.int .i64 ((rd_T50 l0 x9_1).f0), .int .i64 ((rd_T50 l0 x9_1).f1), .int .i64 ((rd_T50 l0 x9_1).f2), .int .i64 ((rd_T50 l0 x9_1).f3)] 50 (0, 0))) ∧ Aside0 (Below w.heap.size w wc))
              case first =>
                have H := HC12.out
                clear HC12
                by_cases c18 : x8_1 = true
                · subst c18
                  have H1 : (if t151 = true then (scrimref02_Union.j1 k1 l0 x4_1 x5_1 x6_1 x7_1 t153 x9_1 t150 t152 ((rd_T50 l0 x9_1).f0) ((rd_T50 l0 x9_1).f1) ((rd_T50 l0 x9_1).f2) ((rd_T50 l0 x9_1).f3)) else (scrimref02_Union.j1 k1 l0 x4_1 x5_1 x6_1 x7_1 false x9_1 t150 t152 ((rd_T50 l0 x9_1).f0) ((rd_T50 l0 x9_1).f1) ((rd_T50 l0 x9_1).f2) ((rd_T50 l0 x9_1).f3))) = some (r1, r2, r3, r4, r5) := by rw [if_pos rfl] at H; exact H
                  clear H
                  have H := H1
                  clear H1
                  by_cases c19 : t151 = true
                  · subst c19
                    have H1 : (scrimref02_Union.j1 k1 l0 x4_1 x5_1 x6_1 x7_1 t153 x9_1 t150 t152 ((rd_T50 l0 x9_1).f0) ((rd_T50 l0 x9_1).f1) ((rd_T50 l0 x9_1).f2) ((rd_T50 l0 x9_1).f3)) = some (r1, r2, r3, r4, r5) := by rw [if_pos rfl] at H; exact H
                    clear H
                    have H := H1
                    clear H1
                    have H' := Aside0.mk H
                    clear H
                    go_wp2
                    go_meet
                    case rel => exact ⟨_, (t153), (by first | rfl | (simp; done) | (simp [*]; done)), H', ⟨by have := HK1.out; first | omega | exact Nat.le_refl _⟩, ⟨by (with_reducible repeat (first | refine blk_drewN ?_ _ | refine blk_drew ?_ | refine blk_alloc ?_ _)); exact BK142.out⟩, ⟨by (with_reducible repeat (first | refine blk_drewN ?_ _ | refine blk_drew ?_ | refine blk_alloc ?_ _)); exact BK148.out⟩, ⟨by repeat (first | (with_reducible first | exact HB.out | apply below_alloc | apply pw_below_drewN | apply below_drew1 | refine below_set ?_ GE142.out | refine below_set ?_ GE148.out) | exact HB.out)⟩⟩
                  · replace c19 := Bool.eq_false_iff.mpr c19
                    subst c19
                    have H1 : (scrimref02_Union.j1 k1 l0 x4_1 x5_1 x6_1 x7_1 false x9_1 t150 t152 ((rd_T50 l0 x9_1).f0) ((rd_T50 l0 x9_1).f1) ((rd_T50 l0 x9_1).f2) ((rd_T50 l0 x9_1).f3)) = some (r1, r2, r3, r4, r5) := by rw [if_neg (show ¬ (false = true) by decide)] at H; exact H
                    clear H
                    have H := H1
                    clear H1
                    have H' := Aside0.mk H
                    clear H
                    go_wp2
                    go_meet
                    case rel => exact ⟨_, (false), (by first | rfl | (simp; done) | (simp [*]; done)), H', ⟨by have := HK1.out; first | omega | exact Nat.le_refl _⟩, ⟨by (with_reducible repeat (first | refine blk_drewN ?_ _ | refine blk_drew ?_ | refine blk_alloc ?_ _)); exact BK142.out⟩, ⟨by (with_reducible repeat (first | refine blk_drewN ?_ _ | refine blk_drew ?_ | refine blk_alloc ?_ _)); exact BK148.out⟩, ⟨by repeat (first | (with_reducible first | exact HB.out | apply below_alloc | apply pw_below_drewN | apply below_drew1 | refine below_set ?_ GE142.out | refine below_set ?_ GE148.out) | exact HB.out)⟩⟩
                · replace c18 := Bool.eq_false_iff.mpr c18
                  subst c18
                  have H1 : (scrimref02_Union.j1 k1 l0 x4_1 x5_1 x6_1 x7_1 false x9_1 t150 t152 ((rd_T50 l0 x9_1).f0) ((rd_T50 l0 x9_1).f1) ((rd_T50 l0 x9_1).f2) ((rd_T50 l0 x9_1).f3)) = some (r1, r2, r3, r4, r5) := by rw [if_neg (show ¬ (false = true) by decide)] at H; exact H
                  clear H
                  have H := H1
                  clear H1
                  have H' := Aside0.mk H
                  clear H
                  go_wp2
                  go_meet
                  case rel => exact ⟨_, (false), (by first | rfl | (simp; done) | (simp [*]; done)), H', ⟨by have := HK1.out; first | omega | exact Nat.le_refl _⟩, ⟨by (with_reducible repeat (first | refine blk_drewN ?_ _ | refine blk_drew ?_ | refine blk_alloc ?_ _)); exact BK142.out⟩, ⟨by (with_reducible repeat (first | refine blk_drewN ?_ _ | refine blk_drew ?_ | refine blk_alloc ?_ _)); exact BK148.out⟩, ⟨by repeat (first | (with_reducible first | exact HB.out | apply below_alloc | apply pw_below_drewN | apply below_drew1 | refine below_set ?_ GE142.out | refine below_set ?_ GE148.out) | exact HB.out)⟩⟩
              case rest =>
                clear HC12
                try clear c1
                try clear p1
                try clear q1
                try clear hx1
                try clear c2
                try clear c2b0
                try clear c2b1
                try clear c2b2
                try clear p2
                try clear c3
                try clear c4
                try clear c6
                try clear c6b0
                try clear c7
                try clear c7b0
                try clear c9
                try clear c14
                try clear p14
                try clear q14
                try clear hx14
                try clear c18
                try clear c19
                try clear hcz15_0
                try clear hcz15_1
                try clear hcz15_2
                try clear hcz15_3
                try clear hcz17_0
                try clear hcz17_1
                try clear hcz17_2
                try clear hcz17_3
                try clear hcz4_0
                try clear hcz4_1
                try clear hcz4_2
                try clear hcz4_3
                try clear hfz15_0
                try clear hfz15_1
                try clear hfz15_2
                try clear hfz15_3
                try clear hfz17_0
                try clear hfz17_1
                try clear hfz17_2
                try clear hfz17_3
                try clear hfz4_0
                try clear hfz4_1
                try clear hfz4_2
                try clear hfz4_3
                try clear hx147_0
                try clear hx147_1
                try clear hx147_2
                try clear hx147_3
                try clear p147
                try clear p2
                try clear q147
                obtain ⟨kq, x8_11, rfl, HA, HJ11, BK142, BK148, HB⟩ := hcut
                cases kq with
                | zero => exact absurd HA.out (by simp [scrimref02_Union.j1])
                | succ kj11 =>
                  have H := HA.out
                  clear HA
                  simp only [scrimref02_Union.j1] at H
                  have HC20 := Aside0.mk H
                  clear H
                  go_upto_region 17 with (fail)
                  go_cut [67] (fun v67 wc => ∃ (kq : Nat) (x67_19 : Bool), v67 = .bool x67_19 ∧ Aside0 (scrimref02_Union.j2 kq l0 x4_1 x5_1 x6_1 x7_1 x8_11 x9_1 t150 t152 x67_19 ((rd_T50 l0 x9_1).f0) ((rd_T50 l0 x9_1).f1) ((rd_T50 l0 x9_1).f2) ((rd_T50 l0 x9_1).f3) = some (r1, r2, r3, r4, r5)) ∧ Aside0 (kq ≤ kj11) ∧ Aside0 (wc.heap[gb142]? = some (.cells #[.int .i64 x143000_1, .int .i64 x143001_1, .int .i64 x143002_1, .int .i64 x143003_1] 50 (0, 0))) ∧ Aside0 (wc.heap[gb148]? = some (.cells #[.int .i64 ((rd_T50 l0 x9_1).f0), .int .i64 ((rd_T50 l0 x9_1).f1), .int .i64 ((rd_T50 l0 x9_1).f2), .int .i64 ((rd_T50 l0 x9_1).f3)] 50 (0, 0))) ∧ Aside0 (Below w.heap.size w wc))
                  case first =>
                    have H := HC20.out
                    clear HC20
                    by_cases c21 : x9_1 = 0
                    · rw [if_pos c21] at H
                      have c21b0 : (x9_1 == 0) = true := beq_iff_eq.mpr c21
                      have c21b1 : (x9_1 != 0) = false := bne_eq_false_iff_eq.mpr c21
                      clear c21
                      (first | rw [c21b0] | (simp only [i64_w, i32_w]; rw [c21b0]) | skip)
                      have H' := Aside0.mk H
                      clear H
                      go_wp2
                      go_meet
                      case rel => exact ⟨_, (true), (by first | rfl | (simp; done) | (simp [*]; done)), H', ⟨by have := HK1.out; have := HJ11.out; first | omega | exact Nat.le_refl _⟩, ⟨by (with_reducible repeat (first | refine blk_drewN ?_ _ | refine blk_drew ?_ | refine blk_alloc ?_ _)); exact BK142.out⟩, ⟨by (with_reducible repeat (first | refine blk_drewN ?_ _ | refine blk_drew ?_ | refine blk_alloc ?_ _)); exact BK148.out⟩, ⟨by repeat (first | (with_reducible first | exact HB.out | apply below_alloc | apply pw_below_drewN | apply below_drew1 | refine below_set ?_ GE142.out | refine below_set ?_ GE148.out) | exact HB.out)⟩⟩
                    · rw [if_neg c21] at H
                      have c21b0 : (x9_1 == 0) = false := beq_eq_false_iff_ne.mpr c21
                      have c21b1 : (x9_1 != 0) = true := bne_iff_ne.mpr c21
                      (first | rw [c21b0] | (simp only [i64_w, i32_w]; rw [c21b0]) | skip)
                      have H' := Aside0.mk H
                      clear H
                      have hnb22 := NB148_142.out
                      have hnc22 := NB142_148.out
                      have hcz23_0 : wc.cell? ⟨gb148, 0, none⟩ = some (.int .i64 ((rd_T50 l0 x9_1).f0)) := (blk_cell BK148.out 0).trans rfl
                      have hcz23_1 : wc.cell? ⟨gb148, 1, none⟩ = some (.int .i64 ((rd_T50 l0 x9_1).f1)) := (blk_cell BK148.out 1).trans rfl
                      have hcz23_2 : wc.cell? ⟨gb148, 2, none⟩ = some (.int .i64 ((rd_T50 l0 x9_1).f2)) := (blk_cell BK148.out 2).trans rfl
                      have hcz23_3 : wc.cell? ⟨gb148, 3, none⟩ = some (.int .i64 ((rd_T50 l0 x9_1).f3)) := (blk_cell BK148.out 3).trans rfl
                      have hfz23_0 := blk_frozen BK148.out 0
                      have hfz23_1 := blk_frozen BK148.out 1
                      have hfz23_2 := blk_frozen BK148.out 2
                      have hfz23_3 := blk_frozen BK148.out 3
                      go_wp2
                      go_meet
                      case rel => exact ⟨_, (decide (((rd_T50 l0 x9_1).f0) < x4_1)), (by first | rfl | (simp; done) | (simp [*]; done)), H', ⟨by have := HK1.out; have := HJ11.out; first | omega | exact Nat.le_refl _⟩, ⟨by (with_reducible repeat (first | refine blk_drewN ?_ _ | refine blk_drew ?_ | refine blk_alloc ?_ _)); exact BK142.out⟩, ⟨by (with_reducible repeat (first | refine blk_drewN ?_ _ | refine blk_drew ?_ | refine blk_alloc ?_ _)); exact BK148.out⟩, ⟨by repeat (first | (with_reducible first | exact HB.out | apply below_alloc | apply pw_below_drewN | apply below_drew1 | refine below_set ?_ GE142.out | refine below_set ?_ GE148.out) | exact HB.out)⟩⟩
                  case rest =>
                    clear HC20
                    try clear c1
                    try clear p1
                    try clear q1
                    try clear hx1
                    try clear c2
                    try clear c2b0
                    try clear c2b1
                    try clear c2b2
                    try clear p2
                    try clear c3
                    try clear c4
                    try clear c6
                    try clear c6b0
                    try clear c7
                    try clear c7b0
                    try clear c9
                    try clear c14
                    try clear p14
                    try clear q14
                    try clear hx14
                    try clear c18
                    try clear c19
                    try clear c21
                    try clear c21b0
                    try clear c21b1
                    try clear c22
                    try clear hcz15_0
                    try clear hcz15_1
                    try clear hcz15_2
                    try clear hcz15_3
                    try clear hcz17_0
                    try clear hcz17_1
                    try clear hcz17_2
                    try clear hcz17_3
                    try clear hcz23_0
                    try clear hcz23_1
                    try clear hcz23_2
                    try clear hcz23_3
                    try clear hcz4_0
                    try clear hcz4_1
                    try clear hcz4_2
                    try clear hcz4_3
                    try clear hfz15_0
                    try clear hfz15_1
                    try clear hfz15_2
                    try clear hfz15_3
                    try clear hfz17_0
                    try clear hfz17_1
                    try clear hfz17_2
                    try clear hfz17_3
                    try clear hfz23_0
                    try clear hfz23_1
                    try clear hfz23_2
                    try clear hfz23_3
                    try clear hfz4_0
                    try clear hfz4_1
                    try clear hfz4_2
                    try clear hfz4_3
                    try clear hx147_0
                    try clear hx147_1
                    try clear hx147_2
                    try clear hx147_3
                    try clear p1
                    try clear p14
                    try clear p147
                    try clear p2
                    try clear q1
                    try clear q14
                    try clear q147
                    obtain ⟨kq, x67_19, rfl, HA, HJ19, BK142, BK148, HB⟩ := hcut
                    cases kq with
                    | zero => exact absurd HA.out (by simp [scrimref02_Union.j2])
                    | succ kj19 =>
                      have H := HA.out
                      clear HA
                      simp only [scrimref02_Union.j2] at H
                      have HC24 := Aside0.mk H
                      clear H
                      go_upto_if 67 with (fail)
                      go_cut [4] (fun v4 wc => ∃ (kq : Nat) (x4_23 : Int), v4 = .int .i64 x4_23 ∧ Aside0 (scrimref02_Union.j3 kq l0 x4_23 x5_1 x6_1 x7_1 x8_11 x9_1 t150 t152 ((rd_T50 l0 x9_1).f0) ((rd_T50 l0 x9_1).f1) ((rd_T50 l0 x9_1).f2) ((rd_T50 l0 x9_1).f3) = some (r1, r2, r3, r4, r5)) ∧ Aside0 (kq ≤ kj19) ∧ Aside0 (wc.heap[gb142]? = some (.cells #[.int .i64 x143000_1, .int .i64 x143001_1, .int .i64 x143002_1, .int .i64 x143003_1] 50 (0, 0))) ∧ Aside0 (wc.heap[gb148]? = some (.cells #[.int .i64 ((rd_T50 l0 x9_1).f0), .int .i64 ((rd_T50 l0 x9_1).f1), .int .i64 ((rd_T50 l0 x9_1).f2), .int .i64 ((rd_T50 l0 x9_1).f3)] 50 (0, 0))) ∧ Aside0 (Below w.heap.size w wc))
                      case first =>
                        have H := HC24.out
                        clear HC24
                        by_cases c25 : x67_19 = true
                        · subst c25
                          have H1 : (scrimref02_Union.j3 kj19 l0 ((rd_T50 l0 x9_1).f0) x5_1 x6_1 x7_1 x8_11 x9_1 t150 t152 ((rd_T50 l0 x9_1).f0) ((rd_T50 l0 x9_1).f1) ((rd_T50 l0 x9_1).f2) ((rd_T50 l0 x9_1).f3)) = some (r1, r2, r3, r4, r5) := by rw [if_pos rfl] at H; exact H
                          clear H
                          have H := H1
                          clear H1
                          have H' := Aside0.mk H
                          clear H
                          have hnb26 := NB148_142.out
                          have hnc26 := NB142_148.out
                          have hcz27_0 : wc.cell? ⟨gb148, 0, none⟩ = some (.int .i64 ((rd_T50 l0 x9_1).f0)) := (blk_cell BK148.out 0).trans rfl
                          have hcz27_1 : wc.cell? ⟨gb148, 1, none⟩ = some (.int .i64 ((rd_T50 l0 x9_1).f1)) := (blk_cell BK148.out 1).trans rfl
                          have hcz27_2 : wc.cell? ⟨gb148, 2, none⟩ = some (.int .i64 ((rd_T50 l0 x9_1).f2)) := (blk_cell BK148.out 2).trans rfl
                          have hcz27_3 : wc.cell? ⟨gb148, 3, none⟩ = some (.int .i64 ((rd_T50 l0 x9_1).f3)) := (blk_cell BK148.out 3).trans rfl
                          have hfz27_0 := blk_frozen BK148.out 0
                          have hfz27_1 := blk_frozen BK148.out 1
                          have hfz27_2 := blk_frozen BK148.out 2
                          have hfz27_3 := blk_frozen BK148.out 3
                          go_wp2
                          go_meet
                          case rel => exact ⟨_, (((rd_T50 l0 x9_1).f0)), (by first | rfl | (simp; done) | (simp [*]; done)), H', ⟨by have := HK1.out; have := HJ11.out; have := HJ19.out; first | omega | exact Nat.le_refl _⟩, ⟨by (with_reducible repeat (first | refine blk_drewN ?_ _ | refine blk_drew ?_ | refine blk_alloc ?_ _)); exact BK142.out⟩, ⟨by (with_reducible repeat (first | refine blk_drewN ?_ _ | refine blk_drew ?_ | refine blk_alloc ?_ _)); exact BK148.out⟩, ⟨by repeat (first | (with_reducible first | exact HB.out | apply below_alloc | apply pw_below_drewN | apply below_drew1 | refine below_set ?_ GE142.out | refine below_set ?_ GE148.out) | exact HB.out)⟩⟩
                        · replace c25 := Bool.eq_false_iff.mpr c25
                          subst c25
                          have H1 : (scrimref02_Union.j3 kj19 l0 x4_1 x5_1 x6_1 x7_1 x8_11 x9_1 t150 t152 ((rd_T50 l0 x9_1).f0) ((rd_T50 l0 x9_1).f1) ((rd_T50 l0 x9_1).f2) ((rd_T50 l0 x9_1).f3)) = some (r1, r2, r3, r4, r5) := by rw [if_neg (show ¬ (false = true) by decide)] at H; exact H
                          clear H
                          have H := H1
                          clear H1
                          have H' := Aside0.mk H
                          clear H
                          go_wp2
                          go_meet
                          case rel => exact ⟨_, (x4_1), (by first | rfl | (simp; done) | (simp [*]; done)), H', ⟨by have := HK1.out; have := HJ11.out; have := HJ19.out; first | omega | exact Nat.le_refl _⟩, ⟨by (with_reducible repeat (first | refine blk_drewN ?_ _ | refine blk_drew ?_ | refine blk_alloc ?_ _)); exact BK142.out⟩, ⟨by (with_reducible repeat (first | refine blk_drewN ?_ _ | refine blk_drew ?_ | refine blk_alloc ?_ _)); exact BK148.out⟩, ⟨by repeat (first | (with_reducible first | exact HB.out | apply below_alloc | apply pw_below_drewN | apply below_drew1 | refine below_set ?_ GE142.out | refine below_set ?_ GE148.out) | exact HB.out)⟩⟩
                      case rest =>
                        clear HC24
                        try clear c1
                        try clear p1
                        try clear q1
                        try clear hx1
                        try clear c2
                        try clear c2b0
                        try clear c2b1
                        try clear c2b2
                        try clear p2
                        try clear c3
                        try clear c4
                        try clear c6
                        try clear c6b0
                        try clear c7
                        try clear c7b0
                        try clear c9
                        try clear c14
                        try clear p14
                        try clear q14
                        try clear hx14
                        try clear c18
                        try clear c19
                        try clear c21
                        try clear c21b0
                        try clear c21b1
                        try clear c22
                        try clear c25
                        try clear c26
                        try clear hcz15_0
                        try clear hcz15_1
                        try clear hcz15_2
                        try clear hcz15_3
                        try clear hcz17_0
                        try clear hcz17_1
                        try clear hcz17_2
                        try clear hcz17_3
                        try clear hcz23_0
                        try clear hcz23_1
                        try clear hcz23_2
                        try clear hcz23_3
                        try clear hcz27_0
                        try clear hcz27_1
                        try clear hcz27_2
                        try clear hcz27_3
                        try clear hcz4_0
                        try clear hcz4_1
                        try clear hcz4_2
                        try clear hcz4_3
                        try clear hfz15_0
                        try clear hfz15_1
                        try clear hfz15_2
                        try clear hfz15_3
                        try clear hfz17_0
                        try clear hfz17_1
                        try clear hfz17_2
                        try clear hfz17_3
                        try clear hfz23_0
                        try clear hfz23_1
                        try clear hfz23_2
                        try clear hfz23_3
                        try clear hfz27_0
                        try clear hfz27_1
                        try clear hfz27_2
                        try clear hfz27_3
                        try clear hfz4_0
                        try clear hfz4_1
                        try clear hfz4_2
                        try clear hfz4_3
                        try clear hx147_0
                        try clear hx147_1
                        try clear hx147_2
                        try clear hx147_3
                        try clear p1
                        try clear p14
                        try clear p147
                        try clear p2
                        try clear q1
                        try clear q14
                        try clear q147
                        obtain ⟨kq, x4_23, rfl, HA, HJ23, BK142, BK148, HB⟩ := hcut
                        cases kq with
                        | zero => exact absurd HA.out (by simp [scrimref02_Union.j3])
                        | succ kj23 =>
                          have H := HA.out
                          clear HA
                          simp only [scrimref02_Union.j3] at H
                          have HC28 := Aside0.mk H
                          clear H
                          go_upto_region 19 with (fail)
                          go_cut [77] (fun v77 wc => ∃ (kq : Nat) (x77_27 : Bool), v77 = .bool x77_27 ∧ Aside0 (scrimref02_Union.j4 kq l0 x4_23 x5_1 x6_1 x7_1 x8_11 x9_1 t150 t152 x77_27 ((rd_T50 l0 x9_1).f0) ((rd_T50 l0 x9_1).f1) ((rd_T50 l0 x9_1).f2) ((rd_T50 l0 x9_1).f3) = some (r1, r2, r3, r4, r5)) ∧ Aside0 (kq ≤ kj23) ∧ Aside0 (wc.heap[gb142]? = some (.cells #[.int .i64 x143000_1, .int .i64 x143001_1, .int .i64 x143002_1, .int .i64 x143003_1] 50 (0, 0))) ∧ Aside0 (wc.heap[gb148]? = some (.cells #[.int .i64 ((rd_T50 l0 x9_1).f0), .int .i64 ((rd_T50 l0 x9_1).f1), .int .i64 ((rd_T50 l0 x9_1).f2), .int .i64 ((rd_T50 l0 x9_1).f3)] 50 (0, 0))) ∧ Aside0 (Below w.heap.size w wc))
                          case first =>
                            have H := HC28.out
                            clear HC28
                            by_cases c29 : x9_1 = 0
                            · rw [if_pos c29] at H
                              have c29b0 : (x9_1 == 0) = true := beq_iff_eq.mpr c29
                              have c29b1 : (x9_1 != 0) = false := bne_eq_false_iff_eq.mpr c29
                              clear c29
                              (first | rw [c29b0] | (simp only [i64_w, i32_w]; rw [c29b0]) | skip)
                              have H' := Aside0.mk H
                              clear H
                              go_wp2
                              go_meet
                              case rel => exact ⟨_, (true), (by first | rfl | (simp; done) | (simp [*]; done)), H', ⟨by have := HK1.out; have := HJ11.out; have := HJ19.out; have := HJ23.out; first | omega | exact Nat.le_refl _⟩, ⟨by (with_reducible repeat (first | refine blk_drewN ?_ _ | refine blk_drew ?_ | refine blk_alloc ?_ _)); exact BK142.out⟩, ⟨by (with_reducible repeat (first | refine blk_drewN ?_ _ | refine blk_drew ?_ | refine blk_alloc ?_ _)); exact BK148.out⟩, ⟨by repeat (first | (with_reducible first | exact HB.out | apply below_alloc | apply pw_below_drewN | apply below_drew1 | refine below_set ?_ GE142.out | refine below_set ?_ GE148.out) | exact HB.out)⟩⟩
                            · rw [if_neg c29] at H
                              have c29b0 : (x9_1 == 0) = false := beq_eq_false_iff_ne.mpr c29
                              have c29b1 : (x9_1 != 0) = true := bne_iff_ne.mpr c29
                              (first | rw [c29b0] | (simp only [i64_w, i32_w]; rw [c29b0]) | skip)
                              have H' := Aside0.mk H
                              clear H
                              have hnb30 := NB148_142.out
                              have hnc30 := NB142_148.out
                              have hcz31_0 : wc.cell? ⟨gb148, 0, none⟩ = some (.int .i64 ((rd_T50 l0 x9_1).f0)) := (blk_cell BK148.out 0).trans rfl
                              have hcz31_1 : wc.cell? ⟨gb148, 1, none⟩ = some (.int .i64 ((rd_T50 l0 x9_1).f1)) := (blk_cell BK148.out 1).trans rfl
                              have hcz31_2 : wc.cell? ⟨gb148, 2, none⟩ = some (.int .i64 ((rd_T50 l0 x9_1).f2)) := (blk_cell BK148.out 2).trans rfl
                              have hcz31_3 : wc.cell? ⟨gb148, 3, none⟩ = some (.int .i64 ((rd_T50 l0 x9_1).f3)) := (blk_cell BK148.out 3).trans rfl
                              have hfz31_0 := blk_frozen BK148.out 0
                              have hfz31_1 := blk_frozen BK148.out 1
                              have hfz31_2 := blk_frozen BK148.out 2
                              have hfz31_3 := blk_frozen BK148.out 3
                              go_wp2
                              go_meet
                              case rel => exact ⟨_, (decide (((rd_T50 l0 x9_1).f1) < x5_1)), (by first | rfl | (simp; done) | (simp [*]; done)), H', ⟨by have := HK1.out; have := HJ11.out; have := HJ19.out; have := HJ23.out; first | omega | exact Nat.le_refl _⟩, ⟨by (with_reducible repeat (first | refine blk_drewN ?_ _ | refine blk_drew ?_ | refine blk_alloc ?_ _)); exact BK142.out⟩, ⟨by (with_reducible repeat (first | refine blk_drewN ?_ _ | refine blk_drew ?_ | refine blk_alloc ?_ _)); exact BK148.out⟩, ⟨by repeat (first | (with_reducible first | exact HB.out | apply below_alloc | apply pw_below_drewN | apply below_drew1 | refine below_set ?_ GE142.out | refine below_set ?_ GE148.out) | exact HB.out)⟩⟩
                          case rest =>
                            clear HC28
                            try clear c1
                            try clear p1
                            try clear q1
                            try clear hx1
                            try clear c2
                            try clear c2b0
                            try clear c2b1
                            try clear c2b2
                            try clear p2
                            try clear c3
                            try clear c4
                            try clear c6
                            try clear c6b0
                            try clear c7
                            try clear c7b0
                            try clear c9
                            try clear c14
                            try clear p14
                            try clear q14
                            try clear hx14
                            try clear c18
                            try clear c19
                            try clear c21
                            try clear c21b0
                            try clear c21b1
                            try clear c22
                            try clear c25
                            try clear c26
                            try clear c29
                            try clear c29b0
                            try clear c29b1
                            try clear c30
                            try clear c31
                            try clear hcz15_0
                            try clear hcz15_1
                            try clear hcz15_2
                            try clear hcz15_3
                            try clear hcz17_0
                            try clear hcz17_1
                            try clear hcz17_2
                            try clear hcz17_3
                            try clear hcz23_0
                            try clear hcz23_1
                            try clear hcz23_2
                            try clear hcz23_3
                            try clear hcz27_0
                            try clear hcz27_1
                            try clear hcz27_2
                            try clear hcz27_3
                            try clear hcz31_0
                            try clear hcz31_1
                            try clear hcz31_2
                            try clear hcz31_3
                            try clear hcz4_0
                            try clear hcz4_1
                            try clear hcz4_2
                            try clear hcz4_3
                            try clear hfz15_0
                            try clear hfz15_1
                            try clear hfz15_2
                            try clear hfz15_3
                            try clear hfz17_0
                            try clear hfz17_1
                            try clear hfz17_2
                            try clear hfz17_3
                            try clear hfz23_0
                            try clear hfz23_1
                            try clear hfz23_2
                            try clear hfz23_3
                            try clear hfz27_0
                            try clear hfz27_1
                            try clear hfz27_2
                            try clear hfz27_3
                            try clear hfz31_0
                            try clear hfz31_1
                            try clear hfz31_2
                            try clear hfz31_3
                            try clear hfz4_0
                            try clear hfz4_1
                            try clear hfz4_2
                            try clear hfz4_3
                            try clear hx147_0
                            try clear hx147_1
                            try clear hx147_2
                            try clear hx147_3
                            try clear p1
                            try clear p14
                            try clear p147
                            try clear p2
                            try clear q1
                            try clear q14
                            try clear q147
                            obtain ⟨kq, x77_27, rfl, HA, HJ27, BK142, BK148, HB⟩ := hcut
                            cases kq with
                            | zero => exact absurd HA.out (by simp [scrimref02_Union.j4])
                            | succ kj27 =>
                              have H := HA.out
                              clear HA
                              simp only [scrimref02_Union.j4] at H
                              have HC32 := Aside0.mk H
                              clear H
                              go_upto_if 77 with (fail)
                              go_cut [5] (fun v5 wc => ∃ (kq : Nat) (x5_31 : Int), v5 = .int .i64 x5_31 ∧ Aside0 (scrimref02_Union.j5 kq l0 x4_23 x5_31 x6_1 x7_1 x8_11 x9_1 t150 t152 = some (r1, r2, r3, r4, r5)) ∧ Aside0 (kq ≤ kj27) ∧ Aside0 (wc.heap[gb142]? = some (.cells #[.int .i64 x143000_1, .int .i64 x143001_1, .int .i64 x143002_1, .int .i64 x143003_1] 50 (0, 0))) ∧ Aside0 (wc.heap[gb148]? = some (.cells #[.int .i64 ((rd_T50 l0 x9_1).f0), .int .i64 ((rd_T50 l0 x9_1).f1), .int .i64 ((rd_T50 l0 x9_1).f2), .int .i64 ((rd_T50 l0 x9_1).f3)] 50 (0, 0))) ∧ Aside0 (Below w.heap.size w wc))
                              case first =>
                                have H := HC32.out
                                clear HC32
                                by_cases c33 : x77_27 = true
                                · subst c33
                                  have H1 : (scrimref02_Union.j5 kj27 l0 x4_23 ((rd_T50 l0 x9_1).f1) x6_1 x7_1 x8_11 x9_1 t150 t152) = some (r1, r2, r3, r4, r5) := by rw [if_pos rfl] at H; exact H
                                  clear H
                                  have H := H1
                                  clear H1
                                  have H' := Aside0.mk H
                                  clear H
                                  have hnb34 := NB148_142.out
                                  have hnc34 := NB142_148.out
                                  have hcz35_0 : wc.cell? ⟨gb148, 0, none⟩ = some (.int .i64 ((rd_T50 l0 x9_1).f0)) := (blk_cell BK148.out 0).trans rfl
                                  have hcz35_1 : wc.cell? ⟨gb148, 1, none⟩ = some (.int .i64 ((rd_T50 l0 x9_1).f1)) := (blk_cell BK148.out 1).trans rfl
                                  have hcz35_2 : wc.cell? ⟨gb148, 2, none⟩ = some (.int .i64 ((rd_T50 l0 x9_1).f2)) := (blk_cell BK148.out 2).trans rfl
                                  have hcz35_3 : wc.cell? ⟨gb148, 3, none⟩ = some (.int .i64 ((rd_T50 l0 x9_1).f3)) := (blk_cell BK148.out 3).trans rfl
                                  have hfz35_0 := blk_frozen BK148.out 0
                                  have hfz35_1 := blk_frozen BK148.out 1
                                  have hfz35_2 := blk_frozen BK148.out 2
                                  have hfz35_3 := blk_frozen BK148.out 3
                                  go_wp2
                                  go_meet
                                  case rel => exact ⟨_, (((rd_T50 l0 x9_1).f1)), (by first | rfl | (simp; done) | (simp [*]; done)), H', ⟨by have := HK1.out; have := HJ11.out; have := HJ19.out; have := HJ23.out; have := HJ27.out; first | omega | exact Nat.le_refl _⟩, ⟨by (with_reducible repeat (first | refine blk_drewN ?_ _ | refine blk_drew ?_ | refine blk_alloc ?_ _)); exact BK142.out⟩, ⟨by (with_reducible repeat (first | refine blk_drewN ?_ _ | refine blk_drew ?_ | refine blk_alloc ?_ _)); exact BK148.out⟩, ⟨by repeat (first | (with_reducible first | exact HB.out | apply below_alloc | apply pw_below_drewN | apply below_drew1 | refine below_set ?_ GE142.out | refine below_set ?_ GE148.out) | exact HB.out)⟩⟩
                                · replace c33 := Bool.eq_false_iff.mpr c33
                                  subst c33
                                  have H1 : (scrimref02_Union.j5 kj27 l0 x4_23 x5_1 x6_1 x7_1 x8_11 x9_1 t150 t152) = some (r1, r2, r3, r4, r5) := by rw [if_neg (show ¬ (false = true) by decide)] at H; exact H
                                  clear H
                                  have H := H1
                                  clear H1
                                  have H' := Aside0.mk H
                                  clear H
                                  go_wp2
                                  go_meet
                                  case rel => exact ⟨_, (x5_1), (by first | rfl | (simp; done) | (simp [*]; done)), H', ⟨by have := HK1.out; have := HJ11.out; have := HJ19.out; have := HJ23.out; have := HJ27.out; first | omega | exact Nat.le_refl _⟩, ⟨by (with_reducible repeat (first | refine blk_drewN ?_ _ | refine blk_drew ?_ | refine blk_alloc ?_ _)); exact BK142.out⟩, ⟨by (with_reducible repeat (first | refine blk_drewN ?_ _ | refine blk_drew ?_ | refine blk_alloc ?_ _)); exact BK148.out⟩, ⟨by repeat (first | (with_reducible first | exact HB.out | apply below_alloc | apply pw_below_drewN | apply below_drew1 | refine below_set ?_ GE142.out | refine below_set ?_ GE148.out) | exact HB.out)⟩⟩
                              case rest =>
                                clear HC32
                                try clear c1
                                try clear p1
                                try clear q1
                                try clear hx1
                                try clear c2
                                try clear c2b0
                                try clear c2b1
                                try clear c2b2
                                try clear p2
                                try clear c3
                                try clear c4
                                try clear c6
                                try clear c6b0
                                try clear c7
                                try clear c7b0
                                try clear c9
                                try clear c14
                                try clear p14
                                try clear q14
                                try clear hx14
                                try clear c18
                                try clear c19
                                try clear c21
                                try clear c21b0
                                try clear c21b1
                                try clear c22
                                try clear c25
                                try clear c26
                                try clear c29
                                try clear c29b0
                                try clear c29b1
                                try clear c30
                                try clear c31
                                try clear c33
                                try clear c34
                                try clear c35
                                try clear hcz15_0
                                try clear hcz15_1
                                try clear hcz15_2
                                try clear hcz15_3
                                try clear hcz17_0
                                try clear hcz17_1
                                try clear hcz17_2
                                try clear hcz17_3
                                try clear hcz23_0
                                try clear hcz23_1
                                try clear hcz23_2
                                try clear hcz23_3
                                try clear hcz27_0
                                try clear hcz27_1
                                try clear hcz27_2
                                try clear hcz27_3
                                try clear hcz31_0
                                try clear hcz31_1
                                try clear hcz31_2
                                try clear hcz31_3
                                try clear hcz35_0
                                try clear hcz35_1
                                try clear hcz35_2
                                try clear hcz35_3
                                try clear hcz4_0
                                try clear hcz4_1
                                try clear hcz4_2
                                try clear hcz4_3
                                try clear hfz15_0
                                try clear hfz15_1
                                try clear hfz15_2
                                try clear hfz15_3
                                try clear hfz17_0
                                try clear hfz17_1
                                try clear hfz17_2
                                try clear hfz17_3
                                try clear hfz23_0
                                try clear hfz23_1
                                try clear hfz23_2
                                try clear hfz23_3
                                try clear hfz27_0
                                try clear hfz27_1
                                try clear hfz27_2
                                try clear hfz27_3
                                try clear hfz31_0
                                try clear hfz31_1
                                try clear hfz31_2
                                try clear hfz31_3
                                try clear hfz35_0
                                try clear hfz35_1
                                try clear hfz35_2
                                try clear hfz35_3
                                try clear hfz4_0
                                try clear hfz4_1
                                try clear hfz4_2
                                try clear hfz4_3
                                try clear hx147_0
                                try clear hx147_1
                                try clear hx147_2
                                try clear hx147_3
                                try clear p1
                                try clear p14
                                try clear p147
                                try clear p2
                                try clear q1
                                try clear q14
                                try clear q147
                                obtain ⟨kq, x5_31, rfl, HA, HJ31, BK142, BK148, HB⟩ := hcut
                                cases kq with
                                | zero => exact absurd HA.out (by simp [scrimref02_Union.j5])
                                | succ kj31 =>
                                  have H := HA.out
                                  clear HA
                                  simp only [scrimref02_Union.j5] at H
                                  have HC36 := Aside0.mk H
                                  clear H
                                  go_upto_region 21 with (fail)
                                  go_cut [86] (fun v86 wc => ∃ (kq : Nat) (x86_35 : Bool), v86 = .bool x86_35 ∧ Aside0 (scrimref02_Union.j6 kq l0 x4_23 x5_31 x6_1 x7_1 x8_11 x9_1 t150 t152 x86_35 = some (r1, r2, r3, r4, r5)) ∧ Aside0 (kq ≤ kj31) ∧ Aside0 (wc.heap[gb142]? = some (.cells #[.int .i64 x143000_1, .int .i64 x143001_1, .int .i64 x143002_1, .int .i64 x143003_1] 50 (0, 0))) ∧ Aside0 (wc.heap[gb148]? = some (.cells #[.int .i64 ((rd_T50 l0 x9_1).f0), .int .i64 ((rd_T50 l0 x9_1).f1), .int .i64 ((rd_T50 l0 x9_1).f2), .int .i64 ((rd_T50 l0 x9_1).f3)] 50 (0, 0))) ∧ Aside0 (Below w.heap.size w wc))
                                  case first =>
                                    have H := HC36.out
                                    clear HC36
                                    by_cases c37 : x9_1 = 0
                                    · rw [if_pos c37] at H
                                      have c37b0 : (x9_1 == 0) = true := beq_iff_eq.mpr c37
                                      have c37b1 : (x9_1 != 0) = false := bne_eq_false_iff_eq.mpr c37
                                      clear c37
                                      (first | rw [c37b0] | (simp only [i64_w, i32_w]; rw [c37b0]) | skip)
                                      have H' := Aside0.mk H
                                      clear H
                                      go_wp2
                                      go_meet
                                      case rel => exact ⟨_, (true), (by first | rfl | (simp; done) | (simp [*]; done)), H', ⟨by have := HK1.out; have := HJ11.out; have := HJ19.out; have := HJ23.out; have := HJ27.out; have := HJ31.out; first | omega | exact Nat.le_refl _⟩, ⟨by (with_reducible repeat (first | refine blk_drewN ?_ _ | refine blk_drew ?_ | refine blk_alloc ?_ _)); exact BK142.out⟩, ⟨by (with_reducible repeat (first | refine blk_drewN ?_ _ | refine blk_drew ?_ | refine blk_alloc ?_ _)); exact BK148.out⟩, ⟨by repeat (first | (with_reducible first | exact HB.out | apply below_alloc | apply pw_below_drewN | apply below_drew1 | refine below_set ?_ GE142.out | refine below_set ?_ GE148.out) | exact HB.out)⟩⟩
                                    · rw [if_neg c37] at H
                                      have c37b0 : (x9_1 == 0) = false := beq_eq_false_iff_ne.mpr c37
                                      have c37b1 : (x9_1 != 0) = true := bne_iff_ne.mpr c37
                                      (first | rw [c37b0] | (simp only [i64_w, i32_w]; rw [c37b0]) | skip)
                                      have H' := Aside0.mk H
                                      clear H
                                      go_wp2
                                      go_meet
                                      case rel => exact ⟨_, (decide (t150 > x6_1)), (by first | rfl | (simp; done) | (simp [*]; done)), H', ⟨by have := HK1.out; have := HJ11.out; have := HJ19.out; have := HJ23.out; have := HJ27.out; have := HJ31.out; first | omega | exact Nat.le_refl _⟩, ⟨by (with_reducible repeat (first | refine blk_drewN ?_ _ | refine blk_drew ?_ | refine blk_alloc ?_ _)); exact BK142.out⟩, ⟨by (with_reducible repeat (first | refine blk_drewN ?_ _ | refine blk_drew ?_ | refine blk_alloc ?_ _)); exact BK148.out⟩, ⟨by repeat (first | (with_reducible first | exact HB.out | apply below_alloc | apply pw_below_drewN | apply below_drew1 | refine below_set ?_ GE142.out | refine below_set ?_ GE148.out) | exact HB.out)⟩⟩
                                  case rest =>
                                    clear HC36
                                    try clear c1
                                    try clear p1
                                    try clear q1
                                    try clear hx1
                                    try clear c2
                                    try clear c2b0
                                    try clear c2b1
                                    try clear c2b2
                                    try clear p2
                                    try clear c3
                                    try clear c4
                                    try clear c6
                                    try clear c6b0
                                    try clear c7
                                    try clear c7b0
                                    try clear c9
                                    try clear c14
                                    try clear p14
                                    try clear q14
                                    try clear hx14
                                    try clear c18
                                    try clear c19
                                    try clear c21
                                    try clear c21b0
                                    try clear c21b1
                                    try clear c22
                                    try clear c25
                                    try clear c26
                                    try clear c29
                                    try clear c29b0
                                    try clear c29b1
                                    try clear c30
                                    try clear c31
                                    try clear c33
                                    try clear c34
                                    try clear c35
                                    try clear c37
                                    try clear c37b0
                                    try clear c37b1
                                    try clear hcz15_0
                                    try clear hcz15_1
                                    try clear hcz15_2
                                    try clear hcz15_3
                                    try clear hcz17_0
                                    try clear hcz17_1
                                    try clear hcz17_2
                                    try clear hcz17_3
                                    try clear hcz23_0
                                    try clear hcz23_1
                                    try clear hcz23_2
                                    try clear hcz23_3
                                    try clear hcz27_0
                                    try clear hcz27_1
                                    try clear hcz27_2
                                    try clear hcz27_3
                                    try clear hcz31_0
                                    try clear hcz31_1
                                    try clear hcz31_2
                                    try clear hcz31_3
                                    try clear hcz35_0
                                    try clear hcz35_1
                                    try clear hcz35_2
                                    try clear hcz35_3
                                    try clear hcz4_0
                                    try clear hcz4_1
                                    try clear hcz4_2
                                    try clear hcz4_3
                                    try clear hfz15_0
                                    try clear hfz15_1
                                    try clear hfz15_2
                                    try clear hfz15_3
                                    try clear hfz17_0
                                    try clear hfz17_1
                                    try clear hfz17_2
                                    try clear hfz17_3
                                    try clear hfz23_0
                                    try clear hfz23_1
                                    try clear hfz23_2
                                    try clear hfz23_3
                                    try clear hfz27_0
                                    try clear hfz27_1
                                    try clear hfz27_2
                                    try clear hfz27_3
                                    try clear hfz31_0
                                    try clear hfz31_1
                                    try clear hfz31_2
                                    try clear hfz31_3
                                    try clear hfz35_0
                                    try clear hfz35_1
                                    try clear hfz35_2
                                    try clear hfz35_3
                                    try clear hfz4_0
                                    try clear hfz4_1
                                    try clear hfz4_2
                                    try clear hfz4_3
                                    try clear hx147_0
                                    try clear hx147_1
                                    try clear hx147_2
                                    try clear hx147_3
                                    try clear p1
                                    try clear p14
                                    try clear p147
                                    try clear p2
                                    try clear q1
                                    try clear q14
                                    try clear q147
                                    obtain ⟨kq, x86_35, rfl, HA, HJ35, BK142, BK148, HB⟩ := hcut
                                    cases kq with
                                    | zero => exact absurd HA.out (by simp [scrimref02_Union.j6])
                                    | succ kj35 =>
                                      have H := HA.out
                                      clear HA
                                      simp only [scrimref02_Union.j6] at H
                                      by_cases c38 : x86_35 = true
                                      · subst c38
                                        have H1 : (if x9_1 = 0 then (scrimref02_Union.l0 kj35 l0 x4_23 x5_31 t150 t152 x8_11 (wrap64 (x9_1 + 1))) else (if t152 > x7_1 then (scrimref02_Union.l0 kj35 l0 x4_23 x5_31 t150 t152 x8_11 (wrap64 (x9_1 + 1))) else (scrimref02_Union.l0 kj35 l0 x4_23 x5_31 t150 x7_1 x8_11 (wrap64 (x9_1 + 1))))) = some (r1, r2, r3, r4, r5) := by rw [if_pos rfl] at H; exact H
                                        clear H
                                        have H := H1
                                        clear H1
                                        by_cases c39 : x9_1 = 0
                                        · rw [if_pos c39] at H
                                          have c39b0 : (x9_1 == 0) = true := beq_iff_eq.mpr c39
                                          have c39b1 : (x9_1 != 0) = false := bne_eq_false_iff_eq.mpr c39
                                          clear c39
                                          have H' := Aside0.mk H
                                          clear H
                                          go_wp2
                                          go_roundg kj35
                                          case measure => have := HK1.out; have := HJ11.out; have := HJ19.out; have := HJ23.out; have := HJ27.out; have := HJ31.out; have := HJ35.out; omega
                                          case rel => exact ⟨(x4_23), (x5_31), (t150), (t152), (x8_11), (wrap64 (x9_1 + 1)), (x143000_1), (x143001_1), (x143002_1), (x143003_1), (by first | rfl | (simp; done) | (simp [*]; done)), (by first | rfl | (simp; done) | (simp [*]; done)), (by first | rfl | (simp; done) | (simp [*]; done)), (by first | rfl | (simp; done) | (simp [*]; done)), (by first | rfl | (simp; done) | (simp [*]; done)), (by first | rfl | (simp; done) | (simp [*]; done)), H', ⟨by have := HK1.out; have := HJ11.out; have := HJ19.out; have := HJ23.out; have := HJ27.out; have := HJ31.out; have := HJ35.out; omega⟩, ⟨by (with_reducible repeat (first | refine blk_drewN ?_ _ | refine blk_drew ?_ | refine blk_alloc ?_ _)); exact BK142.out⟩, ⟨by repeat (first | (with_reducible first | exact HB.out | apply below_alloc | apply pw_below_drewN | apply below_drew1 | refine below_set ?_ GE142.out | refine below_set ?_ GE148.out) | exact HB.out)⟩⟩
                                        · rw [if_neg c39] at H
                                          have c39b0 : (x9_1 == 0) = false := beq_eq_false_iff_ne.mpr c39
                                          have c39b1 : (x9_1 != 0) = true := bne_iff_ne.mpr c39
                                          by_cases c40 : t152 > x7_1
                                          · rw [if_pos c40] at H
                                            have c40b0 : decide (x7_1 < t152) = true := decide_eq_true c40
                                            clear c40
                                            have H' := Aside0.mk H
                                            clear H
                                            go_wp2
                                            go_roundg kj35
                                            case measure => have := HK1.out; have := HJ11.out; have := HJ19.out; have := HJ23.out; have := HJ27.out; have := HJ31.out; have := HJ35.out; omega
                                            case rel => exact ⟨(x4_23), (x5_31), (t150), (t152), (x8_11), (wrap64 (x9_1 + 1)), (x143000_1), (x143001_1), (x143002_1), (x143003_1), (by first | rfl | (simp; done) | (simp [*]; done)), (by first | rfl | (simp; done) | (simp [*]; done)), (by first | rfl | (simp; done) | (simp [*]; done)), (by first | rfl | (simp; done) | (simp [*]; done)), (by first | rfl | (simp; done) | (simp [*]; done)), (by first | rfl | (simp; done) | (simp [*]; done)), H', ⟨by have := HK1.out; have := HJ11.out; have := HJ19.out; have := HJ23.out; have := HJ27.out; have := HJ31.out; have := HJ35.out; omega⟩, ⟨by (with_reducible repeat (first | refine blk_drewN ?_ _ | refine blk_drew ?_ | refine blk_alloc ?_ _)); exact BK142.out⟩, ⟨by repeat (first | (with_reducible first | exact HB.out | apply below_alloc | apply pw_below_drewN | apply below_drew1 | refine below_set ?_ GE142.out | refine below_set ?_ GE148.out) | exact HB.out)⟩⟩
                                          · rw [if_neg c40] at H
                                            have c40b0 : decide (x7_1 < t152) = false := decide_eq_false c40
                                            clear c40
                                            have H' := Aside0.mk H
                                            clear H
                                            go_wp2
                                            go_roundg kj35
                                            case measure => have := HK1.out; have := HJ11.out; have := HJ19.out; have := HJ23.out; have := HJ27.out; have := HJ31.out; have := HJ35.out; omega
                                            case rel => exact ⟨(x4_23), (x5_31), (t150), (x7_1), (x8_11), (wrap64 (x9_1 + 1)), (x143000_1), (x143001_1), (x143002_1), (x143003_1), (by first | rfl | (simp; done) | (simp [*]; done)), (by first | rfl | (simp; done) | (simp [*]; done)), (by first | rfl | (simp; done) | (simp [*]; done)), (by first | rfl | (simp; done) | (simp [*]; done)), (by first | rfl | (simp; done) | (simp [*]; done)), (by first | rfl | (simp; done) | (simp [*]; done)), H', ⟨by have := HK1.out; have := HJ11.out; have := HJ19.out; have := HJ23.out; have := HJ27.out; have := HJ31.out; have := HJ35.out; omega⟩, ⟨by (with_reducible repeat (first | refine blk_drewN ?_ _ | refine blk_drew ?_ | refine blk_alloc ?_ _)); exact BK142.out⟩, ⟨by repeat (first | (with_reducible first | exact HB.out | apply below_alloc | apply pw_below_drewN | apply below_drew1 | refine below_set ?_ GE142.out | refine below_set ?_ GE148.out) | exact HB.out)⟩⟩
                                      · replace c38 := Bool.eq_false_iff.mpr c38
                                        subst c38
                                        have H1 : (if x9_1 = 0 then (scrimref02_Union.l0 kj35 l0 x4_23 x5_31 x6_1 t152 x8_11 (wrap64 (x9_1 + 1))) else (if t152 > x7_1 then (scrimref02_Union.l0 kj35 l0 x4_23 x5_31 x6_1 t152 x8_11 (wrap64 (x9_1 + 1))) else (scrimref02_Union.l0 kj35 l0 x4_23 x5_31 x6_1 x7_1 x8_11 (wrap64 (x9_1 + 1))))) = some (r1, r2, r3, r4, r5) := by rw [if_neg (show ¬ (false = true) by decide)] at H; exact H
                                        clear H
                                        have H := H1
                                        clear H1
                                        by_cases c41 : x9_1 = 0
                                        · rw [if_pos c41] at H
                                          have c41b0 : (x9_1 == 0) = true := beq_iff_eq.mpr c41
                                          have c41b1 : (x9_1 != 0) = false := bne_eq_false_iff_eq.mpr c41
                                          clear c41
                                          have H' := Aside0.mk H
                                          clear H
                                          go_wp2
                                          go_roundg kj35
                                          case measure => have := HK1.out; have := HJ11.out; have := HJ19.out; have := HJ23.out; have := HJ27.out; have := HJ31.out; have := HJ35.out; omega
                                          case rel => exact ⟨(x4_23), (x5_31), (x6_1), (t152), (x8_11), (wrap64 (x9_1 + 1)), (x143000_1), (x143001_1), (x143002_1), (x143003_1), (by first | rfl | (simp; done) | (simp [*]; done)), (by first | rfl | (simp; done) | (simp [*]; done)), (by first | rfl | (simp; done) | (simp [*]; done)), (by first | rfl | (simp; done) | (simp [*]; done)), (by first | rfl | (simp; done) | (simp [*]; done)), (by first | rfl | (simp; done) | (simp [*]; done)), H', ⟨by have := HK1.out; have := HJ11.out; have := HJ19.out; have := HJ23.out; have := HJ27.out; have := HJ31.out; have := HJ35.out; omega⟩, ⟨by (with_reducible repeat (first | refine blk_drewN ?_ _ | refine blk_drew ?_ | refine blk_alloc ?_ _)); exact BK142.out⟩, ⟨by repeat (first | (with_reducible first | exact HB.out | apply below_alloc | apply pw_below_drewN | apply below_drew1 | refine below_set ?_ GE142.out | refine below_set ?_ GE148.out) | exact HB.out)⟩⟩
                                        · rw [if_neg c41] at H
                                          have c41b0 : (x9_1 == 0) = false := beq_eq_false_iff_ne.mpr c41
                                          have c41b1 : (x9_1 != 0) = true := bne_iff_ne.mpr c41
                                          by_cases c42 : t152 > x7_1
                                          · rw [if_pos c42] at H
                                            have c42b0 : decide (x7_1 < t152) = true := decide_eq_true c42
                                            clear c42
                                            have H' := Aside0.mk H
                                            clear H
                                            go_wp2
                                            go_roundg kj35
                                            case measure => have := HK1.out; have := HJ11.out; have := HJ19.out; have := HJ23.out; have := HJ27.out; have := HJ31.out; have := HJ35.out; omega
                                            case rel => exact ⟨(x4_23), (x5_31), (x6_1), (t152), (x8_11), (wrap64 (x9_1 + 1)), (x143000_1), (x143001_1), (x143002_1), (x143003_1), (by first | rfl | (simp; done) | (simp [*]; done)), (by first | rfl | (simp; done) | (simp [*]; done)), (by first | rfl | (simp; done) | (simp [*]; done)), (by first | rfl | (simp; done) | (simp [*]; done)), (by first | rfl | (simp; done) | (simp [*]; done)), (by first | rfl | (simp; done) | (simp [*]; done)), H', ⟨by have := HK1.out; have := HJ11.out; have := HJ19.out; have := HJ23.out; have := HJ27.out; have := HJ31.out; have := HJ35.out; omega⟩, ⟨by (with_reducible repeat (first | refine blk_drewN ?_ _ | refine blk_drew ?_ | refine blk_alloc ?_ _)); exact BK142.out⟩, ⟨by repeat (first | (with_reducible first | exact HB.out | apply below_alloc | apply pw_below_drewN | apply below_drew1 | refine below_set ?_ GE142.out | refine below_set ?_ GE148.out) | exact HB.out)⟩⟩
                                          · rw [if_neg c42] at H
                                            have c42b0 : decide (x7_1 < t152) = false := decide_eq_false c42
                                            clear c42
                                            have H' := Aside0.mk H
                                            clear H
                                            go_wp2
                                            go_roundg kj35
                                            case measure => have := HK1.out; have := HJ11.out; have := HJ19.out; have := HJ23.out; have := HJ27.out; have := HJ31.out; have := HJ35.out; omega
                                            case rel => exact ⟨(x4_23), (x5_31), (x6_1), (x7_1), (x8_11), (wrap64 (x9_1 + 1)), (x143000_1), (x143001_1), (x143002_1), (x143003_1), (by first | rfl | (simp; done) | (simp [*]; done)), (by first | rfl | (simp; done) | (simp [*]; done)), (by first | rfl | (simp; done) | (simp [*]; done)), (by first | rfl | (simp; done) | (simp [*]; done)), (by first | rfl | (simp; done) | (simp [*]; done)), (by first | rfl | (simp; done) | (simp [*]; done)), H', ⟨by have := HK1.out; have := HJ11.out; have := HJ19.out; have := HJ23.out; have := HJ27.out; have := HJ31.out; have := HJ35.out; omega⟩, ⟨by (with_reducible repeat (first | refine blk_drewN ?_ _ | refine blk_drew ?_ | refine blk_alloc ?_ _)); exact BK142.out⟩, ⟨by repeat (first | (with_reducible first | exact HB.out | apply below_alloc | apply pw_below_drewN | apply below_drew1 | refine below_set ?_ GE142.out | refine below_set ?_ GE148.out) | exact HB.out)⟩⟩
            · replace c9 := Bool.eq_false_iff.mpr c9
              subst c9
              have H1 : (some (0, 0, 0, 0, false)) = some (r1, r2, r3, r4, r5) := by rw [if_neg (show ¬ (false = true) by decide)] at H; exact H
              clear H
              have H := H1
              clear H1
              simp only [Option.some.injEq, Prod.mk.injEq] at H
              obtain ⟨rfl, rfl, rfl, rfl, rfl⟩ := H
              have p147 : 0 ≤ (x9_1 : Int) := of_decide_eq_true (by first | (with_reducible assumption) | assumption)
              have q147 : x9_1 < (l0.length : Int) := of_decide_eq_true (by first | (with_reducible assumption) | assumption)
              obtain ⟨ad147, e147, hx147_0, hx147_1, hx147_2, hx147_3⟩ := at_T50 HR0.out x9_1 p147 q147
              cases e147
              replace hx147_0 := (HB.out.cell (World.block_lt_of_cell? w _ hx147_0)).trans hx147_0
              replace hx147_1 := (HB.out.cell (World.block_lt_of_cell? w _ hx147_1)).trans hx147_1
              replace hx147_2 := (HB.out.cell (World.block_lt_of_cell? w _ hx147_2)).trans hx147_2
              replace hx147_3 := (HB.out.cell (World.block_lt_of_cell? w _ hx147_3)).trans hx147_3
              replace p147 := eq_true p147
              replace q147 := eq_true q147
              go_wp2_with (first | ((with_reducible refine gate_dst (N := 10) rfl ?_); refine box_event ?hg (N := 10) ?hd (cs := #[.int .i64 0, .int .i64 0, .int .i64 0, .int .i64 0]) (t := 50) ?hr ?_; (case hd => rfl); (case hg => rfl); (case hr => first | (go_simp; done) | (go_simp; rfl)); intro gb148 hg w43 hbox hb; have n0_ := Aside0.mk (blk_below (g := gb142) (o := .cells #[.int .i64 x143000_1, .int .i64 x143001_1, .int .i64 x143002_1, .int .i64 x143003_1] 50 (0, 0)) (by (with_reducible repeat (first | refine blk_drewN ?_ _ | refine blk_drew ?_ | refine blk_alloc ?_ _)); exact BK142.out) hb); have n1_ := Aside0.mk (below_step (by repeat (first | (with_reducible first | exact HB.out | apply below_alloc | apply pw_below_drewN | apply below_drew1 | refine below_set ?_ GE142.out) | exact HB.out)) hb); have n2_ := Aside0.mk (hbox); have n3_ := Aside0.mk ((by rw [hg]; exact (below_size (by repeat (first | (with_reducible first | exact HB.out | apply below_alloc | apply pw_below_drewN | apply below_drew1 | refine below_set ?_ GE142.out) | exact HB.out))) : w.heap.size ≤ gb148)); have n4_ := Aside0.mk ((by rw [hg]; exact (below_size (by repeat (first | (with_reducible first | exact HB.out | apply below_alloc | apply pw_below_drewN | apply below_drew1 | refine below_set ?_ GE142.out) | exact HB.out))) : w.heap.size ≤ gb148)); have n5_ := Aside0.mk ((by rw [hg]; exact Nat.ne_of_lt (blk_lt (g := gb142) (o := .cells #[.int .i64 x143000_1, .int .i64 x143001_1, .int .i64 x143002_1, .int .i64 x143003_1] 50 (0, 0)) (by (with_reducible repeat (first | refine blk_drewN ?_ _ | refine blk_drew ?_ | refine blk_alloc ?_ _)); exact BK142.out)) : gb142 ≠ gb148)); have n6_ := Aside0.mk ((by rw [hg]; exact Nat.ne_of_gt (blk_lt (g := gb142) (o := .cells #[.int .i64 x143000_1, .int .i64 x143001_1, .int .i64 x143002_1, .int .i64 x143003_1] 50 (0, 0)) (by (with_reducible repeat (first | refine blk_drewN ?_ _ | refine blk_drew ?_ | refine blk_alloc ?_ _)); exact BK142.out)) : gb148 ≠ gb142)); clear BK142; clear HB; have BK142 := n0_; have HB := n1_; have BK148 := n2_; have GW148 := n3_; have GE148 := n4_; have NB142_148 := n5_; have NB148_142 := n6_; clear n0_ n1_ n2_ n3_ n4_ n5_ n6_; clear hb hbox hg; have hnb44 := NB148_142.out; have hnc44 := NB142_148.out; have hcz45_0 : w43.cell? ⟨gb148, 0, none⟩ = some (.int .i64 0) := (blk_cell BK148.out 0).trans rfl; have hcz45_1 : w43.cell? ⟨gb148, 1, none⟩ = some (.int .i64 0) := (blk_cell BK148.out 1).trans rfl; have hcz45_2 : w43.cell? ⟨gb148, 2, none⟩ = some (.int .i64 0) := (blk_cell BK148.out 2).trans rfl; have hcz45_3 : w43.cell? ⟨gb148, 3, none⟩ = some (.int .i64 0) := (blk_cell BK148.out 3).trans rfl; have hfz45_0 := blk_frozen BK148.out 0; have hfz45_1 := blk_frozen BK148.out 1; have hfz45_2 := blk_frozen BK148.out 2; have hfz45_3 := blk_frozen BK148.out 3) | ((with_reducible refine gate_callee (f := 35) rfl ?_); refine goesL_ (some 34) rfl rfl Try.func35 (by kernel_rfl) rfl #[.agg #[.int .i64 ((rd_T50 l0 x9_1).f0), .int .i64 ((rd_T50 l0 x9_1).f1), .int .i64 ((rd_T50 l0 x9_1).f2), .int .i64 ((rd_T50 l0 x9_1).f3)]] rfl (by (try simp only [List.map_toArray, List.map_cons, List.map_nil]); first | done | rfl | (simp only [List.length_drop, List.length_take]; rfl)) ?_; (with_reducible refine (scrimref02_May.calls ((rd_T50 l0 x9_1).f0) ((rd_T50 l0 x9_1).f1) ((rd_T50 l0 x9_1).f2) ((rd_T50 l0 x9_1).f3) false _ A8.out).mono ?_); rintro e w46 ⟨rfl, hb⟩; refine ⟨_, rfl, ?_⟩; have n0_ := Aside0.mk (blk_below (g := gb142) (o := .cells #[.int .i64 x143000_1, .int .i64 x143001_1, .int .i64 x143002_1, .int .i64 x143003_1] 50 (0, 0)) (by (with_reducible repeat (first | refine blk_drewN ?_ _ | refine blk_drew ?_ | refine blk_alloc ?_ _)); refine blk_far ?_ NB142_148.out _; (with_reducible repeat (first | refine blk_drewN ?_ _ | refine blk_drew ?_ | refine blk_alloc ?_ _)); refine blk_far ?_ NB142_148.out _; (with_reducible repeat (first | refine blk_drewN ?_ _ | refine blk_drew ?_ | refine blk_alloc ?_ _)); refine blk_far ?_ NB142_148.out _; (with_reducible repeat (first | refine blk_drewN ?_ _ | refine blk_drew ?_ | refine blk_alloc ?_ _)); refine blk_far ?_ NB142_148.out _; (with_reducible repeat (first | refine blk_drewN ?_ _ | refine blk_drew ?_ | refine blk_alloc ?_ _)); exact BK142.out) hb); have n1_ := Aside0.mk (blk_below (g := gb148) (o := .cells #[.int .i64 ((rd_T50 l0 x9_1).f0), .int .i64 ((rd_T50 l0 x9_1).f1), .int .i64 ((rd_T50 l0 x9_1).f2), .int .i64 ((rd_T50 l0 x9_1).f3)] 50 (0, 0)) (by (with_reducible repeat (first | refine blk_drewN ?_ _ | refine blk_drew ?_ | refine blk_alloc ?_ _)); refine blk_put (cs := #[.int .i64 ((rd_T50 l0 x9_1).f0), .int .i64 ((rd_T50 l0 x9_1).f1), .int .i64 ((rd_T50 l0 x9_1).f2), .int .i64 0]) ?_ 3 _ rfl; (with_reducible repeat (first | refine blk_drewN ?_ _ | refine blk_drew ?_ | refine blk_alloc ?_ _)); refine blk_put (cs := #[.int .i64 ((rd_T50 l0 x9_1).f0), .int .i64 ((rd_T50 l0 x9_1).f1), .int .i64 0, .int .i64 0]) ?_ 2 _ rfl; (with_reducible repeat (first | refine blk_drewN ?_ _ | refine blk_drew ?_ | refine blk_alloc ?_ _)); refine blk_put (cs := #[.int .i64 ((rd_T50 l0 x9_1).f0), .int .i64 0, .int .i64 0, .int .i64 0]) ?_ 1 _ rfl; (with_reducible repeat (first | refine blk_drewN ?_ _ | refine blk_drew ?_ | refine blk_alloc ?_ _)); refine blk_put (cs := #[.int .i64 0, .int .i64 0, .int .i64 0, .int .i64 0]) ?_ 0 _ rfl; (with_reducible repeat (first | refine blk_drewN ?_ _ | refine blk_drew ?_ | refine blk_alloc ?_ _)); exact BK148.out) hb); have n2_ := Aside0.mk (below_step (by repeat (first | (with_reducible first | exact HB.out | apply below_alloc | apply pw_below_drewN | apply below_drew1 | refine below_set ?_ GE142.out | refine below_set ?_ GE148.out) | exact HB.out)) hb); clear BK142; clear BK148; clear HB; have BK142 := n0_; have BK148 := n1_; have HB := n2_; clear n0_ n1_ n2_; (try clear hb); (try clear hb2); (try clear hk); (try clear hi); have hcz47_0 : w46.cell? ⟨gb142, 0, none⟩ = some (.int .i64 x143000_1) := (blk_cell BK142.out 0).trans rfl; have hcz47_1 : w46.cell? ⟨gb142, 1, none⟩ = some (.int .i64 x143001_1) := (blk_cell BK142.out 1).trans rfl; have hcz47_2 : w46.cell? ⟨gb142, 2, none⟩ = some (.int .i64 x143002_1) := (blk_cell BK142.out 2).trans rfl; have hcz47_3 : w46.cell? ⟨gb142, 3, none⟩ = some (.int .i64 x143003_1) := (blk_cell BK142.out 3).trans rfl; have hfz47_0 := blk_frozen BK142.out 0; have hfz47_1 := blk_frozen BK142.out 1; have hfz47_2 := blk_frozen BK142.out 2; have hfz47_3 := blk_frozen BK142.out 3))
              refine bodyPost_ret (results_ct rfl _ _ gb142 50 #[.int .i64 0, .int .i64 0, .int .i64 0, .int .i64 0] (0, 0) _ rfl (by (with_reducible repeat (first | refine blk_drewN ?_ _ | refine blk_drew ?_ | refine blk_alloc ?_ _)); refine blk_put (cs := #[.int .i64 0, .int .i64 0, .int .i64 0, .int .i64 x143003_1]) ?_ 3 _ rfl; (with_reducible repeat (first | refine blk_drewN ?_ _ | refine blk_drew ?_ | refine blk_alloc ?_ _)); refine blk_put (cs := #[.int .i64 0, .int .i64 0, .int .i64 x143002_1, .int .i64 x143003_1]) ?_ 2 _ rfl; (with_reducible repeat (first | refine blk_drewN ?_ _ | refine blk_drew ?_ | refine blk_alloc ?_ _)); refine blk_put (cs := #[.int .i64 0, .int .i64 x143001_1, .int .i64 x143002_1, .int .i64 x143003_1]) ?_ 1 _ rfl; (with_reducible repeat (first | refine blk_drewN ?_ _ | refine blk_drew ?_ | refine blk_alloc ?_ _)); refine blk_put (cs := #[.int .i64 x143000_1, .int .i64 x143001_1, .int .i64 x143002_1, .int .i64 x143003_1]) ?_ 0 _ rfl; (with_reducible repeat (first | refine blk_drewN ?_ _ | refine blk_drew ?_ | refine blk_alloc ?_ _)); exact BK142.out) Try.underlying50 rfl (by kernel_rfl)) rfl ?_
              exact ⟨by first | rfl | (simp [errW_none, errW_some] <;> rfl) | (simp [*, errW_none, errW_some] <;> rfl), by repeat (first | (with_reducible first | exact HB.out | apply below_alloc | apply pw_below_drewN | apply below_drew1 | refine below_set ?_ GE142.out | refine below_set ?_ GE148.out) | exact HB.out)⟩
          · rw [if_neg c7] at H
            exact absurd H (by simp)
        · rw [if_neg c6] at H
          have c6b0 : decide (x9_1 < (l0.length : Int)) = false := decide_eq_false c6
          clear c6
          replace H := Option.bind_eq_some_iff.mp H
          obtain ⟨⟨t143, t144⟩, A480, H⟩ := H
          replace H : ((scrimref01_Sub.f x7_1 x5_1).bind fun bt145 => (if x8_1 = true then (if t144 = true then (some (x4_1, x5_1, t143, bt145.1, bt145.2)) else (some (x4_1, x5_1, t143, bt145.1, false))) else (some (x4_1, x5_1, t143, bt145.1, false)))) = some (r1, r2, r3, r4, r5) := H
          have A48 := Aside0.mk A480
          clear A480
          replace H := Option.bind_eq_some_iff.mp H
          obtain ⟨⟨t145, t146⟩, A490, H⟩ := H
          replace H : (if x8_1 = true then (if t144 = true then (some (x4_1, x5_1, t143, t145, t146)) else (some (x4_1, x5_1, t143, t145, false))) else (some (x4_1, x5_1, t143, t145, false))) = some (r1, r2, r3, r4, r5) := H
          have A49 := Aside0.mk A490
          clear A490
          by_cases c50 : x8_1 = true
          · subst c50
            have H1 : (if t144 = true then (some (x4_1, x5_1, t143, t145, t146)) else (some (x4_1, x5_1, t143, t145, false))) = some (r1, r2, r3, r4, r5) := by rw [if_pos rfl] at H; exact H
            clear H
            have H := H1
            clear H1
            by_cases c51 : t144 = true
            · subst c51
              have H1 : (some (x4_1, x5_1, t143, t145, t146)) = some (r1, r2, r3, r4, r5) := by rw [if_pos rfl] at H; exact H
              clear H
              have H := H1
              clear H1
              simp only [Option.some.injEq, Prod.mk.injEq] at H
              obtain ⟨rfl, rfl, rfl, rfl, rfl⟩ := H
              go_wp2_with (first | ((with_reducible refine gate_callee (f := 47) rfl ?_); refine goesL_ (some 99) rfl rfl Try.func47 (by kernel_rfl) rfl #[.int .i64 x6_1, .int .i64 x4_1] rfl (by (try simp only [List.map_toArray, List.map_cons, List.map_nil]); first | done | rfl | (simp only [List.length_drop, List.length_take]; rfl)) ?_; (with_reducible refine (scrimref01_Sub.calls x6_1 x4_1 t143 true _ A48.out).mono ?_); rintro e w' ⟨rfl, ⟨nd, rfl⟩⟩; refine ⟨_, rfl, ?_⟩; (try (rw [drewN_self wr]; generalize hq_ : World.drewN wr _ = wr; have n0_ : Aside0 (wr.heap[gb142]? = some (.cells #[.int .i64 x143000_1, .int .i64 x143001_1, .int .i64 x143002_1, .int .i64 x143003_1] 50 (0, 0))) := ⟨by rw [← hq_]; exact (by (with_reducible repeat (first | refine blk_drewN ?_ _ | refine blk_drew ?_ | refine blk_alloc ?_ _)); exact BK142.out)⟩; have n1_ : Aside0 (Below w.heap.size w wr) := ⟨by rw [← hq_]; exact (by repeat (first | (with_reducible first | exact HB.out | apply below_alloc | apply pw_below_drewN | apply below_drew1 | refine below_set ?_ GE142.out) | exact HB.out))⟩; clear BK142 HB hq_; have BK142 := n0_; have HB := n1_; clear n0_ n1_))) | ((with_reducible refine gate_callee (f := 47) rfl ?_); refine goesL_ (some 105) rfl rfl Try.func47 (by kernel_rfl) rfl #[.int .i64 x7_1, .int .i64 x5_1] rfl (by (try simp only [List.map_toArray, List.map_cons, List.map_nil]); first | done | rfl | (simp only [List.length_drop, List.length_take]; rfl)) ?_; (with_reducible refine (scrimref01_Sub.calls x7_1 x5_1 t145 t146 _ A49.out).mono ?_); rintro e w' ⟨rfl, ⟨nd, rfl⟩⟩; refine ⟨_, rfl, ?_⟩; (try (rw [drewN_self wr]; generalize hq_ : World.drewN wr _ = wr; have n0_ : Aside0 (wr.heap[gb142]? = some (.cells #[.int .i64 x143000_1, .int .i64 x143001_1, .int .i64 x143002_1, .int .i64 x143003_1] 50 (0, 0))) := ⟨by rw [← hq_]; exact (by (with_reducible repeat (first | refine blk_drewN ?_ _ | refine blk_drew ?_ | refine blk_alloc ?_ _)); exact BK142.out)⟩; have n1_ : Aside0 (Below w.heap.size w wr) := ⟨by rw [← hq_]; exact (by repeat (first | (with_reducible first | exact HB.out | apply below_alloc | apply pw_below_drewN | apply below_drew1 | refine below_set ?_ GE142.out) | exact HB.out))⟩; clear BK142 HB hq_; have BK142 := n0_; have HB := n1_; clear n0_ n1_)); have hcz52_0 : wr.cell? ⟨gb142, 0, none⟩ = some (.int .i64 x143000_1) := (blk_cell BK142.out 0).trans rfl; have hcz52_1 : wr.cell? ⟨gb142, 1, none⟩ = some (.int .i64 x143001_1) := (blk_cell BK142.out 1).trans rfl; have hcz52_2 : wr.cell? ⟨gb142, 2, none⟩ = some (.int .i64 x143002_1) := (blk_cell BK142.out 2).trans rfl; have hcz52_3 : wr.cell? ⟨gb142, 3, none⟩ = some (.int .i64 x143003_1) := (blk_cell BK142.out 3).trans rfl; have hfz52_0 := blk_frozen BK142.out 0; have hfz52_1 := blk_frozen BK142.out 1; have hfz52_2 := blk_frozen BK142.out 2; have hfz52_3 := blk_frozen BK142.out 3))
              refine bodyPost_ret (results_ct rfl _ _ gb142 50 #[.int .i64 x4_1, .int .i64 x5_1, .int .i64 t143, .int .i64 t145] (0, 0) _ rfl (by (with_reducible repeat (first | refine blk_drewN ?_ _ | refine blk_drew ?_ | refine blk_alloc ?_ _)); refine blk_put (cs := #[.int .i64 x4_1, .int .i64 x5_1, .int .i64 t143, .int .i64 x143003_1]) ?_ 3 _ rfl; (with_reducible repeat (first | refine blk_drewN ?_ _ | refine blk_drew ?_ | refine blk_alloc ?_ _)); refine blk_put (cs := #[.int .i64 x4_1, .int .i64 x5_1, .int .i64 x143002_1, .int .i64 x143003_1]) ?_ 2 _ rfl; (with_reducible repeat (first | refine blk_drewN ?_ _ | refine blk_drew ?_ | refine blk_alloc ?_ _)); refine blk_put (cs := #[.int .i64 x4_1, .int .i64 x143001_1, .int .i64 x143002_1, .int .i64 x143003_1]) ?_ 1 _ rfl; (with_reducible repeat (first | refine blk_drewN ?_ _ | refine blk_drew ?_ | refine blk_alloc ?_ _)); refine blk_put (cs := #[.int .i64 x143000_1, .int .i64 x143001_1, .int .i64 x143002_1, .int .i64 x143003_1]) ?_ 0 _ rfl; (with_reducible repeat (first | refine blk_drewN ?_ _ | refine blk_drew ?_ | refine blk_alloc ?_ _)); exact BK142.out) Try.underlying50 rfl (by kernel_rfl)) rfl ?_
              exact ⟨by first | rfl | (simp [errW_none, errW_some] <;> rfl) | (simp [*, errW_none, errW_some] <;> rfl), by repeat (first | (with_reducible first | exact HB.out | apply below_alloc | apply pw_below_drewN | apply below_drew1 | refine below_set ?_ GE142.out) | exact HB.out)⟩
            · replace c51 := Bool.eq_false_iff.mpr c51
              subst c51
              have H1 : (some (x4_1, x5_1, t143, t145, false)) = some (r1, r2, r3, r4, r5) := by rw [if_neg (show ¬ (false = true) by decide)] at H; exact H
              clear H
              have H := H1
              clear H1
              simp only [Option.some.injEq, Prod.mk.injEq] at H
              obtain ⟨rfl, rfl, rfl, rfl, rfl⟩ := H
              go_wp2_with (first | ((with_reducible refine gate_callee (f := 47) rfl ?_); refine goesL_ (some 99) rfl rfl Try.func47 (by kernel_rfl) rfl #[.int .i64 x6_1, .int .i64 x4_1] rfl (by (try simp only [List.map_toArray, List.map_cons, List.map_nil]); first | done | rfl | (simp only [List.length_drop, List.length_take]; rfl)) ?_; (with_reducible refine (scrimref01_Sub.calls x6_1 x4_1 t143 false _ A48.out).mono ?_); rintro e w' ⟨rfl, ⟨nd, rfl⟩⟩; refine ⟨_, rfl, ?_⟩; (try (rw [drewN_self wr]; generalize hq_ : World.drewN wr _ = wr; have n0_ : Aside0 (wr.heap[gb142]? = some (.cells #[.int .i64 x143000_1, .int .i64 x143001_1, .int .i64 x143002_1, .int .i64 x143003_1] 50 (0, 0))) := ⟨by rw [← hq_]; exact (by (with_reducible repeat (first | refine blk_drewN ?_ _ | refine blk_drew ?_ | refine blk_alloc ?_ _)); exact BK142.out)⟩; have n1_ : Aside0 (Below w.heap.size w wr) := ⟨by rw [← hq_]; exact (by repeat (first | (with_reducible first | exact HB.out | apply below_alloc | apply pw_below_drewN | apply below_drew1 | refine below_set ?_ GE142.out) | exact HB.out))⟩; clear BK142 HB hq_; have BK142 := n0_; have HB := n1_; clear n0_ n1_))) | ((with_reducible refine gate_callee (f := 47) rfl ?_); refine goesL_ (some 105) rfl rfl Try.func47 (by kernel_rfl) rfl #[.int .i64 x7_1, .int .i64 x5_1] rfl (by (try simp only [List.map_toArray, List.map_cons, List.map_nil]); first | done | rfl | (simp only [List.length_drop, List.length_take]; rfl)) ?_; (with_reducible refine (scrimref01_Sub.calls x7_1 x5_1 t145 t146 _ A49.out).mono ?_); rintro e w' ⟨rfl, ⟨nd, rfl⟩⟩; refine ⟨_, rfl, ?_⟩; (try (rw [drewN_self wr]; generalize hq_ : World.drewN wr _ = wr; have n0_ : Aside0 (wr.heap[gb142]? = some (.cells #[.int .i64 x143000_1, .int .i64 x143001_1, .int .i64 x143002_1, .int .i64 x143003_1] 50 (0, 0))) := ⟨by rw [← hq_]; exact (by (with_reducible repeat (first | refine blk_drewN ?_ _ | refine blk_drew ?_ | refine blk_alloc ?_ _)); exact BK142.out)⟩; have n1_ : Aside0 (Below w.heap.size w wr) := ⟨by rw [← hq_]; exact (by repeat (first | (with_reducible first | exact HB.out | apply below_alloc | apply pw_below_drewN | apply below_drew1 | refine below_set ?_ GE142.out) | exact HB.out))⟩; clear BK142 HB hq_; have BK142 := n0_; have HB := n1_; clear n0_ n1_)); have hcz53_0 : wr.cell? ⟨gb142, 0, none⟩ = some (.int .i64 x143000_1) := (blk_cell BK142.out 0).trans rfl; have hcz53_1 : wr.cell? ⟨gb142, 1, none⟩ = some (.int .i64 x143001_1) := (blk_cell BK142.out 1).trans rfl; have hcz53_2 : wr.cell? ⟨gb142, 2, none⟩ = some (.int .i64 x143002_1) := (blk_cell BK142.out 2).trans rfl; have hcz53_3 : wr.cell? ⟨gb142, 3, none⟩ = some (.int .i64 x143003_1) := (blk_cell BK142.out 3).trans rfl; have hfz53_0 := blk_frozen BK142.out 0; have hfz53_1 := blk_frozen BK142.out 1; have hfz53_2 := blk_frozen BK142.out 2; have hfz53_3 := blk_frozen BK142.out 3))
              refine bodyPost_ret (results_ct rfl _ _ gb142 50 #[.int .i64 x4_1, .int .i64 x5_1, .int .i64 t143, .int .i64 t145] (0, 0) _ rfl (by (with_reducible repeat (first | refine blk_drewN ?_ _ | refine blk_drew ?_ | refine blk_alloc ?_ _)); refine blk_put (cs := #[.int .i64 x4_1, .int .i64 x5_1, .int .i64 t143, .int .i64 x143003_1]) ?_ 3 _ rfl; (with_reducible repeat (first | refine blk_drewN ?_ _ | refine blk_drew ?_ | refine blk_alloc ?_ _)); refine blk_put (cs := #[.int .i64 x4_1, .int .i64 x5_1, .int .i64 x143002_1, .int .i64 x143003_1]) ?_ 2 _ rfl; (with_reducible repeat (first | refine blk_drewN ?_ _ | refine blk_drew ?_ | refine blk_alloc ?_ _)); refine blk_put (cs := #[.int .i64 x4_1, .int .i64 x143001_1, .int .i64 x143002_1, .int .i64 x143003_1]) ?_ 1 _ rfl; (with_reducible repeat (first | refine blk_drewN ?_ _ | refine blk_drew ?_ | refine blk_alloc ?_ _)); refine blk_put (cs := #[.int .i64 x143000_1, .int .i64 x143001_1, .int .i64 x143002_1, .int .i64 x143003_1]) ?_ 0 _ rfl; (with_reducible repeat (first | refine blk_drewN ?_ _ | refine blk_drew ?_ | refine blk_alloc ?_ _)); exact BK142.out) Try.underlying50 rfl (by kernel_rfl)) rfl ?_
              exact ⟨by first | rfl | (simp [errW_none, errW_some] <;> rfl) | (simp [*, errW_none, errW_some] <;> rfl), by repeat (first | (with_reducible first | exact HB.out | apply below_alloc | apply pw_below_drewN | apply below_drew1 | refine below_set ?_ GE142.out) | exact HB.out)⟩
          · replace c50 := Bool.eq_false_iff.mpr c50
            subst c50
            have H1 : (some (x4_1, x5_1, t143, t145, false)) = some (r1, r2, r3, r4, r5) := by rw [if_neg (show ¬ (false = true) by decide)] at H; exact H
            clear H
            have H := H1
            clear H1
            simp only [Option.some.injEq, Prod.mk.injEq] at H
            obtain ⟨rfl, rfl, rfl, rfl, rfl⟩ := H
            go_wp2_with (first | ((with_reducible refine gate_callee (f := 47) rfl ?_); refine goesL_ (some 99) rfl rfl Try.func47 (by kernel_rfl) rfl #[.int .i64 x6_1, .int .i64 x4_1] rfl (by (try simp only [List.map_toArray, List.map_cons, List.map_nil]); first | done | rfl | (simp only [List.length_drop, List.length_take]; rfl)) ?_; (with_reducible refine (scrimref01_Sub.calls x6_1 x4_1 t143 t144 _ A48.out).mono ?_); rintro e w' ⟨rfl, ⟨nd, rfl⟩⟩; refine ⟨_, rfl, ?_⟩; (try (rw [drewN_self wr]; generalize hq_ : World.drewN wr _ = wr; have n0_ : Aside0 (wr.heap[gb142]? = some (.cells #[.int .i64 x143000_1, .int .i64 x143001_1, .int .i64 x143002_1, .int .i64 x143003_1] 50 (0, 0))) := ⟨by rw [← hq_]; exact (by (with_reducible repeat (first | refine blk_drewN ?_ _ | refine blk_drew ?_ | refine blk_alloc ?_ _)); exact BK142.out)⟩; have n1_ : Aside0 (Below w.heap.size w wr) := ⟨by rw [← hq_]; exact (by repeat (first | (with_reducible first | exact HB.out | apply below_alloc | apply pw_below_drewN | apply below_drew1 | refine below_set ?_ GE142.out) | exact HB.out))⟩; clear BK142 HB hq_; have BK142 := n0_; have HB := n1_; clear n0_ n1_))) | ((with_reducible refine gate_callee (f := 47) rfl ?_); refine goesL_ (some 105) rfl rfl Try.func47 (by kernel_rfl) rfl #[.int .i64 x7_1, .int .i64 x5_1] rfl (by (try simp only [List.map_toArray, List.map_cons, List.map_nil]); first | done | rfl | (simp only [List.length_drop, List.length_take]; rfl)) ?_; (with_reducible refine (scrimref01_Sub.calls x7_1 x5_1 t145 t146 _ A49.out).mono ?_); rintro e w' ⟨rfl, ⟨nd, rfl⟩⟩; refine ⟨_, rfl, ?_⟩; (try (rw [drewN_self wr]; generalize hq_ : World.drewN wr _ = wr; have n0_ : Aside0 (wr.heap[gb142]? = some (.cells #[.int .i64 x143000_1, .int .i64 x143001_1, .int .i64 x143002_1, .int .i64 x143003_1] 50 (0, 0))) := ⟨by rw [← hq_]; exact (by (with_reducible repeat (first | refine blk_drewN ?_ _ | refine blk_drew ?_ | refine blk_alloc ?_ _)); exact BK142.out)⟩; have n1_ : Aside0 (Below w.heap.size w wr) := ⟨by rw [← hq_]; exact (by repeat (first | (with_reducible first | exact HB.out | apply below_alloc | apply pw_below_drewN | apply below_drew1 | refine below_set ?_ GE142.out) | exact HB.out))⟩; clear BK142 HB hq_; have BK142 := n0_; have HB := n1_; clear n0_ n1_)); have hcz54_0 : wr.cell? ⟨gb142, 0, none⟩ = some (.int .i64 x143000_1) := (blk_cell BK142.out 0).trans rfl; have hcz54_1 : wr.cell? ⟨gb142, 1, none⟩ = some (.int .i64 x143001_1) := (blk_cell BK142.out 1).trans rfl; have hcz54_2 : wr.cell? ⟨gb142, 2, none⟩ = some (.int .i64 x143002_1) := (blk_cell BK142.out 2).trans rfl; have hcz54_3 : wr.cell? ⟨gb142, 3, none⟩ = some (.int .i64 x143003_1) := (blk_cell BK142.out 3).trans rfl; have hfz54_0 := blk_frozen BK142.out 0; have hfz54_1 := blk_frozen BK142.out 1; have hfz54_2 := blk_frozen BK142.out 2; have hfz54_3 := blk_frozen BK142.out 3))
            refine bodyPost_ret (results_ct rfl _ _ gb142 50 #[.int .i64 x4_1, .int .i64 x5_1, .int .i64 t143, .int .i64 t145] (0, 0) _ rfl (by (with_reducible repeat (first | refine blk_drewN ?_ _ | refine blk_drew ?_ | refine blk_alloc ?_ _)); refine blk_put (cs := #[.int .i64 x4_1, .int .i64 x5_1, .int .i64 t143, .int .i64 x143003_1]) ?_ 3 _ rfl; (with_reducible repeat (first | refine blk_drewN ?_ _ | refine blk_drew ?_ | refine blk_alloc ?_ _)); refine blk_put (cs := #[.int .i64 x4_1, .int .i64 x5_1, .int .i64 x143002_1, .int .i64 x143003_1]) ?_ 2 _ rfl; (with_reducible repeat (first | refine blk_drewN ?_ _ | refine blk_drew ?_ | refine blk_alloc ?_ _)); refine blk_put (cs := #[.int .i64 x4_1, .int .i64 x143001_1, .int .i64 x143002_1, .int .i64 x143003_1]) ?_ 1 _ rfl; (with_reducible repeat (first | refine blk_drewN ?_ _ | refine blk_drew ?_ | refine blk_alloc ?_ _)); refine blk_put (cs := #[.int .i64 x143000_1, .int .i64 x143001_1, .int .i64 x143002_1, .int .i64 x143003_1]) ?_ 0 _ rfl; (with_reducible repeat (first | refine blk_drewN ?_ _ | refine blk_drew ?_ | refine blk_alloc ?_ _)); exact BK142.out) Try.underlying50 rfl (by kernel_rfl)) rfl ?_
            exact ⟨by first | rfl | (simp [errW_none, errW_some] <;> rfl) | (simp [*, errW_none, errW_some] <;> rfl), by repeat (first | (with_reducible first | exact HB.out | apply below_alloc | apply pw_below_drewN | apply below_drew1 | refine below_set ?_ GE142.out) | exact HB.out)⟩

end Go.Proofs.Ytnjheeoogglnaaa.Q
