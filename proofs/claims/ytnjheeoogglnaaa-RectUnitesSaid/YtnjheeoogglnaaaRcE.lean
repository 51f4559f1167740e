/- RectUnites tells true: the plain law. -/
import Derived.Test.YtnjheeoogglnaaaRcS
import Derived.Test.YtnjheeoogglnaaaQx10
import Derived.Test.YtnjheeoogglnaaaOps
namespace Go.Proofs.Ytnjheeoogglnaaa.Q
open Go.RowKit Go.IntWalk Go.Proofs.Ytnjheeoogglnaaa.Mem Go.Proofs.YtnjheeoogglnaaaW.PrintWords Go.Proofs.YtnjheeoogglnaaaW.PrintLast Go.Proofs.YtnjheeoogglnaaaW.PrintMore
set_option linter.unusedVariables false
set_option linter.unusedSimpArgs false

theorem unites_loop (l : List S50) (a b ux uy uw uh : Int) (hl : l.length ≤ 100) (hmay : mayB ux uy uw uh = true)
    (H : ∀ r ∈ l, (hasB r.f0 r.f1 r.f2 r.f3 a b = true → hasB ux uy uw uh a b = true) ∧ (0 < r.f2 → 0 < r.f3 → meetV ux uy uw uh r.f0 r.f1 r.f2 r.f3 = (r.f0, r.f1, r.f2, r.f3, true))) :
    ∀ d i : Nat, i + d = l.length → scrimlaw02_RectUnites.l0 (2 * d + 1) a b l (l.length : Int) (i : Int) ux uy uw uh = some true := by
  intro d
  induction d with
  | zero =>
    intro i hi
    unfold scrimlaw02_RectUnites.l0
    rw [if_neg (by omega)]
    simp [rect_May.f, hmay]
  | succ d ih =>
    intro i hi
    have hlt : i < l.length := by omega
    have hrd : rd_T50 l (i : Int) = l[i] := by simp [rd_T50, hlt]
    have hmem : l[i] ∈ l := List.getElem_mem hlt
    obtain ⟨h1, h2⟩ := H _ hmem
    have J : scrimlaw02_RectUnites.j1 (2 * d + 1 + 1) a b l (l.length : Int) (i : Int) false ux uy uw uh l[i].f0 l[i].f1 l[i].f2 l[i].f3 = some true := by
      unfold scrimlaw02_RectUnites.j1
      have ew : wrap64 ((i : Int) + 1) = ((i + 1 : Nat) : Int) := by rw [wrap64_in _ (by omega)]; rfl
      simp only [reduceCtorEq, if_false, meet_f (2 * d), Option.bind_some, ew, ih (i + 1) (by omega)]
      by_cases c1 : l[i].f2 > 0
      · rw [if_pos c1]
        by_cases c2 : l[i].f3 > 0
        · rw [if_pos c2, h2 c1 c2]
          simp
        · rw [if_neg c2]
      · rw [if_neg c1]
    show scrimlaw02_RectUnites.l0 (2 * d + 1 + 1 + 1) a b l (l.length : Int) (i : Int) ux uy uw uh = some true
    unfold scrimlaw02_RectUnites.l0
    rw [if_pos (by omega), if_pos (by omega), if_pos (by omega), hrd]
    simp only [has_f, Option.bind_some]
    by_cases hr : hasB l[i].f0 l[i].f1 l[i].f2 l[i].f3 a b = true
    · rw [if_pos hr, h1 hr]
      exact J
    · rw [if_neg hr]
      exact J

theorem us_fold : ∀ (l : List S50) (u0 : US), (l.foldl usStep u0).rg = false →
    u0.rg = false ∧ (l.foldl usStep u0).nx ≤ u0.nx ∧ (l.foldl usStep u0).ny ≤ u0.ny ∧ u0.fx ≤ (l.foldl usStep u0).fx ∧ u0.fy ≤ (l.foldl usStep u0).fy ∧
    ∀ r ∈ l, sAe r.f0 r.f2 = true ∧ sAe r.f1 r.f3 = true ∧ (l.foldl usStep u0).nx ≤ r.f0 ∧ (l.foldl usStep u0).ny ≤ r.f1 ∧ r.f0 + r.f2 ≤ (l.foldl usStep u0).fx ∧ r.f1 + r.f3 ≤ (l.foldl usStep u0).fy
  | [], u0, h => ⟨h, Int.le_refl _, Int.le_refl _, Int.le_refl _, Int.le_refl _, fun r hr => by cases hr⟩
  | x :: l, u0, h => by
    rw [List.foldl_cons] at h ⊢
    obtain ⟨h1, h2, h3, h4, h5, h6⟩ := us_fold l (usStep u0 x) h
    generalize l.foldl usStep (usStep u0 x) = F at *
    have hrg : (usStep u0 x).rg = ((u0.rg || !sAe x.f0 x.f2) || !sAe x.f1 x.f3) := rfl
    rw [hrg] at h1
    simp only [Bool.or_eq_false_iff, Bool.not_eq_false'] at h1
    obtain ⟨⟨g0, g1⟩, g2⟩ := h1
    have n1 : (usStep u0 x).nx ≤ u0.nx ∧ (usStep u0 x).nx ≤ x.f0 := by simp only [usStep, mnI]; omega
    have n2 : (usStep u0 x).ny ≤ u0.ny ∧ (usStep u0 x).ny ≤ x.f1 := by simp only [usStep, mnI]; omega
    have n3 : u0.fx ≤ (usStep u0 x).fx ∧ x.f0 + x.f2 ≤ (usStep u0 x).fx := by rw [← sA_of g1]; simp only [usStep, mxI]; omega
    have n4 : u0.fy ≤ (usStep u0 x).fy ∧ x.f1 + x.f3 ≤ (usStep u0 x).fy := by rw [← sA_of g2]; simp only [usStep, mxI]; omega
    refine ⟨g0, by omega, by omega, by omega, by omega, fun r hr => ?_⟩
    rcases List.mem_cons.1 hr with rfl | hr
    · exact ⟨g1, g2, by omega, by omega, by omega, by omega⟩
    · exact h6 r hr

theorem unites_true (l : List S50) (a b : Int) : ∃ k, scrimlaw02_RectUnites.f k l a b = some true := by
  unfold scrimlaw02_RectUnites.f scrimlaw02_awake.f rect_Union.f
  simp only [Option.bind_some, if_true]
  by_cases hl : (l.length : Int) > 100
  · exact ⟨0, by rw [if_pos hl]⟩
  simp only [if_neg hl]
  by_cases h0 : l.length = 0
  · refine ⟨1, ?_⟩
    rw [if_pos h0]
    have := unites_loop l a b 0 0 0 0 (by omega) (by decide) (fun r hr => by rw [List.length_eq_zero_iff] at h0; subst h0; cases hr) 0 0 (by omega)
    simpa using this
  simp only [if_neg h0]
  by_cases hm : allMay l = true
  · simp only [if_pos hm]
    by_cases hx : (!(((usOf l).rg || !sSe (usOf l).fx (usOf l).nx) || !sSe (usOf l).fy (usOf l).ny)) = true
    · simp only [if_pos hx]
      simp only [Bool.not_eq_true', Bool.or_eq_false_iff, Bool.not_eq_false'] at hx
      obtain ⟨⟨x1, x2⟩, x3⟩ := hx
      obtain ⟨_, _, _, _, _, hr⟩ := us_fold l usStart x1
      change ∀ r ∈ l, sAe r.f0 r.f2 = true ∧ sAe r.f1 r.f3 = true ∧ (usOf l).nx ≤ r.f0 ∧ (usOf l).ny ≤ r.f1 ∧ r.f0 + r.f2 ≤ (usOf l).fx ∧ r.f1 + r.f3 ≤ (usOf l).fy at hr
      have hmr : ∀ r ∈ l, mayB r.f0 r.f1 r.f2 r.f3 = true := by
        unfold allMay at hm
        rw [List.all_eq_true] at hm
        exact hm
      rw [sS_of x2, sS_of x3]
      have y2 := (sSe_iff _ _).1 x2
      have y3 := (sSe_iff _ _).1 x3
      generalize usOf l = u at *
      have hmay : mayB u.nx u.ny (u.fx - u.nx) (u.fy - u.ny) = true := by
        have hlt : 0 < l.length := by omega
        obtain ⟨_, _, q1, q2, q3, q4⟩ := hr _ (List.getElem_mem hlt)
        have qm := (mayB_iff _ _ _ _).1 (hmr _ (List.getElem_mem hlt))
        rw [mayB_iff]
        omega
      refine ⟨2 * l.length + 1, ?_⟩
      have := unites_loop l a b u.nx u.ny (u.fx - u.nx) (u.fy - u.ny) (by omega) hmay (fun r hr' => ?_) l.length 0 (by omega)
      · simpa using this
      · obtain ⟨_, _, q1, q2, q3, q4⟩ := hr r hr'
        have qm0 := hmr r hr'
        have qm := (mayB_iff _ _ _ _).1 qm0
        constructor
        · intro hh
          rw [hasB_iff] at hh ⊢
          exact ⟨hmay, by omega, by omega, by omega, by omega⟩
        · intro p1 p2
          unfold meetV
          have e1 : mx u.nx r.f0 = r.f0 := by unfold mx; split <;> omega
          have e2 : mx u.ny r.f1 = r.f1 := by unfold mx; split <;> omega
          have e3 : mn (u.nx + (u.fx - u.nx)) (r.f0 + r.f2) = r.f0 + r.f2 := by unfold mn; split <;> omega
          have e4 : mn (u.ny + (u.fy - u.ny)) (r.f1 + r.f3) = r.f1 + r.f3 := by unfold mn; split <;> omega
          rw [e1, e2, e3, e4, if_pos ⟨hmay, qm0, by omega, by omega⟩]
          simp only [Prod.mk.injEq, and_true, true_and]
          omega
    · exact ⟨0, by rw [if_neg hx]⟩
  · simp only [if_neg hm]
    exact ⟨0, rfl⟩
theorem unites_walk (A0 : Option Addr) (c0 : Nat) (l0 : List S50) (a1 : Int) (a2 : Int) (w : World) (hr0 : Kd.C k50 w A0 l0.length l0) (hc0 : l0.length ≤ c0) (g0 : ((∀ y ∈ l0, (good50 y)) ∧ l0.length ≤ maxLen)) (g1 : ((Lit.int .i64 a1).wf = true)) (g2 : ((Lit.int .i64 a2).wf = true)) :
    Calls Try.prog 9 #[.slice A0 l0.length c0, .int .i64 a1, .int .i64 a2] w fun e w' => e = .returned (.bool true) ∧ Below w.heap.size w w' := by
  obtain ⟨k, hk⟩ := unites_true l0 a1 a2
  exact scrimlaw02_RectUnites.calls k A0 c0 l0 a1 a2 true w hr0 hc0 hk
end Go.Proofs.Ytnjheeoogglnaaa.Q
