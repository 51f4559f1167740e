/- THE LAW scrim/scrimlaw16.LineFits: called with any arguments that can be read, it returns true, and each argument reads behind the call as before. No condition. -/
import Derived.Test.YthkipbnigokcfaaRows
import Derived.Test.YthkipbnigokcfaaLnQ
import Derived.Test.YthkipbnigokcfaaRowBase
import Derived.Test.YthkipbnigokcfaaOpen
import Derived.Test.YthkipbnigokcfaaQx0
import Derived.Test.YthkipbnigokcfaaOps
namespace Go.Proofs.Ythkipbnigokcfaa.lineFits
open Go.ChangeShapes Go.WideShapes Go.ChangeAt Go.RowKit Go.Proofs.Ythkipbnigokcfaa.Open Go.Proofs.Ythkipbnigokcfaa.Q Go.Proofs.YthkipbnigokcfaaW.PrintWords
open Go.ChangeMaps (open_string shut_string)
set_option linter.unusedVariables false
theorem own : ownKnob Try.prog.godebug = none := by kernel_rfl
theorem o0 : Opens Try.prog 22 (Kd.slice 32 k32) (fun x => ((∀ y ∈ x, (good32 y)) ∧ x.length ≤ maxLen)) := (opens_slice Try.underlying22 (by kernel_rfl) op32)
theorem laidOut : laidOutB Try.prog = true := by kernel_rfl
set_option maxRecDepth 100000 in
theorem lifted (os : Os) (started : os.Started) (H : Type) (enc : TypeId × Value → H) :
    ReturnsInHanded {} Try.checked os 7 .any (Rows.lineFitsSpec.pre6 enc Try.prog Try.f7 Rows.lineFitsRow.domain false) (Rows.lineFitsSpec.post enc Try.prog Try.f7 false true false false) := by
  refine returnsInHanded_of_change_sized (C := Try.checked) own started (by kernel_rfl) Try.func7
    (ChangeSpec.witness6 (enc := enc) (C := Try.checked) false ⟨#[], #[.slice none 0 0, .int .i64 0], []⟩ 8 (by kernel_rfl) (by kernel_rfl) (by kernel_rfl) (by kernel_rfl)) ?_
  intro W base args ds gs before hval0 hW hcnd hsz0 _
  have hval : ∀ (j : Nat) t v, Try.f7.params[j]? = some t → args[j]? = some v → Value.okWide Try.prog W .any base t v := hval0
  have hW' := hW
  obtain ⟨p, q, hA0, hV, rfl, hfz, hnd⟩ := hW
  have hA : DataW.TrodAll enc Try.prog W 0 (fun _ => true) true Try.f7.params.toList args.toList ds p := hA0
  rw [Try.params7] at hA hval
  obtain ⟨v0, vs0, d0, ds0, p0, q0, hargs, rfl, rfl, h0, r0⟩ := trodAll_cons hA
  obtain ⟨v1, vs1, d1, ds1, p1, q1, rfl, rfl, rfl, h1, r1⟩ := trodAll_cons r0
  obtain ⟨rfl, rfl, rfl⟩ := trodAll_nil r1
  obtain rfl : args = #[v0, v1] := by cases args; simp_all
  obtain ⟨rfl, rfl⟩ := trodVars_none hV
  have lt0 : ∀ x ∈ p0, x.block < W.heap.size := by obtain ⟨m, hm⟩ := h0; exact DataW.trod_lt m _ _ _ hm
  obtain ⟨A0, len0, c0, rfl⟩ := okWide_slice Try.underlying22 (hval 0 22 v0 rfl rfl)
  obtain ⟨l0, ⟨A0', c0', cs0, hc0, hr0⟩, g0⟩ := o0.of h0
  simp only [Value.cells, List.cons.injEq, Value.slice.injEq, and_true] at cs0
  obtain ⟨rfl, rfl, rfl⟩ := cs0
  obtain ⟨a1, rfl, rfl, rfl, g1⟩ := open_int Try.underlying2 (hval 1 2 v1 rfl rfl) h1
  clear hA0 hval0 hsz0
  refine (Q.fits_walk A0 c0 l0 a1 W hr0 hc0 g0 g1).mono fun e W' ⟨he, bel⟩ => ?_
  subst he
  exact ⟨_, rfl, _, _, _, [], _, [], hW', trodAll_mk1 (shut_bool Try.underlying4 _), (trodAll_cons_mk (Below.trod laidOut (by kernel_rfl) (of_decide_eq_true (by kernel_rfl)) h0 bel lt0) (trodAll_cons_mk (shut_int Try.underlying2 g1) trodAll_mk0)), rfl, bel.frame _, fun h => by cases h⟩
theorem over : Rows.lineFitsRow.holds Try.pinned (OpenSpec.ofChange Rows.lineFitsSpec) :=
  OpenClaim.holds_of_wide 7 Try.f7 rfl rfl rfl rfl rfl rfl rfl ⟨rfl, rfl, rfl, rfl, rfl⟩ rfl rfl rfl rfl rfl (by kernel_rfl) Try.func7 (by kernel_rfl)
    (of_decide_eq_true (by kernel_rfl)) (by unfold Func.isWrapper; first | (rw [if_pos (by decide +kernel)]; kernel_rfl) | (rw [if_neg (by decide +kernel)]; exact ⟨rfl, rfl⟩))
    (fun os started H enc _ => lifted os started H enc)
theorem proved : Rows.LineFitsSaid := over
#print axioms proved
end Go.Proofs.Ythkipbnigokcfaa.lineFits
namespace Go.Proofs.Ythkipbnigokcfaa
/-- The row, under a short name, for the claim. -/
theorem lineFits_holds : Rows.LineFitsSaid := lineFits.proved
end Go.Proofs.Ythkipbnigokcfaa
