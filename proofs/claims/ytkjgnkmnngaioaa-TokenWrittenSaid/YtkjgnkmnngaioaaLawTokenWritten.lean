/- THE LAW scrim/scrimlaw04.TokenWritten: called with any arguments that can be read, it returns true, and each argument reads behind the call as before. No condition. -/
import Derived.Test.YtkjgnkmnngaioaaRows
import Derived.Test.YtkjgnkmnngaioaaTwM
import Derived.Test.YtkjgnkmnngaioaaRowBase
import Derived.Test.YtkjgnkmnngaioaaOpen
import Derived.Test.YtkjgnkmnngaioaaQx0
import Derived.Test.YtkjgnkmnngaioaaOps
namespace Go.Proofs.Ytkjgnkmnngaioaa.tokenWritten
open Go.ChangeShapes Go.WideShapes Go.ChangeAt Go.RowKit Go.Proofs.Ytkjgnkmnngaioaa.Open Go.Proofs.Ytkjgnkmnngaioaa.Q Go.Proofs.YtkjgnkmnngaioaaW.PrintWords
open Go.ChangeMaps (open_string shut_string)
set_option linter.unusedVariables false
theorem own : ownKnob Try.prog.godebug = none := by kernel_rfl
theorem o1 : Opens Try.prog 29 (Kd.slice 36 k36) (fun x => ((∀ y ∈ x, (good36 y)) ∧ x.length ≤ maxLen)) := (opens_slice Try.underlying29 (by kernel_rfl) op36)
theorem laidOut : laidOutB Try.prog = true := by kernel_rfl
set_option maxRecDepth 100000 in
theorem lifted (os : Os) (started : os.Started) (H : Type) (enc : TypeId × Value → H) :
    ReturnsInHanded {} Try.checked os 5 .any (Rows.tokenWrittenSpec.pre6 enc Try.prog Try.f5 Rows.tokenWrittenRow.domain false) (Rows.tokenWrittenSpec.post enc Try.prog Try.f5 false true false false) := by
  refine returnsInHanded_of_change_sized (C := Try.checked) own started (by kernel_rfl) Try.func5
    (ChangeSpec.witness6 (enc := enc) (C := Try.checked) false ⟨#[], #[.string ByteArray.empty, .slice none 0 0, .string ByteArray.empty], []⟩ 8 (by kernel_rfl) (by kernel_rfl) (by kernel_rfl) (by kernel_rfl)) ?_
  intro W base args ds gs before hval0 hW hcnd hsz0 _
  have hval : ∀ (j : Nat) t v, Try.f5.params[j]? = some t → args[j]? = some v → Value.okWide Try.prog W .any base t v := hval0
  have hW' := hW
  obtain ⟨p, q, hA0, hV, rfl, hfz, hnd⟩ := hW
  have hA : DataW.TrodAll enc Try.prog W 0 (fun _ => true) true Try.f5.params.toList args.toList ds p := hA0
  rw [Try.params5] at hA hval
  obtain ⟨v0, vs0, d0, ds0, p0, q0, hargs, rfl, rfl, h0, r0⟩ := trodAll_cons hA
  obtain ⟨v1, vs1, d1, ds1, p1, q1, rfl, rfl, rfl, h1, r1⟩ := trodAll_cons r0
  obtain ⟨v2, vs2, d2, ds2, p2, q2, rfl, rfl, rfl, h2, r2⟩ := trodAll_cons r1
  obtain ⟨rfl, rfl, rfl⟩ := trodAll_nil r2
  obtain rfl : args = #[v0, v1, v2] := by cases args; simp_all
  obtain ⟨rfl, rfl⟩ := trodVars_none hV
  obtain ⟨a0, rfl, rfl, rfl, g0⟩ := open_string Try.underlying9 (hval 0 9 v0 rfl rfl) h0
  have lt1 : ∀ x ∈ p1, x.block < W.heap.size := by obtain ⟨m, hm⟩ := h1; exact DataW.trod_lt m _ _ _ hm
  obtain ⟨A1, len1, c1, rfl⟩ := okWide_slice Try.underlying29 (hval 1 29 v1 rfl rfl)
  obtain ⟨l1, ⟨A1', c1', cs1, hc1, hr1⟩, g1⟩ := o1.of h1
  simp only [Value.cells, List.cons.injEq, Value.slice.injEq, and_true] at cs1
  obtain ⟨rfl, rfl, rfl⟩ := cs1
  obtain ⟨a2, rfl, rfl, rfl, g2⟩ := open_string Try.underlying9 (hval 2 9 v2 rfl rfl) h2
  clear hA0 hval0 hsz0
  refine (Q.written_walk a0 A1 c1 l1 a2 W hr1 hc1 g0 g1 g2).mono fun e W' ⟨he, bel⟩ => ?_
  subst he
  exact ⟨_, rfl, _, _, _, [], _, [], hW', trodAll_mk1 (shut_bool Try.underlying4 _), (trodAll_cons_mk (shut_string Try.underlying9 g0) (trodAll_cons_mk (Below.trod laidOut (by kernel_rfl) (of_decide_eq_true (by kernel_rfl)) h1 bel lt1) (trodAll_cons_mk (shut_string Try.underlying9 g2) trodAll_mk0))), rfl, bel.frame _, fun h => by cases h⟩
theorem over : Rows.tokenWrittenRow.holds Try.pinned (OpenSpec.ofChange Rows.tokenWrittenSpec) :=
  OpenClaim.holds_of_wide 5 Try.f5 rfl rfl rfl rfl rfl rfl rfl ⟨rfl, rfl, rfl, rfl, rfl⟩ rfl rfl rfl rfl rfl (by kernel_rfl) Try.func5 (by kernel_rfl)
    (of_decide_eq_true (by kernel_rfl)) (by unfold Func.isWrapper; first | (rw [if_pos (by decide +kernel)]; kernel_rfl) | (rw [if_neg (by decide +kernel)]; exact ⟨rfl, rfl⟩))
    (fun os started H enc _ => lifted os started H enc)
theorem proved : Rows.TokenWrittenSaid := over
#print axioms proved
end Go.Proofs.Ytkjgnkmnngaioaa.tokenWritten
namespace Go.Proofs.Ytkjgnkmnngaioaa
/-- The row, under a short name, for the claim. -/
theorem tokenWritten_holds : Rows.TokenWrittenSaid := tokenWritten.proved
end Go.Proofs.Ytkjgnkmnngaioaa
