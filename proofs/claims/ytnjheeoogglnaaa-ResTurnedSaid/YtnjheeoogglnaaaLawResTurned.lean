/- THE LAW scrim/scrimlaw13.ResTurned: called with any arguments that can be read, it returns true, and each argument reads behind the call as before. No condition. -/
import Derived.Test.YtnjheeoogglnaaaRows
import Derived.Test.YtnjheeoogglnaaaRsU
import Derived.Test.YtnjheeoogglnaaaRowBase
import Derived.Test.YtnjheeoogglnaaaOpen
import Derived.Test.YtnjheeoogglnaaaRx0
import Derived.Test.YtnjheeoogglnaaaOps
namespace Go.Proofs.Ytnjheeoogglnaaa.resTurned
open Go.ChangeShapes Go.WideShapes Go.ChangeAt Go.RowKit Go.Proofs.Ytnjheeoogglnaaa.Open Go.Proofs.Ytnjheeoogglnaaa.R Go.Proofs.YtnjheeoogglnaaaW.PrintWords
open Go.ChangeMaps (open_string shut_string)
set_option linter.unusedVariables false
theorem own : ownKnob Try.prog.godebug = none := by kernel_rfl
theorem o0 : Opens Try.prog 26 (Kd.pair (Kd.slice 47 k47) (Kd.pair (Kd.int .i64) Kd.bool)) (fun x => (((∀ y ∈ x.1, (good47 y)) ∧ x.1.length ≤ maxLen) ∧ (((Lit.int .i64 x.2.1).wf = true) ∧ True))) := (opens_struct Try.underlying26 (by kernel_rfl) rfl (opensL_cons rfl (by kernel_rfl) (opens_slice Try.underlying22 (by kernel_rfl) op47) (opensL_one rfl (by kernel_rfl) (opens_struct Try.underlying24 (by kernel_rfl) rfl (opensL_cons rfl (by kernel_rfl) (opens_int Try.underlying2) (opensL_one rfl (by kernel_rfl) (opens_bool Try.underlying4)))))))
theorem o1 : Opens Try.prog 45 (Kd.slice 2 (Kd.int .i64)) (fun x => ((∀ y ∈ x, ((Lit.int .i64 y).wf = true)) ∧ x.length ≤ maxLen)) := (opens_slice Try.underlying45 (by kernel_rfl) (opens_int Try.underlying2))
theorem laidOut : laidOutB Try.prog = true := by kernel_rfl
set_option maxRecDepth 100000 in
theorem lifted (os : Os) (started : os.Started) (H : Type) (enc : TypeId × Value → H) :
    ReturnsInHanded {} Try.checked os 5 .any (Rows.resTurnedSpec.pre6 enc Try.prog Try.f5 Rows.resTurnedRow.domain false) (Rows.resTurnedSpec.post enc Try.prog Try.f5 false true false false) := by
  refine returnsInHanded_of_change_sized (C := Try.checked) own started (by kernel_rfl) Try.func5
    (ChangeSpec.witness6 (enc := enc) (C := Try.checked) false ⟨#[], #[.agg #[.slice none 0 0, .int .i64 0, .bool false], .slice none 0 0, .string ByteArray.empty], []⟩ 8 (by kernel_rfl) (by kernel_rfl) (by kernel_rfl) (by kernel_rfl)) ?_
  intro W base args ds gs before hval0 hW hcnd hsz0 _
  have hval : ∀ (j : Nat) t v, Try.f5.params[j]? = some t → args[j]? = some v → Value.okWide Try.prog W .any base t v := hval0
  have hW' := hW
  obtain ⟨p, q, hA0, hV, rfl, hfz, hnd⟩ := hW
  have hA : DataW.TrodAll enc Try.prog W 0 (fun _ => true) true Try.f5.params.toList args.toList ds p := hA0
  rw [Try.params5] at hA hval
  obtain ⟨v0, vs0, d0, ds0, p0, q0, hargs, rfl, rfl, h0, r0⟩ := trodAll_cons hA
  obtain ⟨v1, vs1, d1, ds1, p1, q1, rfl, rfl, rfl, h1, r1⟩ := trodAll_cons r0
  obtain ⟨v2, vs2, d2, ds2, p2, q2, rfl, rfl, rfl, h2, r2⟩ := trodAll_cons r1
  obtain ⟨rfl, rfl, rfl⟩ := trodAll_nil r2
  obtain rfl : args = #[v0, v1, v2] := by cases args; simp_all
  obtain ⟨rfl, rfl⟩ := trodVars_none hV
  have lt0 : ∀ x ∈ p0, x.block < W.heap.size := by obtain ⟨m, hm⟩ := h0; exact DataW.trod_lt m _ _ _ hm
  obtain ⟨b0, rfl, _⟩ := okWide_struct Try.underlying26 (hval 0 26 v0 rfl rfl)
  obtain ⟨⟨l0_0, ⟨a0_1_0, a0_1_1⟩⟩, kk0, gg0⟩ := o0.of h0
  obtain ⟨cs0, e0⟩ : ∃ cs, cs = (Value.agg b0).cells.toList := ⟨_, rfl⟩
  rw [← e0] at kk0
  obtain ⟨_, _, rfl, ⟨A0_0, c0_0, rfl, hc0_0, hr0_0⟩, ⟨_, _, rfl, rfl, rfl⟩⟩ := kk0
  obtain ⟨g0_0, ⟨g0_1_0, g0_1_1⟩⟩ := gg0
  obtain rfl : b0 = #[.slice A0_0 l0_0.length c0_0, .int .i64 a0_1_0, .bool a0_1_1] := by cases b0; simpa [Value.cells] using e0.symm
  have lt1 : ∀ x ∈ p1, x.block < W.heap.size := by obtain ⟨m, hm⟩ := h1; exact DataW.trod_lt m _ _ _ hm
  obtain ⟨A1, len1, c1, rfl⟩ := okWide_slice Try.underlying45 (hval 1 45 v1 rfl rfl)
  obtain ⟨l1, ⟨A1', c1', cs1, hc1, hr1⟩, g1⟩ := o1.of h1
  simp only [Value.cells, List.cons.injEq, Value.slice.injEq, and_true] at cs1
  obtain ⟨rfl, rfl, rfl⟩ := cs1
  obtain ⟨a2, rfl, rfl, rfl, g2⟩ := open_string Try.underlying9 (hval 2 9 v2 rfl rfl) h2
  clear hA0 hval0 hsz0
  refine (R.turned_walk A0_0 c0_0 l0_0 a0_1_0 a0_1_1 A1 c1 l1 a2 W hr0_0 hc0_0 hr1 hc1 g0_0 g0_1_0 g1 g2).mono fun e W' ⟨he, bel⟩ => ?_
  subst he
  exact ⟨_, rfl, _, _, _, [], _, [], hW', trodAll_mk1 (shut_bool Try.underlying4 _), (trodAll_cons_mk (Below.trod laidOut (by kernel_rfl) (of_decide_eq_true (by kernel_rfl)) h0 bel lt0) (trodAll_cons_mk (Below.trod laidOut (by kernel_rfl) (of_decide_eq_true (by kernel_rfl)) h1 bel lt1) (trodAll_cons_mk (shut_string Try.underlying9 g2) trodAll_mk0))), rfl, bel.frame _, fun h => by cases h⟩
theorem over : Rows.resTurnedRow.holds Try.pinned (OpenSpec.ofChange Rows.resTurnedSpec) :=
  OpenClaim.holds_of_wide 5 Try.f5 rfl rfl rfl rfl rfl rfl rfl ⟨rfl, rfl, rfl, rfl, rfl⟩ rfl rfl rfl rfl rfl (by kernel_rfl) Try.func5 (by kernel_rfl)
    (of_decide_eq_true (by kernel_rfl)) (by unfold Func.isWrapper; first | (rw [if_pos (by decide +kernel)]; kernel_rfl) | (rw [if_neg (by decide +kernel)]; exact ⟨rfl, rfl⟩))
    (fun os started H enc _ => lifted os started H enc)
theorem proved : Rows.ResTurnedSaid := over
#print axioms proved
end Go.Proofs.Ytnjheeoogglnaaa.resTurned
namespace Go.Proofs.Ytnjheeoogglnaaa
/-- The row, under a short name, for the claim. -/
theorem resTurned_holds : Rows.ResTurnedSaid := resTurned.proved
end Go.Proofs.Ytnjheeoogglnaaa
