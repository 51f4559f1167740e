/- THE LAW scrim/scrimlaw02.RectTells: called with any arguments that can be read, it returns true, and each argument reads behind the call as before. No condition. -/
import Derived.Test.YtnjheeoogglnaaaRows
import Derived.Test.YtnjheeoogglnaaaRcK
import Derived.Test.YtnjheeoogglnaaaRowBase
import Derived.Test.YtnjheeoogglnaaaOpen
import Derived.Test.YtnjheeoogglnaaaQx0
import Derived.Test.YtnjheeoogglnaaaOps
import Derived.Test.YtnjheeoogglnaaaArr4
namespace Go.Proofs.Ytnjheeoogglnaaa.rectTells
open Go.ChangeShapes Go.WideShapes Go.ChangeAt Go.RowKit Go.Proofs.Ytnjheeoogglnaaa.Open Go.Proofs.Ytnjheeoogglnaaa.Q Go.Proofs.YtnjheeoogglnaaaW.PrintWords
open Go.ChangeMaps (open_string shut_string)
set_option linter.unusedVariables false
theorem own : ownKnob Try.prog.godebug = none := by kernel_rfl
theorem o0 : Opens Try.prog 50 (Kd.pair (Kd.int .i64) (Kd.pair (Kd.int .i64) (Kd.pair (Kd.int .i64) (Kd.int .i64)))) (fun x => (((Lit.int .i64 x.1).wf = true) ∧ (((Lit.int .i64 x.2.1).wf = true) ∧ (((Lit.int .i64 x.2.2.1).wf = true) ∧ ((Lit.int .i64 x.2.2.2).wf = true))))) := (opens_struct Try.underlying50 (by kernel_rfl) rfl (opensL_cons rfl (by kernel_rfl) (opens_int Try.underlying2) (opensL_cons rfl (by kernel_rfl) (opens_int Try.underlying2) (opensL_cons rfl (by kernel_rfl) (opens_int Try.underlying2) (opensL_one rfl (by kernel_rfl) (opens_int Try.underlying2))))))
theorem o1 : Opens Try.prog 50 (Kd.pair (Kd.int .i64) (Kd.pair (Kd.int .i64) (Kd.pair (Kd.int .i64) (Kd.int .i64)))) (fun x => (((Lit.int .i64 x.1).wf = true) ∧ (((Lit.int .i64 x.2.1).wf = true) ∧ (((Lit.int .i64 x.2.2.1).wf = true) ∧ ((Lit.int .i64 x.2.2.2).wf = true))))) := (opens_struct Try.underlying50 (by kernel_rfl) rfl (opensL_cons rfl (by kernel_rfl) (opens_int Try.underlying2) (opensL_cons rfl (by kernel_rfl) (opens_int Try.underlying2) (opensL_cons rfl (by kernel_rfl) (opens_int Try.underlying2) (opensL_one rfl (by kernel_rfl) (opens_int Try.underlying2))))))
theorem o3 : Opens Try.prog 52 (Kd.slice 50 k50) (fun x => ((∀ y ∈ x, (good50 y)) ∧ x.length ≤ maxLen)) := (opens_slice Try.underlying52 (by kernel_rfl) op50)
theorem laidOut : laidOutB Try.prog = true := by kernel_rfl
set_option maxRecDepth 100000 in
theorem lifted (os : Os) (started : os.Started) (H : Type) (enc : TypeId × Value → H) :
    ReturnsInHanded {} Try.checked os 6 .any (Rows.rectTellsSpec.pre6 enc Try.prog Try.f6 Rows.rectTellsRow.domain false) (Rows.rectTellsSpec.post enc Try.prog Try.f6 false true false false) := by
  refine returnsInHanded_of_change_sized (C := Try.checked) own started (by kernel_rfl) Try.func6
    (ChangeSpec.witness6 (enc := enc) (C := Try.checked) false ⟨#[], #[.agg #[.int .i64 0, .int .i64 0, .int .i64 0, .int .i64 0], .agg #[.int .i64 0, .int .i64 0, .int .i64 0, .int .i64 0], .agg #[.int .i64 0, .int .i64 0, .int .i64 0, .int .i64 0], .slice none 0 0], []⟩ 8 (by kernel_rfl) (by kernel_rfl) (by kernel_rfl) (by kernel_rfl)) ?_
  intro W base args ds gs before hval0 hW hcnd hsz0 _
  have hval : ∀ (j : Nat) t v, Try.f6.params[j]? = some t → args[j]? = some v → Value.okWide Try.prog W .any base t v := hval0
  have hW' := hW
  obtain ⟨p, q, hA0, hV, rfl, hfz, hnd⟩ := hW
  have hA : DataW.TrodAll enc Try.prog W 0 (fun _ => true) true Try.f6.params.toList args.toList ds p := hA0
  rw [Try.params6] at hA hval
  obtain ⟨v0, vs0, d0, ds0, p0, q0, hargs, rfl, rfl, h0, r0⟩ := trodAll_cons hA
  obtain ⟨v1, vs1, d1, ds1, p1, q1, rfl, rfl, rfl, h1, r1⟩ := trodAll_cons r0
  obtain ⟨v2, vs2, d2, ds2, p2, q2, rfl, rfl, rfl, h2, r2⟩ := trodAll_cons r1
  obtain ⟨v3, vs3, d3, ds3, p3, q3, rfl, rfl, rfl, h3, r3⟩ := trodAll_cons r2
  obtain ⟨rfl, rfl, rfl⟩ := trodAll_nil r3
  obtain rfl : args = #[v0, v1, v2, v3] := by cases args; simp_all
  obtain ⟨rfl, rfl⟩ := trodVars_none hV
  have lt0 : ∀ x ∈ p0, x.block < W.heap.size := by obtain ⟨m, hm⟩ := h0; exact DataW.trod_lt m _ _ _ hm
  obtain ⟨b0, rfl, _⟩ := okWide_struct Try.underlying50 (hval 0 50 v0 rfl rfl)
  obtain ⟨⟨a0_0, a0_1, a0_2, a0_3⟩, kk0, gg0⟩ := o0.of h0
  obtain ⟨cs0, e0⟩ : ∃ cs, cs = (Value.agg b0).cells.toList := ⟨_, rfl⟩
  rw [← e0] at kk0
  obtain ⟨_, _, rfl, rfl, ⟨_, _, rfl, rfl, ⟨_, _, rfl, rfl, rfl⟩⟩⟩ := kk0
  obtain ⟨g0_0, g0_1, g0_2, g0_3⟩ := gg0
  obtain rfl : b0 = #[.int .i64 a0_0, .int .i64 a0_1, .int .i64 a0_2, .int .i64 a0_3] := by cases b0; simpa [Value.cells] using e0.symm
  have lt1 : ∀ x ∈ p1, x.block < W.heap.size := by obtain ⟨m, hm⟩ := h1; exact DataW.trod_lt m _ _ _ hm
  obtain ⟨b1, rfl, _⟩ := okWide_struct Try.underlying50 (hval 1 50 v1 rfl rfl)
  obtain ⟨⟨a1_0, a1_1, a1_2, a1_3⟩, kk1, gg1⟩ := o1.of h1
  obtain ⟨cs1, e1⟩ : ∃ cs, cs = (Value.agg b1).cells.toList := ⟨_, rfl⟩
  rw [← e1] at kk1
  obtain ⟨_, _, rfl, rfl, ⟨_, _, rfl, rfl, ⟨_, _, rfl, rfl, rfl⟩⟩⟩ := kk1
  obtain ⟨g1_0, g1_1, g1_2, g1_3⟩ := gg1
  obtain rfl : b1 = #[.int .i64 a1_0, .int .i64 a1_1, .int .i64 a1_2, .int .i64 a1_3] := by cases b1; simpa [Value.cells] using e1.symm
  have lt2 : ∀ x ∈ p2, x.block < W.heap.size := by obtain ⟨m, hm⟩ := h2; exact DataW.trod_lt m _ _ _ hm
  obtain ⟨a2_0, a2_1, a2_2, a2_3, rfl, g2_0, g2_1, g2_2, g2_3⟩ := array4 Try.underlying51 Try.underlying2 (by kernel_rfl) (by kernel_rfl) (hval 2 51 v2 rfl rfl) h2
  have lt3 : ∀ x ∈ p3, x.block < W.heap.size := by obtain ⟨m, hm⟩ := h3; exact DataW.trod_lt m _ _ _ hm
  obtain ⟨A3, len3, c3, rfl⟩ := okWide_slice Try.underlying52 (hval 3 52 v3 rfl rfl)
  obtain ⟨l3, ⟨A3', c3', cs3, hc3, hr3⟩, g3⟩ := o3.of h3
  simp only [Value.cells, List.cons.injEq, Value.slice.injEq, and_true] at cs3
  obtain ⟨rfl, rfl, rfl⟩ := cs3
  clear hA0 hval0 hsz0
  refine (Q.tells_walk a0_0 a0_1 a0_2 a0_3 a1_0 a1_1 a1_2 a1_3 a2_0 a2_1 a2_2 a2_3 A3 c3 l3 W hr3 hc3).mono fun e W' ⟨he, bel⟩ => ?_
  subst he
  exact ⟨_, rfl, _, _, _, [], _, [], hW', trodAll_mk1 (shut_bool Try.underlying4 _), (trodAll_cons_mk (Below.trod laidOut (by kernel_rfl) (of_decide_eq_true (by kernel_rfl)) h0 bel lt0) (trodAll_cons_mk (Below.trod laidOut (by kernel_rfl) (of_decide_eq_true (by kernel_rfl)) h1 bel lt1) (trodAll_cons_mk (Below.trod laidOut (by kernel_rfl) (of_decide_eq_true (by kernel_rfl)) h2 bel lt2) (trodAll_cons_mk (Below.trod laidOut (by kernel_rfl) (of_decide_eq_true (by kernel_rfl)) h3 bel lt3) trodAll_mk0)))), rfl, bel.frame _, fun h => by cases h⟩
theorem over : Rows.rectTellsRow.holds Try.pinned (OpenSpec.ofChange Rows.rectTellsSpec) :=
  OpenClaim.holds_of_wide 6 Try.f6 rfl rfl rfl rfl rfl rfl rfl ⟨rfl, rfl, rfl, rfl, rfl⟩ rfl rfl rfl rfl rfl (by kernel_rfl) Try.func6 (by kernel_rfl)
    (of_decide_eq_true (by kernel_rfl)) (by unfold Func.isWrapper; first | (rw [if_pos (by decide +kernel)]; kernel_rfl) | (rw [if_neg (by decide +kernel)]; exact ⟨rfl, rfl⟩))
    (fun os started H enc _ => lifted os started H enc)
theorem proved : Rows.RectTellsSaid := over
#print axioms proved
end Go.Proofs.Ytnjheeoogglnaaa.rectTells
namespace Go.Proofs.Ytnjheeoogglnaaa
/-- The row, under a short name, for the claim. -/
theorem rectTells_holds : Rows.RectTellsSaid := rectTells.proved
end Go.Proofs.Ytnjheeoogglnaaa
