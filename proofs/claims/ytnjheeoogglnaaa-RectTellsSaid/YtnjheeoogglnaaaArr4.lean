/- An argument that is an array of four numbers, opened. -/
import Derived.Test.YtnjheeoogglnaaaOpen
namespace Go.Proofs.Ytnjheeoogglnaaa.Open
open Go.RowKit
theorem array4 {P : Program} {T e : TypeId} {k : IntKind} {H : Type} {enc : TypeId × Value → H} {w : World} {r : Reach} {b0 base : Nat} {sp : Nat → Bool} {held : Bool} {v : Value} {x : DataW H} {ps : List MemPlace}
    (ht : P.underlying T = some (.array 4 e)) (he : P.underlying e = some (.int k)) (hc : P.cellsOf T = 4) (hce : P.cellsOf e = 1) (hval : Value.okWide P w r b0 T v) (hd : DataW.Trod enc P w base sp held T v x ps) :
    ∃ a0 a1 a2 a3 : Int, v = .agg #[.int k a0, .int k a1, .int k a2, .int k a3] ∧ (Lit.int k a0).wf = true ∧ (Lit.int k a1).wf = true ∧ (Lit.int k a2).wf = true ∧ (Lit.int k a3).wf = true := by
  simp only [Value.okWide, ht] at hval
  obtain ⟨cs, rfl, h2, _⟩ := hval
  rw [hc] at h2
  obtain ⟨c0, c1, c2, c3, rfl⟩ := Go.Joins.array4 h2
  obtain ⟨m, hm⟩ := hd
  obtain ⟨xs, n, _, _, _, hlen, hx⟩ := DataW.trod_array ht hm
  have key : ∀ i, i < 4 → ∃ y, DataW.trod enc P w base sp held n e (([c0, c1, c2, c3].drop i).take 1) = some y := fun i hi => by
    have := hx i hi
    rw [hce, Nat.mul_one, List.getElem?_eq_getElem (by omega)] at this
    exact ⟨_, this⟩
  have one : ∀ {c : Value} {y : DataW H × List MemPlace}, DataW.trod enc P w base sp held n e [c] = some y → ∃ a, c = .int k a ∧ (Lit.int k a).wf = true := fun h => by
    obtain ⟨a, h1, _, h3⟩ := DataW.trod_int he h
    exact ⟨a, by simpa using h1, h3⟩
  obtain ⟨_, y0⟩ := key 0 (by omega)
  obtain ⟨_, y1⟩ := key 1 (by omega)
  obtain ⟨_, y2⟩ := key 2 (by omega)
  obtain ⟨_, y3⟩ := key 3 (by omega)
  obtain ⟨a0, rfl, g0⟩ := one y0
  obtain ⟨a1, rfl, g1⟩ := one y1
  obtain ⟨a2, rfl, g2⟩ := one y2
  obtain ⟨a3, rfl, g3⟩ := one y3
  exact ⟨a0, a1, a2, a3, rfl, g0, g1, g2, g3⟩
end Go.Proofs.Ytnjheeoogglnaaa.Open
