/- What the rows of laws need to hand their arguments on: slices of numbers as lists. -/
import Derived.WalkKit
import Derived.ProofKit
import Derived.OpenShut
import Derived.ShutString
import Derived.ChangeOld
import Derived.Below
import Derived.SizedLaws
import Derived.Test.YtkjgnkmnngaioaaMmx
import Derived.Test.YtkjgnkmnngaioaaWSized
namespace Go.Proofs.Ytkjgnkmnngaioaa.RowBase
open Go.RowKit Go.Proofs.Ytkjgnkmnngaioaa.Mem
theorem ints_arr {W : World} {x : Addr} {len cap : Nat} {zs : List Int} {k : IntKind} (hl : len ≤ cap) (hz : zs.length = cap)
    (hcell : ∀ i, i < zs.length → W.cell? (x.add i) = some (.int k (zs.getD i 0))) (hw : ∀ n ∈ zs, (Lit.int k n).wf = true) :
    ∃ l : List Int, len = l.length ∧ Arr W (some x) l.length (fun j => .int k (l.getD j 0)) ∧ (∀ x ∈ l, (Lit.int k x).wf = true) := by
  refine ⟨zs.take len, by simp; omega, ?_, fun n hn => hw n (List.mem_of_mem_take hn)⟩
  by_cases h0 : len = 0
  · exact .inl (by simp [h0])
  · obtain ⟨b, o, rfl, hc⟩ := ints_at hcell (by omega)
    refine .inr ⟨b, o, rfl, ?_, fun j hj => ?_⟩
    · have h1 := hc 0 (by omega)
      exact lt_of_cell h1
    · have hj' : j < len := by simp at hj; omega
      rw [hc j (by omega)]
      simp [hj']
end Go.Proofs.Ytkjgnkmnngaioaa.RowBase
