/- Written by a program of this session (wip/xrow2.py): what is good about the elements of slices, and that an argument's are. -/
import Derived.Test.YtkjgnkmnngaioaaProg
import Derived.Test.YtkjgnkmnngaioaaOpen
import Derived.Test.YtkjgnkmnngaioaaQx0
namespace Go.Proofs.Ytkjgnkmnngaioaa.Q
open Go.RowKit Go.Proofs.Ytkjgnkmnngaioaa.Open Go.Proofs.YtkjgnkmnngaioaaW.PrintWords
set_option linter.unusedVariables false
def good36 (x : S36) : Prop := ((x.f0.size ≤ maxLen) ∧ (x.f1.size ≤ maxLen))
theorem op36 : Opens Try.prog 36 k36 good36 := opens_iso (fun v => ⟨v.1, v.2⟩) (fun _ => rfl) (opens_struct Try.underlying36 (by kernel_rfl) rfl (opensL_cons rfl (by kernel_rfl) (opens_string Try.underlying9) (opensL_one rfl (by kernel_rfl) (opens_string Try.underlying9))))
end Go.Proofs.Ytkjgnkmnngaioaa.Q
