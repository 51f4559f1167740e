/- Written by a program of this session (wip/xrow2.py): what is good about the elements of slices, and that an argument's are. -/
import Derived.Test.YtnjheeoogglnaaaProg
import Derived.Test.YtnjheeoogglnaaaOpen
import Derived.Test.YtnjheeoogglnaaaRx0
namespace Go.Proofs.Ytnjheeoogglnaaa.R
open Go.RowKit Go.Proofs.Ytnjheeoogglnaaa.Open Go.Proofs.YtnjheeoogglnaaaW.PrintWords
set_option linter.unusedVariables false
def good47 (x : S47) : Prop := ((x.f0.size ≤ maxLen) ∧ (((Lit.int .i64 x.f1).wf = true) ∧ (((Lit.int .i64 x.f2).wf = true) ∧ True)))
theorem op47 : Opens Try.prog 47 k47 good47 := opens_iso (fun v => ⟨v.1, v.2.1, v.2.2.1, v.2.2.2⟩) (fun _ => rfl) (opens_struct Try.underlying47 (by kernel_rfl) rfl (opensL_cons rfl (by kernel_rfl) (opens_string Try.underlying9) (opensL_cons rfl (by kernel_rfl) (opens_int Try.underlying2) (opensL_cons rfl (by kernel_rfl) (opens_int Try.underlying2) (opensL_one rfl (by kernel_rfl) (opens_bool Try.underlying4))))))
end Go.Proofs.Ytnjheeoogglnaaa.R
