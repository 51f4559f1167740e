/- Written by a program of this session (wip/xrow2.py): what is good about the elements of slices, and that an argument's are. -/
import Derived.Test.YtnjheeoogglnaaaProg
import Derived.Test.YtnjheeoogglnaaaOpen
import Derived.Test.YtnjheeoogglnaaaQx0
namespace Go.Proofs.Ytnjheeoogglnaaa.Q
open Go.RowKit Go.Proofs.Ytnjheeoogglnaaa.Open Go.Proofs.YtnjheeoogglnaaaW.PrintWords
set_option linter.unusedVariables false
def good50 (x : S50) : Prop := (((Lit.int .i64 x.f0).wf = true) ∧ (((Lit.int .i64 x.f1).wf = true) ∧ (((Lit.int .i64 x.f2).wf = true) ∧ ((Lit.int .i64 x.f3).wf = true))))
theorem op50 : Opens Try.prog 50 k50 good50 := opens_iso (fun v => ⟨v.1, v.2.1, v.2.2.1, v.2.2.2⟩) (fun _ => rfl) (opens_struct Try.underlying50 (by kernel_rfl) rfl (opensL_cons rfl (by kernel_rfl) (opens_int Try.underlying2) (opensL_cons rfl (by kernel_rfl) (opens_int Try.underlying2) (opensL_cons rfl (by kernel_rfl) (opens_int Try.underlying2) (opensL_one rfl (by kernel_rfl) (opens_int Try.underlying2))))))
end Go.Proofs.Ytnjheeoogglnaaa.Q
