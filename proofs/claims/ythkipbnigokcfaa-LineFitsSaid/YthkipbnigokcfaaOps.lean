/- Written by a program of this session (wip/xrow2.py): what is good about the elements of slices, and that an argument's are. -/
import Derived.Test.YthkipbnigokcfaaProg
import Derived.Test.YthkipbnigokcfaaOpen
import Derived.Test.YthkipbnigokcfaaQx0
namespace Go.Proofs.Ythkipbnigokcfaa.Q
open Go.RowKit Go.Proofs.Ythkipbnigokcfaa.Open Go.Proofs.YthkipbnigokcfaaW.PrintWords
set_option linter.unusedVariables false
def good32 (x : S32) : Prop := (((Lit.int .i64 x.f0).wf = true) ∧ (((Lit.int .i64 x.f1).wf = true) ∧ (((Lit.int .i64 x.f2).wf = true) ∧ (((Lit.int .i64 x.f3).wf = true) ∧ ((x.f4.size ≤ maxLen) ∧ True)))))
theorem op32 : Opens Try.prog 32 k32 good32 := opens_iso (fun v => ⟨v.1, v.2.1, v.2.2.1, v.2.2.2.1, v.2.2.2.2.1, v.2.2.2.2.2⟩) (fun _ => rfl) (opens_struct Try.underlying32 (by kernel_rfl) rfl (opensL_cons rfl (by kernel_rfl) (opens_int Try.underlying3) (opensL_cons rfl (by kernel_rfl) (opens_int Try.underlying2) (opensL_cons rfl (by kernel_rfl) (opens_int Try.underlying2) (opensL_cons rfl (by kernel_rfl) (opens_int Try.underlying2) (opensL_cons rfl (by kernel_rfl) (opens_string Try.underlying9) (opensL_one rfl (by kernel_rfl) (opens_bool Try.underlying4))))))))
end Go.Proofs.Ythkipbnigokcfaa.Q
