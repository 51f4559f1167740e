/- LineMoves, joined: the walk and the plain law. -/
import Derived.Test.YthkipbnigokcfaaLnM
import Derived.Test.YthkipbnigokcfaaQxMvC
import Derived.Test.YthkipbnigokcfaaOps
namespace Go.Proofs.Ythkipbnigokcfaa.Q
open Go.RowKit Go.IntWalk Go.Proofs.Ythkipbnigokcfaa.Mem Go.Proofs.YthkipbnigokcfaaW.PrintWords Go.Proofs.YthkipbnigokcfaaW.PrintLast Go.Proofs.YthkipbnigokcfaaW.PrintMore
theorem moves_walk (A0 : Option Addr) (c0 : Nat) (l0 : List S32) (a1 : Int) (w : World) (hr0 : Kd.C k32 w A0 l0.length l0) (hc0 : l0.length ≤ c0) (g0 : ((∀ y ∈ l0, (good32 y)) ∧ l0.length ≤ maxLen)) (g1 : ((Lit.int .i64 a1).wf = true)) :
    Calls Try.prog 5 #[.slice A0 l0.length c0, .int .i64 a1] w fun e w' => e = .returned (.bool true) ∧ Below w.heap.size w w' := by
  obtain ⟨k, hk⟩ := (moves_true l0 a1).rounds
  exact scrimlaw16_LineMoves.calls k A0 c0 l0 a1 true w hr0 hc0 hk rfl
end Go.Proofs.Ythkipbnigokcfaa.Q
