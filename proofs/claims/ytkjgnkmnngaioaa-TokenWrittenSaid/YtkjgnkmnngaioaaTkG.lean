/- What token's functions tell, as plain functions, and that the Go functions tell it. -/
import Derived.Test.YtkjgnkmnngaioaaRd
import Derived.Test.YtkjgnkmnngaioaaSign
namespace Go.Proofs.Ytkjgnkmnngaioaa.Q
open Go.RowKit Go.Proofs.Ytkjgnkmnngaioaa.Mem Go.Proofs.YtkjgnkmnngaioaaW.PrintWords Go.Proofs.YtkjgnkmnngaioaaW.PrintLast Go.Proofs.YtkjgnkmnngaioaaW.PrintMore
set_option linter.unusedVariables false
set_option linter.unusedSimpArgs false

def token_Read.f (a0 : ByteArray) : Option (List S31 × Int) := if a0.size ≤ 140737488351232 then (if a0.size ≤ 4000 then some (readF a0.data.toList, 0) else some ([], 3)) else none
theorem token_Read.calls (a0 : ByteArray) (r0 : List S31) (r1 : Int) (w : World) (h : token_Read.f a0 = some (r0, r1)) :
    Calls Try.prog 8 #[.string a0] w fun e w' => ∃ v, e = .returned (.tuple #[v, .int .i64 r1]) ∧ Kd.S k31 31 w' w.heap.size (fun _ => True) v r0 ∧ Below w.heap.size w w' := by
  unfold token_Read.f at h
  split at h
  · rename_i h1
    split at h
    · rename_i h2
      injection h with h
      injection h with h3 h4
      subst h3 h4
      exact read_calls a0 w h2
    · rename_i h2
      injection h with h
      injection h with h3 h4
      subst h3 h4
      exact (read_long a0 w (by omega) h1).mono fun e w' ⟨he, hw⟩ => ⟨_, he, Kd.S_nil _ _ _ _ _, by subst hw; exact Below.refl _ _⟩
  · cases h
def token_Tell.f (a0 : ByteArray) : Option ByteArray := if a0.size ≤ 600000 then some (st (tellF a0 0)) else none
theorem token_Tell.calls (a0 r : ByteArray) (w : World) (h : token_Tell.f a0 = some r) :
    Calls Try.prog 9 #[.string a0] w fun e w' => e = .returned (.string r) ∧ Below w.heap.size w w' := by
  unfold token_Tell.f at h
  split at h
  · rename_i h1
    injection h with h
    subst h
    exact tell_calls a0 w h1
  · cases h
def token_Sign.f (a0 : ByteArray) (a1 : Bool) : Option ByteArray := if a0.size ≤ 600000 then some (st (signF (sgn a1) a0.data.toList)) else none
theorem token_Sign.calls (a0 : ByteArray) (a1 : Bool) (r : ByteArray) (w : World) (h : token_Sign.f a0 a1 = some r) :
    Calls Try.prog 7 #[.string a0, .bool a1] w fun e w' => e = .returned (.string r) ∧ Below w.heap.size w w' := by
  unfold token_Sign.f at h
  split at h
  · rename_i h1
    injection h with h
    subst h
    exact sign_calls a0 a1 w h1
  · cases h
def token_Name.f (a0 : ByteArray) : Option Bool := if a0.size ≤ 9223372036854775807 then some (nameB a0.data.toList) else none
theorem token_Name.calls (a0 : ByteArray) (r : Bool) (w : World) (h : token_Name.f a0 = some r) :
    Calls Try.prog 10 #[.string a0] w fun e w' => e = .returned (.bool r) ∧ Below w.heap.size w w' := by
  unfold token_Name.f at h
  split at h
  · rename_i h1
    injection h with h
    subst h
    exact isName_calls a0 w h1
  · cases h
end Go.Proofs.Ytkjgnkmnngaioaa.Q
