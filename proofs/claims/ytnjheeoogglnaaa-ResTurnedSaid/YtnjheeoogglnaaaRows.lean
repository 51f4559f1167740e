/-
  No cell of these rows narrows 'for every input' (looked for: loops, veiled, ifaces, maps, wideKeys, modest, calm, conditions, laid).
  DERIVED. THE GIVEN ROWS OF THIS SEAT. 8 by the template 'for every input the law returns true; each argument reads behind the call as it read before'; 0 by the template 'total and deterministic' (their statements: YtnjheeoogglnaaaTotals.lean).
  GIVEN WITH THE SEED: the statements are not yours to turn. If you find one false, say at which input.
  Laid BY PROGRAM, IN A SANDBOX (cutbox-rows.mjs): the forced cells as the released guide's own fill.sh prints them over the translation 051b7a9ac32a175c… (all of the seat's roots in one cut). By AI agents, Wed Nov 11 2026. No macro, syntax, notation, axiom, sorry.
-/
import Derived.Test.YtnjheeoogglnaaaChecked
import GoSem.Claim
import GoSem.ClaimJoined
import GoSem.ClaimMapViews
import Derived.JoinedTies
import Derived.KernelRfl
namespace Go.Proofs.Ytnjheeoogglnaaa
/- THE CELL 'sum', in the pinned program and in every row, IS THE sha256 OF THE DUMP (.gsa) THAT YtnjheeoogglnaaaProg.lean LOADS. Nothing in Lean hashes anything: it is a label: what it is worth is what the hold of that sum in a sandbox is worth. -/
noncomputable def Try.pinned : Pinned := { name := "ytnjheeoogglnaaa", sum := "051b7a9ac32a175c6213bbba484453429c7654c57f4169dff02c2198cf73fab5", checked := Try.checked }
namespace Rows
def none {H : Type} : Left H := { results := [], args := [] }

/-- 'scrimlaw13.ResTells': WHATEVER THE INPUT: true; the input reads as it did. -/
def resTellsSpec : ChangeSpec := { name := "resTells", fn := fun _ => fun
  | [d1, d2, d3] => { results := [.lit (.bool true)], args := [d1, d2, d3] }
  | _ => none }
def resTellsRow : OpenClaim := { program := "ytnjheeoogglnaaa", sum := "051b7a9ac32a175c6213bbba484453429c7654c57f4169dff02c2198cf73fab5", func := "scrim/scrimlaw13.ResTells", spec := "resTells", unfollowed := true, recurses := true, apart := false }
def ResTellsSaid : Prop := resTellsRow.holds Try.pinned (OpenSpec.ofChange resTellsSpec)

/-- ITS FALSE NEIGHBOUR: 'it returns false'. Refute it at one input. -/
def resTellsWrong : ChangeSpec := { name := "resTells", fn := fun _ => fun
  | [d1, d2, d3] => { results := [.lit (.bool false)], args := [d1, d2, d3] }
  | _ => none }
def ResTellsWrongFalsely : Prop := resTellsRow.holds Try.pinned (OpenSpec.ofChange resTellsWrong)

/-- 'scrimlaw13.ResHides': WHATEVER THE INPUT: true; the input reads as it did. -/
def resHidesSpec : ChangeSpec := { name := "resHides", fn := fun _ => fun
  | [d1, d2, d3] => { results := [.lit (.bool true)], args := [d1, d2, d3] }
  | _ => none }
def resHidesRow : OpenClaim := { program := "ytnjheeoogglnaaa", sum := "051b7a9ac32a175c6213bbba484453429c7654c57f4169dff02c2198cf73fab5", func := "scrim/scrimlaw13.ResHides", spec := "resHides", unfollowed := true, recurses := true, apart := false }
def ResHidesSaid : Prop := resHidesRow.holds Try.pinned (OpenSpec.ofChange resHidesSpec)

/-- ITS FALSE NEIGHBOUR: 'it returns false'. Refute it at one input. -/
def resHidesWrong : ChangeSpec := { name := "resHides", fn := fun _ => fun
  | [d1, d2, d3] => { results := [.lit (.bool false)], args := [d1, d2, d3] }
  | _ => none }
def ResHidesWrongFalsely : Prop := resHidesRow.holds Try.pinned (OpenSpec.ofChange resHidesWrong)

/-- 'scrimlaw13.ResTurned': WHATEVER THE INPUT: true; the input reads as it did. -/
def resTurnedSpec : ChangeSpec := { name := "resTurned", fn := fun _ => fun
  | [d1, d2, d3] => { results := [.lit (.bool true)], args := [d1, d2, d3] }
  | _ => none }
def resTurnedRow : OpenClaim := { program := "ytnjheeoogglnaaa", sum := "051b7a9ac32a175c6213bbba484453429c7654c57f4169dff02c2198cf73fab5", func := "scrim/scrimlaw13.ResTurned", spec := "resTurned", unfollowed := true, recurses := true, apart := false }
def ResTurnedSaid : Prop := resTurnedRow.holds Try.pinned (OpenSpec.ofChange resTurnedSpec)

/-- ITS FALSE NEIGHBOUR: 'it returns false'. Refute it at one input. -/
def resTurnedWrong : ChangeSpec := { name := "resTurned", fn := fun _ => fun
  | [d1, d2, d3] => { results := [.lit (.bool false)], args := [d1, d2, d3] }
  | _ => none }
def ResTurnedWrongFalsely : Prop := resTurnedRow.holds Try.pinned (OpenSpec.ofChange resTurnedWrong)

/-- 'scrimlaw02.RectTells': WHATEVER THE INPUT: true; the input reads as it did. -/
def rectTellsSpec : ChangeSpec := { name := "rectTells", fn := fun _ => fun
  | [d1, d2, d3, d4] => { results := [.lit (.bool true)], args := [d1, d2, d3, d4] }
  | _ => none }
def rectTellsRow : OpenClaim := { program := "ytnjheeoogglnaaa", sum := "051b7a9ac32a175c6213bbba484453429c7654c57f4169dff02c2198cf73fab5", func := "scrim/scrimlaw02.RectTells", spec := "rectTells", unfollowed := true, recurses := true, apart := false }
def RectTellsSaid : Prop := rectTellsRow.holds Try.pinned (OpenSpec.ofChange rectTellsSpec)

/-- ITS FALSE NEIGHBOUR: 'it returns false'. Refute it at one input. -/
def rectTellsWrong : ChangeSpec := { name := "rectTells", fn := fun _ => fun
  | [d1, d2, d3, d4] => { results := [.lit (.bool false)], args := [d1, d2, d3, d4] }
  | _ => none }
def RectTellsWrongFalsely : Prop := rectTellsRow.holds Try.pinned (OpenSpec.ofChange rectTellsWrong)

/-- 'scrimlaw02.RectBack': WHATEVER THE INPUT: true; the input reads as it did. -/
def rectBackSpec : ChangeSpec := { name := "rectBack", fn := fun _ => fun
  | [d1, d2, d3, d4, d5] => { results := [.lit (.bool true)], args := [d1, d2, d3, d4, d5] }
  | _ => none }
def rectBackRow : OpenClaim := { program := "ytnjheeoogglnaaa", sum := "051b7a9ac32a175c6213bbba484453429c7654c57f4169dff02c2198cf73fab5", func := "scrim/scrimlaw02.RectBack", spec := "rectBack", unfollowed := true, recurses := true, apart := false }
def RectBackSaid : Prop := rectBackRow.holds Try.pinned (OpenSpec.ofChange rectBackSpec)

/-- ITS FALSE NEIGHBOUR: 'it returns false'. Refute it at one input. -/
def rectBackWrong : ChangeSpec := { name := "rectBack", fn := fun _ => fun
  | [d1, d2, d3, d4, d5] => { results := [.lit (.bool false)], args := [d1, d2, d3, d4, d5] }
  | _ => none }
def RectBackWrongFalsely : Prop := rectBackRow.holds Try.pinned (OpenSpec.ofChange rectBackWrong)

/-- 'scrimlaw02.RectMeets': WHATEVER THE INPUT: true; the input reads as it did. -/
def rectMeetsSpec : ChangeSpec := { name := "rectMeets", fn := fun _ => fun
  | [d1, d2, d3, d4] => { results := [.lit (.bool true)], args := [d1, d2, d3, d4] }
  | _ => none }
def rectMeetsRow : OpenClaim := { program := "ytnjheeoogglnaaa", sum := "051b7a9ac32a175c6213bbba484453429c7654c57f4169dff02c2198cf73fab5", func := "scrim/scrimlaw02.RectMeets", spec := "rectMeets", unfollowed := true, recurses := true, apart := false }
def RectMeetsSaid : Prop := rectMeetsRow.holds Try.pinned (OpenSpec.ofChange rectMeetsSpec)

/-- ITS FALSE NEIGHBOUR: 'it returns false'. Refute it at one input. -/
def rectMeetsWrong : ChangeSpec := { name := "rectMeets", fn := fun _ => fun
  | [d1, d2, d3, d4] => { results := [.lit (.bool false)], args := [d1, d2, d3, d4] }
  | _ => none }
def RectMeetsWrongFalsely : Prop := rectMeetsRow.holds Try.pinned (OpenSpec.ofChange rectMeetsWrong)

/-- 'scrimlaw02.RectUnites': WHATEVER THE INPUT: true; the input reads as it did. -/
def rectUnitesSpec : ChangeSpec := { name := "rectUnites", fn := fun _ => fun
  | [d1, d2, d3] => { results := [.lit (.bool true)], args := [d1, d2, d3] }
  | _ => none }
def rectUnitesRow : OpenClaim := { program := "ytnjheeoogglnaaa", sum := "051b7a9ac32a175c6213bbba484453429c7654c57f4169dff02c2198cf73fab5", func := "scrim/scrimlaw02.RectUnites", spec := "rectUnites", unfollowed := true, recurses := true, apart := false }
def RectUnitesSaid : Prop := rectUnitesRow.holds Try.pinned (OpenSpec.ofChange rectUnitesSpec)

/-- ITS FALSE NEIGHBOUR: 'it returns false'. Refute it at one input. -/
def rectUnitesWrong : ChangeSpec := { name := "rectUnites", fn := fun _ => fun
  | [d1, d2, d3] => { results := [.lit (.bool false)], args := [d1, d2, d3] }
  | _ => none }
def RectUnitesWrongFalsely : Prop := rectUnitesRow.holds Try.pinned (OpenSpec.ofChange rectUnitesWrong)

/-- 'scrimlaw02.RectInsets': WHATEVER THE INPUT: true; the input reads as it did. -/
def rectInsetsSpec : ChangeSpec := { name := "rectInsets", fn := fun _ => fun
  | [d1, d2] => { results := [.lit (.bool true)], args := [d1, d2] }
  | _ => none }
def rectInsetsRow : OpenClaim := { program := "ytnjheeoogglnaaa", sum := "051b7a9ac32a175c6213bbba484453429c7654c57f4169dff02c2198cf73fab5", func := "scrim/scrimlaw02.RectInsets", spec := "rectInsets", unfollowed := true, recurses := true, apart := false }
def RectInsetsSaid : Prop := rectInsetsRow.holds Try.pinned (OpenSpec.ofChange rectInsetsSpec)

/-- ITS FALSE NEIGHBOUR: 'it returns false'. Refute it at one input. -/
def rectInsetsWrong : ChangeSpec := { name := "rectInsets", fn := fun _ => fun
  | [d1, d2] => { results := [.lit (.bool false)], args := [d1, d2] }
  | _ => none }
def RectInsetsWrongFalsely : Prop := rectInsetsRow.holds Try.pinned (OpenSpec.ofChange rectInsetsWrong)

/- THE SECOND FORM. 'bulk': how many values and letters a reading holds, each counted each time it is reached (what is shared counts as often as it is met; a slice's spare places count too). A statement '..UptoSaid' is the law's where the arguments, and the package variables that the reading takes, are together of bulk at most 1048576: NARROWER than '..Said'. Prove '..Said' where nothing that the law and all that it calls make is longer than what came in: it says more and counts as full. Else prove '..UptoSaid'. A law counts once. -/
mutual
def uptoBulk {H : Type} : DataW H → Nat
  | .lit (.string bytes) => bytes.length + 1
  | .lit _ => 1
  | .nil => 1
  | .ptr d => uptoBulk d + 1
  | .slice elems spare => uptoBulkAll elems + uptoBulkAll spare + 1
  | .agg parts => uptoBulkAll parts + 1
  | .iface _ d => uptoBulk d + 1
  | .map entries => uptoBulkEntries entries + 1
  | .held _ => 1
def uptoBulkAll {H : Type} : List (DataW H) → Nat
  | [] => 0
  | d :: r => uptoBulk d + uptoBulkAll r
def uptoBulkEntries {H : Type} : List (Lit × DataW H) → Nat
  | [] => 0
  | x :: r => uptoBulkEntry x + uptoBulkEntries r
def uptoBulkEntry {H : Type} : Lit × DataW H → Nat
  | (.string bytes, d) => bytes.length + uptoBulk d + 1
  | (_, d) => uptoBulk d + 1
 end
def uptoSmall : (H : Type) → List (DataW H) → Bool := fun _ ds => decide (uptoBulkAll ds ≤ 1048576)
def OpenSpec.upto (s : _root_.Go.ChangeSpec) : _root_.Go.OpenSpec := { _root_.Go.OpenSpec.ofChange s with cond := some uptoSmall }

/-- 'scrimlaw13.ResTells', WHERE WHAT IT READS IS OF BULK AT MOST 1048576: true; the input reads as it did. -/
def resTellsUptoRow : OpenClaim := { program := "ytnjheeoogglnaaa", sum := "051b7a9ac32a175c6213bbba484453429c7654c57f4169dff02c2198cf73fab5", func := "scrim/scrimlaw13.ResTells", spec := "resTells", unfollowed := true, recurses := true, apart := false, narrowed := true }
def ResTellsUptoSaid : Prop := resTellsUptoRow.holds Try.pinned (OpenSpec.upto resTellsSpec)

/-- 'scrimlaw13.ResHides', WHERE WHAT IT READS IS OF BULK AT MOST 1048576: true; the input reads as it did. -/
def resHidesUptoRow : OpenClaim := { program := "ytnjheeoogglnaaa", sum := "051b7a9ac32a175c6213bbba484453429c7654c57f4169dff02c2198cf73fab5", func := "scrim/scrimlaw13.ResHides", spec := "resHides", unfollowed := true, recurses := true, apart := false, narrowed := true }
def ResHidesUptoSaid : Prop := resHidesUptoRow.holds Try.pinned (OpenSpec.upto resHidesSpec)

/-- 'scrimlaw13.ResTurned', WHERE WHAT IT READS IS OF BULK AT MOST 1048576: true; the input reads as it did. -/
def resTurnedUptoRow : OpenClaim := { program := "ytnjheeoogglnaaa", sum := "051b7a9ac32a175c6213bbba484453429c7654c57f4169dff02c2198cf73fab5", func := "scrim/scrimlaw13.ResTurned", spec := "resTurned", unfollowed := true, recurses := true, apart := false, narrowed := true }
def ResTurnedUptoSaid : Prop := resTurnedUptoRow.holds Try.pinned (OpenSpec.upto resTurnedSpec)

/-- 'scrimlaw02.RectTells', WHERE WHAT IT READS IS OF BULK AT MOST 1048576: true; the input reads as it did. -/
def rectTellsUptoRow : OpenClaim := { program := "ytnjheeoogglnaaa", sum := "051b7a9ac32a175c6213bbba484453429c7654c57f4169dff02c2198cf73fab5", func := "scrim/scrimlaw02.RectTells", spec := "rectTells", unfollowed := true, recurses := true, apart := false, narrowed := true }
def RectTellsUptoSaid : Prop := rectTellsUptoRow.holds Try.pinned (OpenSpec.upto rectTellsSpec)

/-- 'scrimlaw02.RectBack', WHERE WHAT IT READS IS OF BULK AT MOST 1048576: true; the input reads as it did. -/
def rectBackUptoRow : OpenClaim := { program := "ytnjheeoogglnaaa", sum := "051b7a9ac32a175c6213bbba484453429c7654c57f4169dff02c2198cf73fab5", func := "scrim/scrimlaw02.RectBack", spec := "rectBack", unfollowed := true, recurses := true, apart := false, narrowed := true }
def RectBackUptoSaid : Prop := rectBackUptoRow.holds Try.pinned (OpenSpec.upto rectBackSpec)

/-- 'scrimlaw02.RectMeets', WHERE WHAT IT READS IS OF BULK AT MOST 1048576: true; the input reads as it did. -/
def rectMeetsUptoRow : OpenClaim := { program := "ytnjheeoogglnaaa", sum := "051b7a9ac32a175c6213bbba484453429c7654c57f4169dff02c2198cf73fab5", func := "scrim/scrimlaw02.RectMeets", spec := "rectMeets", unfollowed := true, recurses := true, apart := false, narrowed := true }
def RectMeetsUptoSaid : Prop := rectMeetsUptoRow.holds Try.pinned (OpenSpec.upto rectMeetsSpec)

/-- 'scrimlaw02.RectUnites', WHERE WHAT IT READS IS OF BULK AT MOST 1048576: true; the input reads as it did. -/
def rectUnitesUptoRow : OpenClaim := { program := "ytnjheeoogglnaaa", sum := "051b7a9ac32a175c6213bbba484453429c7654c57f4169dff02c2198cf73fab5", func := "scrim/scrimlaw02.RectUnites", spec := "rectUnites", unfollowed := true, recurses := true, apart := false, narrowed := true }
def RectUnitesUptoSaid : Prop := rectUnitesUptoRow.holds Try.pinned (OpenSpec.upto rectUnitesSpec)

/-- 'scrimlaw02.RectInsets', WHERE WHAT IT READS IS OF BULK AT MOST 1048576: true; the input reads as it did. -/
def rectInsetsUptoRow : OpenClaim := { program := "ytnjheeoogglnaaa", sum := "051b7a9ac32a175c6213bbba484453429c7654c57f4169dff02c2198cf73fab5", func := "scrim/scrimlaw02.RectInsets", spec := "rectInsets", unfollowed := true, recurses := true, apart := false, narrowed := true }
def RectInsetsUptoSaid : Prop := rectInsetsUptoRow.holds Try.pinned (OpenSpec.upto rectInsetsSpec)

end Rows
end Go.Proofs.Ytnjheeoogglnaaa
