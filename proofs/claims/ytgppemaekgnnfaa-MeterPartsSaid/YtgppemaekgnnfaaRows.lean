/-
  No cell of these rows narrows 'for every input' (looked for: loops, veiled, ifaces, maps, wideKeys, modest, calm, conditions, laid).
  DERIVED. THE GIVEN ROWS OF THIS SEAT. 8 by the template 'for every input the law returns true; each argument reads behind the call as it read before'; 0 by the template 'total and deterministic' (their statements: YtgppemaekgnnfaaTotals.lean).
  GIVEN WITH THE SEED: the statements are not yours to turn. If you find one false, say at which input.
  Laid BY PROGRAM, IN A SANDBOX (cutbox-rows.mjs): the forced cells as the released guide's own fill.sh prints them over the translation 37d305e9506d886f… (all of the seat's roots in one cut). By AI agents, Wed Nov 11 2026. No macro, syntax, notation, axiom, sorry.
-/
import Derived.Test.YtgppemaekgnnfaaChecked
import GoSem.Claim
import GoSem.ClaimJoined
import GoSem.ClaimMapViews
import Derived.JoinedTies
import Derived.KernelRfl
namespace Go.Proofs.Ytgppemaekgnnfaa
/- THE CELL 'sum', in the pinned program and in every row, IS THE sha256 OF THE DUMP (.gsa) THAT YtgppemaekgnnfaaProg.lean LOADS. Nothing in Lean hashes anything: it is a label: what it is worth is what the hold of that sum in a sandbox is worth. -/
noncomputable def Try.pinned : Pinned := { name := "ytgppemaekgnnfaa", sum := "37d305e9506d886fc4250b184e21d1d190eb0cdc93ee57ca8617b552c4ebafad", checked := Try.checked }
namespace Rows
def none {H : Type} : Left H := { results := [], args := [] }

/-- 'scrimlaw03.MeterDoes': WHATEVER THE INPUT: true; the input reads as it did. -/
def meterDoesSpec : ChangeSpec := { name := "meterDoes", fn := fun _ => fun
  | [d1, d2, d3, d4, d5] => { results := [.lit (.bool true)], args := [d1, d2, d3, d4, d5] }
  | _ => none }
def meterDoesRow : OpenClaim := { program := "ytgppemaekgnnfaa", sum := "37d305e9506d886fc4250b184e21d1d190eb0cdc93ee57ca8617b552c4ebafad", func := "scrim/scrimlaw03.MeterDoes", spec := "meterDoes", unfollowed := true, recurses := true, apart := false }
def MeterDoesSaid : Prop := meterDoesRow.holds Try.pinned (OpenSpec.ofChange meterDoesSpec)

/-- ITS FALSE NEIGHBOUR: 'it returns false'. Refute it at one input. -/
def meterDoesWrong : ChangeSpec := { name := "meterDoes", fn := fun _ => fun
  | [d1, d2, d3, d4, d5] => { results := [.lit (.bool false)], args := [d1, d2, d3, d4, d5] }
  | _ => none }
def MeterDoesWrongFalsely : Prop := meterDoesRow.holds Try.pinned (OpenSpec.ofChange meterDoesWrong)

/-- 'scrimlaw03.MeterRises': WHATEVER THE INPUT: true; the input reads as it did. -/
def meterRisesSpec : ChangeSpec := { name := "meterRises", fn := fun _ => fun
  | [d1, d2] => { results := [.lit (.bool true)], args := [d1, d2] }
  | _ => none }
def meterRisesRow : OpenClaim := { program := "ytgppemaekgnnfaa", sum := "37d305e9506d886fc4250b184e21d1d190eb0cdc93ee57ca8617b552c4ebafad", func := "scrim/scrimlaw03.MeterRises", spec := "meterRises", unfollowed := true, recurses := true, apart := false }
def MeterRisesSaid : Prop := meterRisesRow.holds Try.pinned (OpenSpec.ofChange meterRisesSpec)

/-- ITS FALSE NEIGHBOUR: 'it returns false'. Refute it at one input. -/
def meterRisesWrong : ChangeSpec := { name := "meterRises", fn := fun _ => fun
  | [d1, d2] => { results := [.lit (.bool false)], args := [d1, d2] }
  | _ => none }
def MeterRisesWrongFalsely : Prop := meterRisesRow.holds Try.pinned (OpenSpec.ofChange meterRisesWrong)

/-- 'scrimlaw03.MeterParts': WHATEVER THE INPUT: true; the input reads as it did. -/
def meterPartsSpec : ChangeSpec := { name := "meterParts", fn := fun _ => fun
  | [d1, d2] => { results := [.lit (.bool true)], args := [d1, d2] }
  | _ => none }
def meterPartsRow : OpenClaim := { program := "ytgppemaekgnnfaa", sum := "37d305e9506d886fc4250b184e21d1d190eb0cdc93ee57ca8617b552c4ebafad", func := "scrim/scrimlaw03.MeterParts", spec := "meterParts", unfollowed := true, recurses := true, apart := false }
def MeterPartsSaid : Prop := meterPartsRow.holds Try.pinned (OpenSpec.ofChange meterPartsSpec)

/-- ITS FALSE NEIGHBOUR: 'it returns false'. Refute it at one input. -/
def meterPartsWrong : ChangeSpec := { name := "meterParts", fn := fun _ => fun
  | [d1, d2] => { results := [.lit (.bool false)], args := [d1, d2] }
  | _ => none }
def MeterPartsWrongFalsely : Prop := meterPartsRow.holds Try.pinned (OpenSpec.ofChange meterPartsWrong)

/-- 'scrimlaw01.FixedTells': WHATEVER THE INPUT: true; the input reads as it did. -/
def fixedTellsSpec : ChangeSpec := { name := "fixedTells", fn := fun _ => fun
  | [d1, d2, d3, d4] => { results := [.lit (.bool true)], args := [d1, d2, d3, d4] }
  | _ => none }
def fixedTellsRow : OpenClaim := { program := "ytgppemaekgnnfaa", sum := "37d305e9506d886fc4250b184e21d1d190eb0cdc93ee57ca8617b552c4ebafad", func := "scrim/scrimlaw01.FixedTells", spec := "fixedTells", unfollowed := true, recurses := true, apart := false }
def FixedTellsSaid : Prop := fixedTellsRow.holds Try.pinned (OpenSpec.ofChange fixedTellsSpec)

/-- ITS FALSE NEIGHBOUR: 'it returns false'. Refute it at one input. -/
def fixedTellsWrong : ChangeSpec := { name := "fixedTells", fn := fun _ => fun
  | [d1, d2, d3, d4] => { results := [.lit (.bool false)], args := [d1, d2, d3, d4] }
  | _ => none }
def FixedTellsWrongFalsely : Prop := fixedTellsRow.holds Try.pinned (OpenSpec.ofChange fixedTellsWrong)

/-- 'scrimlaw01.FixedWithin': WHATEVER THE INPUT: true; the input reads as it did. -/
def fixedWithinSpec : ChangeSpec := { name := "fixedWithin", fn := fun _ => fun
  | [d1, d2, d3] => { results := [.lit (.bool true)], args := [d1, d2, d3] }
  | _ => none }
def fixedWithinRow : OpenClaim := { program := "ytgppemaekgnnfaa", sum := "37d305e9506d886fc4250b184e21d1d190eb0cdc93ee57ca8617b552c4ebafad", func := "scrim/scrimlaw01.FixedWithin", spec := "fixedWithin", unfollowed := true, recurses := true, apart := false }
def FixedWithinSaid : Prop := fixedWithinRow.holds Try.pinned (OpenSpec.ofChange fixedWithinSpec)

/-- ITS FALSE NEIGHBOUR: 'it returns false'. Refute it at one input. -/
def fixedWithinWrong : ChangeSpec := { name := "fixedWithin", fn := fun _ => fun
  | [d1, d2, d3] => { results := [.lit (.bool false)], args := [d1, d2, d3] }
  | _ => none }
def FixedWithinWrongFalsely : Prop := fixedWithinRow.holds Try.pinned (OpenSpec.ofChange fixedWithinWrong)

/-- 'scrimlaw01.FixedRises': WHATEVER THE INPUT: true; the input reads as it did. -/
def fixedRisesSpec : ChangeSpec := { name := "fixedRises", fn := fun _ => fun
  | [d1, d2, d3, d4, d5] => { results := [.lit (.bool true)], args := [d1, d2, d3, d4, d5] }
  | _ => none }
def fixedRisesRow : OpenClaim := { program := "ytgppemaekgnnfaa", sum := "37d305e9506d886fc4250b184e21d1d190eb0cdc93ee57ca8617b552c4ebafad", func := "scrim/scrimlaw01.FixedRises", spec := "fixedRises", unfollowed := true, recurses := true, apart := false }
def FixedRisesSaid : Prop := fixedRisesRow.holds Try.pinned (OpenSpec.ofChange fixedRisesSpec)

/-- ITS FALSE NEIGHBOUR: 'it returns false'. Refute it at one input. -/
def fixedRisesWrong : ChangeSpec := { name := "fixedRises", fn := fun _ => fun
  | [d1, d2, d3, d4, d5] => { results := [.lit (.bool false)], args := [d1, d2, d3, d4, d5] }
  | _ => none }
def FixedRisesWrongFalsely : Prop := fixedRisesRow.holds Try.pinned (OpenSpec.ofChange fixedRisesWrong)

/-- 'scrimlaw01.FixedParts': WHATEVER THE INPUT: true; the input reads as it did. -/
def fixedPartsSpec : ChangeSpec := { name := "fixedParts", fn := fun _ => fun
  | [d1, d2, d3] => { results := [.lit (.bool true)], args := [d1, d2, d3] }
  | _ => none }
def fixedPartsRow : OpenClaim := { program := "ytgppemaekgnnfaa", sum := "37d305e9506d886fc4250b184e21d1d190eb0cdc93ee57ca8617b552c4ebafad", func := "scrim/scrimlaw01.FixedParts", spec := "fixedParts", unfollowed := true, recurses := true, apart := false }
def FixedPartsSaid : Prop := fixedPartsRow.holds Try.pinned (OpenSpec.ofChange fixedPartsSpec)

/-- ITS FALSE NEIGHBOUR: 'it returns false'. Refute it at one input. -/
def fixedPartsWrong : ChangeSpec := { name := "fixedParts", fn := fun _ => fun
  | [d1, d2, d3] => { results := [.lit (.bool false)], args := [d1, d2, d3] }
  | _ => none }
def FixedPartsWrongFalsely : Prop := fixedPartsRow.holds Try.pinned (OpenSpec.ofChange fixedPartsWrong)

/-- 'scrimlaw01.FixedSums': WHATEVER THE INPUT: true; the input reads as it did. -/
def fixedSumsSpec : ChangeSpec := { name := "fixedSums", fn := fun _ => fun
  | [d1, d2] => { results := [.lit (.bool true)], args := [d1, d2] }
  | _ => none }
def fixedSumsRow : OpenClaim := { program := "ytgppemaekgnnfaa", sum := "37d305e9506d886fc4250b184e21d1d190eb0cdc93ee57ca8617b552c4ebafad", func := "scrim/scrimlaw01.FixedSums", spec := "fixedSums", unfollowed := true, recurses := true, apart := false }
def FixedSumsSaid : Prop := fixedSumsRow.holds Try.pinned (OpenSpec.ofChange fixedSumsSpec)

/-- ITS FALSE NEIGHBOUR: 'it returns false'. Refute it at one input. -/
def fixedSumsWrong : ChangeSpec := { name := "fixedSums", fn := fun _ => fun
  | [d1, d2] => { results := [.lit (.bool false)], args := [d1, d2] }
  | _ => none }
def FixedSumsWrongFalsely : Prop := fixedSumsRow.holds Try.pinned (OpenSpec.ofChange fixedSumsWrong)

/- THE SECOND FORM. 'bulk': how many values and letters a reading holds, each counted each time it is reached (what is shared counts as often as it is met; a slice's spare places count too). A statement '..UptoSaid' is the law's where the arguments, and the package variables that the reading takes, are together of bulk at most 1048576: NARROWER than '..Said'. Prove '..Said' where nothing that the law and all that it calls make is longer than what came in: it says more and counts as full. Else prove '..UptoSaid'. A law counts once. -/
mutual
def uptoBulk {H : Type} : DataW H → Nat
  | .lit (.string bytes) => bytes.length + 1
  | .lit _ => 1
  | .nil => 1
  | .ptr d => uptoBulk d + 1
  | .slice elems spare => uptoBulkAll elems + uptoBulkAll spare + 1
  | .agg parts => uptoBulkAll parts + 1
  | .iface _ d => uptoBulk d + 1
  | .map entries => uptoBulkEntries entries + 1
  | .held _ => 1
def uptoBulkAll {H : Type} : List (DataW H) → Nat
  | [] => 0
  | d :: r => uptoBulk d + uptoBulkAll r
def uptoBulkEntries {H : Type} : List (Lit × DataW H) → Nat
  | [] => 0
  | x :: r => uptoBulkEntry x + uptoBulkEntries r
def uptoBulkEntry {H : Type} : Lit × DataW H → Nat
  | (.string bytes, d) => bytes.length + uptoBulk d + 1
  | (_, d) => uptoBulk d + 1
 end
def uptoSmall : (H : Type) → List (DataW H) → Bool := fun _ ds => decide (uptoBulkAll ds ≤ 1048576)
def OpenSpec.upto (s : _root_.Go.ChangeSpec) : _root_.Go.OpenSpec := { _root_.Go.OpenSpec.ofChange s with cond := some uptoSmall }

/-- 'scrimlaw03.MeterDoes', WHERE WHAT IT READS IS OF BULK AT MOST 1048576: true; the input reads as it did. -/
def meterDoesUptoRow : OpenClaim := { program := "ytgppemaekgnnfaa", sum := "37d305e9506d886fc4250b184e21d1d190eb0cdc93ee57ca8617b552c4ebafad", func := "scrim/scrimlaw03.MeterDoes", spec := "meterDoes", unfollowed := true, recurses := true, apart := false, narrowed := true }
def MeterDoesUptoSaid : Prop := meterDoesUptoRow.holds Try.pinned (OpenSpec.upto meterDoesSpec)

/-- 'scrimlaw03.MeterRises', WHERE WHAT IT READS IS OF BULK AT MOST 1048576: true; the input reads as it did. -/
def meterRisesUptoRow : OpenClaim := { program := "ytgppemaekgnnfaa", sum := "37d305e9506d886fc4250b184e21d1d190eb0cdc93ee57ca8617b552c4ebafad", func := "scrim/scrimlaw03.MeterRises", spec := "meterRises", unfollowed := true, recurses := true, apart := false, narrowed := true }
def MeterRisesUptoSaid : Prop := meterRisesUptoRow.holds Try.pinned (OpenSpec.upto meterRisesSpec)

/-- 'scrimlaw03.MeterParts', WHERE WHAT IT READS IS OF BULK AT MOST 1048576: true; the input reads as it did. -/
def meterPartsUptoRow : OpenClaim := { program := "ytgppemaekgnnfaa", sum := "37d305e9506d886fc4250b184e21d1d190eb0cdc93ee57ca8617b552c4ebafad", func := "scrim/scrimlaw03.MeterParts", spec := "meterParts", unfollowed := true, recurses := true, apart := false, narrowed := true }
def MeterPartsUptoSaid : Prop := meterPartsUptoRow.holds Try.pinned (OpenSpec.upto meterPartsSpec)

/-- 'scrimlaw01.FixedTells', WHERE WHAT IT READS IS OF BULK AT MOST 1048576: true; the input reads as it did. -/
def fixedTellsUptoRow : OpenClaim := { program := "ytgppemaekgnnfaa", sum := "37d305e9506d886fc4250b184e21d1d190eb0cdc93ee57ca8617b552c4ebafad", func := "scrim/scrimlaw01.FixedTells", spec := "fixedTells", unfollowed := true, recurses := true, apart := false, narrowed := true }
def FixedTellsUptoSaid : Prop := fixedTellsUptoRow.holds Try.pinned (OpenSpec.upto fixedTellsSpec)

/-- 'scrimlaw01.FixedWithin', WHERE WHAT IT READS IS OF BULK AT MOST 1048576: true; the input reads as it did. -/
def fixedWithinUptoRow : OpenClaim := { program := "ytgppemaekgnnfaa", sum := "37d305e9506d886fc4250b184e21d1d190eb0cdc93ee57ca8617b552c4ebafad", func := "scrim/scrimlaw01.FixedWithin", spec := "fixedWithin", unfollowed := true, recurses := true, apart := false, narrowed := true }
def FixedWithinUptoSaid : Prop := fixedWithinUptoRow.holds Try.pinned (OpenSpec.upto fixedWithinSpec)

/-- 'scrimlaw01.FixedRises', WHERE WHAT IT READS IS OF BULK AT MOST 1048576: true; the input reads as it did. -/
def fixedRisesUptoRow : OpenClaim := { program := "ytgppemaekgnnfaa", sum := "37d305e9506d886fc4250b184e21d1d190eb0cdc93ee57ca8617b552c4ebafad", func := "scrim/scrimlaw01.FixedRises", spec := "fixedRises", unfollowed := true, recurses := true, apart := false, narrowed := true }
def FixedRisesUptoSaid : Prop := fixedRisesUptoRow.holds Try.pinned (OpenSpec.upto fixedRisesSpec)

/-- 'scrimlaw01.FixedParts', WHERE WHAT IT READS IS OF BULK AT MOST 1048576: true; the input reads as it did. -/
def fixedPartsUptoRow : OpenClaim := { program := "ytgppemaekgnnfaa", sum := "37d305e9506d886fc4250b184e21d1d190eb0cdc93ee57ca8617b552c4ebafad", func := "scrim/scrimlaw01.FixedParts", spec := "fixedParts", unfollowed := true, recurses := true, apart := false, narrowed := true }
def FixedPartsUptoSaid : Prop := fixedPartsUptoRow.holds Try.pinned (OpenSpec.upto fixedPartsSpec)

/-- 'scrimlaw01.FixedSums', WHERE WHAT IT READS IS OF BULK AT MOST 1048576: true; the input reads as it did. -/
def fixedSumsUptoRow : OpenClaim := { program := "ytgppemaekgnnfaa", sum := "37d305e9506d886fc4250b184e21d1d190eb0cdc93ee57ca8617b552c4ebafad", func := "scrim/scrimlaw01.FixedSums", spec := "fixedSums", unfollowed := true, recurses := true, apart := false, narrowed := true }
def FixedSumsUptoSaid : Prop := fixedSumsUptoRow.holds Try.pinned (OpenSpec.upto fixedSumsSpec)

end Rows
end Go.Proofs.Ytgppemaekgnnfaa
