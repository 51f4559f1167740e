/-
  No cell of these rows narrows 'for every input' (looked for: loops, veiled, ifaces, maps, wideKeys, modest, calm, conditions, laid).
  DERIVED. THE GIVEN ROWS OF THIS SEAT. 5 by the template 'for every input the law returns true; each argument reads behind the call as it read before'; 0 by the template 'total and deterministic' (their statements: YthkipbnigokcfaaTotals.lean).
  GIVEN WITH THE SEED: the statements are not yours to turn. If you find one false, say at which input.
  Laid BY PROGRAM, IN A SANDBOX (cutbox-rows.mjs): the forced cells as the released guide's own fill.sh prints them over the translation cabf6360dbe14ee2… (all of the seat's roots in one cut). By AI agents, Wed Nov 11 2026. No macro, syntax, notation, axiom, sorry.
-/
import Derived.Test.YthkipbnigokcfaaChecked
import GoSem.Claim
import GoSem.ClaimJoined
import GoSem.ClaimMapViews
import Derived.JoinedTies
import Derived.KernelRfl
namespace Go.Proofs.Ythkipbnigokcfaa
/- THE CELL 'sum', in the pinned program and in every row, IS THE sha256 OF THE DUMP (.gsa) THAT YthkipbnigokcfaaProg.lean LOADS. Nothing in Lean hashes anything: it is a label: what it is worth is what the hold of that sum in a sandbox is worth. -/
noncomputable def Try.pinned : Pinned := { name := "ythkipbnigokcfaa", sum := "cabf6360dbe14ee24fcd8103e2774b71cb7dfc19b81f47f2aa4388235fc3c2c2", checked := Try.checked }
namespace Rows
def none {H : Type} : Left H := { results := [], args := [] }

/-- 'scrimlaw16.LineRoom': WHATEVER THE INPUT: true; the input reads as it did. -/
def lineRoomSpec : ChangeSpec := { name := "lineRoom", fn := fun _ => fun
  | [d1, d2, d3] => { results := [.lit (.bool true)], args := [d1, d2, d3] }
  | _ => none }
def lineRoomRow : OpenClaim := { program := "ythkipbnigokcfaa", sum := "cabf6360dbe14ee24fcd8103e2774b71cb7dfc19b81f47f2aa4388235fc3c2c2", func := "scrim/scrimlaw16.LineRoom", spec := "lineRoom", unfollowed := true, recurses := true, apart := false }
def LineRoomSaid : Prop := lineRoomRow.holds Try.pinned (OpenSpec.ofChange lineRoomSpec)

/-- ITS FALSE NEIGHBOUR: 'it returns false'. Refute it at one input. -/
def lineRoomWrong : ChangeSpec := { name := "lineRoom", fn := fun _ => fun
  | [d1, d2, d3] => { results := [.lit (.bool false)], args := [d1, d2, d3] }
  | _ => none }
def LineRoomWrongFalsely : Prop := lineRoomRow.holds Try.pinned (OpenSpec.ofChange lineRoomWrong)

/-- 'scrimlaw16.LineStands': WHATEVER THE INPUT: true; the input reads as it did. -/
def lineStandsSpec : ChangeSpec := { name := "lineStands", fn := fun _ => fun
  | [d1, d2, d3] => { results := [.lit (.bool true)], args := [d1, d2, d3] }
  | _ => none }
def lineStandsRow : OpenClaim := { program := "ythkipbnigokcfaa", sum := "cabf6360dbe14ee24fcd8103e2774b71cb7dfc19b81f47f2aa4388235fc3c2c2", func := "scrim/scrimlaw16.LineStands", spec := "lineStands", unfollowed := true, recurses := true, apart := false }
def LineStandsSaid : Prop := lineStandsRow.holds Try.pinned (OpenSpec.ofChange lineStandsSpec)

/-- ITS FALSE NEIGHBOUR: 'it returns false'. Refute it at one input. -/
def lineStandsWrong : ChangeSpec := { name := "lineStands", fn := fun _ => fun
  | [d1, d2, d3] => { results := [.lit (.bool false)], args := [d1, d2, d3] }
  | _ => none }
def LineStandsWrongFalsely : Prop := lineStandsRow.holds Try.pinned (OpenSpec.ofChange lineStandsWrong)

/-- 'scrimlaw16.LineMoves': WHATEVER THE INPUT: true; the input reads as it did. -/
def lineMovesSpec : ChangeSpec := { name := "lineMoves", fn := fun _ => fun
  | [d1, d2] => { results := [.lit (.bool true)], args := [d1, d2] }
  | _ => none }
def lineMovesRow : OpenClaim := { program := "ythkipbnigokcfaa", sum := "cabf6360dbe14ee24fcd8103e2774b71cb7dfc19b81f47f2aa4388235fc3c2c2", func := "scrim/scrimlaw16.LineMoves", spec := "lineMoves", unfollowed := true, recurses := true, apart := false }
def LineMovesSaid : Prop := lineMovesRow.holds Try.pinned (OpenSpec.ofChange lineMovesSpec)

/-- ITS FALSE NEIGHBOUR: 'it returns false'. Refute it at one input. -/
def lineMovesWrong : ChangeSpec := { name := "lineMoves", fn := fun _ => fun
  | [d1, d2] => { results := [.lit (.bool false)], args := [d1, d2] }
  | _ => none }
def LineMovesWrongFalsely : Prop := lineMovesRow.holds Try.pinned (OpenSpec.ofChange lineMovesWrong)

/-- 'scrimlaw16.LineNarrow': WHATEVER THE INPUT: true; the input reads as it did. -/
def lineNarrowSpec : ChangeSpec := { name := "lineNarrow", fn := fun _ => fun
  | [d1, d2, d3] => { results := [.lit (.bool true)], args := [d1, d2, d3] }
  | _ => none }
def lineNarrowRow : OpenClaim := { program := "ythkipbnigokcfaa", sum := "cabf6360dbe14ee24fcd8103e2774b71cb7dfc19b81f47f2aa4388235fc3c2c2", func := "scrim/scrimlaw16.LineNarrow", spec := "lineNarrow", unfollowed := true, recurses := true, apart := false }
def LineNarrowSaid : Prop := lineNarrowRow.holds Try.pinned (OpenSpec.ofChange lineNarrowSpec)

/-- ITS FALSE NEIGHBOUR: 'it returns false'. Refute it at one input. -/
def lineNarrowWrong : ChangeSpec := { name := "lineNarrow", fn := fun _ => fun
  | [d1, d2, d3] => { results := [.lit (.bool false)], args := [d1, d2, d3] }
  | _ => none }
def LineNarrowWrongFalsely : Prop := lineNarrowRow.holds Try.pinned (OpenSpec.ofChange lineNarrowWrong)

/-- 'scrimlaw16.LineFits': WHATEVER THE INPUT: true; the input reads as it did. -/
def lineFitsSpec : ChangeSpec := { name := "lineFits", fn := fun _ => fun
  | [d1, d2] => { results := [.lit (.bool true)], args := [d1, d2] }
  | _ => none }
def lineFitsRow : OpenClaim := { program := "ythkipbnigokcfaa", sum := "cabf6360dbe14ee24fcd8103e2774b71cb7dfc19b81f47f2aa4388235fc3c2c2", func := "scrim/scrimlaw16.LineFits", spec := "lineFits", unfollowed := true, recurses := true, apart := false }
def LineFitsSaid : Prop := lineFitsRow.holds Try.pinned (OpenSpec.ofChange lineFitsSpec)

/-- ITS FALSE NEIGHBOUR: 'it returns false'. Refute it at one input. -/
def lineFitsWrong : ChangeSpec := { name := "lineFits", fn := fun _ => fun
  | [d1, d2] => { results := [.lit (.bool false)], args := [d1, d2] }
  | _ => none }
def LineFitsWrongFalsely : Prop := lineFitsRow.holds Try.pinned (OpenSpec.ofChange lineFitsWrong)

/- THE SECOND FORM. 'bulk': how many values and letters a reading holds, each counted each time it is reached (what is shared counts as often as it is met; a slice's spare places count too). A statement '..UptoSaid' is the law's where the arguments, and the package variables that the reading takes, are together of bulk at most 1048576: NARROWER than '..Said'. Prove '..Said' where nothing that the law and all that it calls make is longer than what came in: it says more and counts as full. Else prove '..UptoSaid'. A law counts once. -/
mutual
def uptoBulk {H : Type} : DataW H → Nat
  | .lit (.string bytes) => bytes.length + 1
  | .lit _ => 1
  | .nil => 1
  | .ptr d => uptoBulk d + 1
  | .slice elems spare => uptoBulkAll elems + uptoBulkAll spare + 1
  | .agg parts => uptoBulkAll parts + 1
  | .iface _ d => uptoBulk d + 1
  | .map entries => uptoBulkEntries entries + 1
  | .held _ => 1
def uptoBulkAll {H : Type} : List (DataW H) → Nat
  | [] => 0
  | d :: r => uptoBulk d + uptoBulkAll r
def uptoBulkEntries {H : Type} : List (Lit × DataW H) → Nat
  | [] => 0
  | x :: r => uptoBulkEntry x + uptoBulkEntries r
def uptoBulkEntry {H : Type} : Lit × DataW H → Nat
  | (.string bytes, d) => bytes.length + uptoBulk d + 1
  | (_, d) => uptoBulk d + 1
 end
def uptoSmall : (H : Type) → List (DataW H) → Bool := fun _ ds => decide (uptoBulkAll ds ≤ 1048576)
def OpenSpec.upto (s : _root_.Go.ChangeSpec) : _root_.Go.OpenSpec := { _root_.Go.OpenSpec.ofChange s with cond := some uptoSmall }

/-- 'scrimlaw16.LineRoom', WHERE WHAT IT READS IS OF BULK AT MOST 1048576: true; the input reads as it did. -/
def lineRoomUptoRow : OpenClaim := { program := "ythkipbnigokcfaa", sum := "cabf6360dbe14ee24fcd8103e2774b71cb7dfc19b81f47f2aa4388235fc3c2c2", func := "scrim/scrimlaw16.LineRoom", spec := "lineRoom", unfollowed := true, recurses := true, apart := false, narrowed := true }
def LineRoomUptoSaid : Prop := lineRoomUptoRow.holds Try.pinned (OpenSpec.upto lineRoomSpec)

/-- 'scrimlaw16.LineStands', WHERE WHAT IT READS IS OF BULK AT MOST 1048576: true; the input reads as it did. -/
def lineStandsUptoRow : OpenClaim := { program := "ythkipbnigokcfaa", sum := "cabf6360dbe14ee24fcd8103e2774b71cb7dfc19b81f47f2aa4388235fc3c2c2", func := "scrim/scrimlaw16.LineStands", spec := "lineStands", unfollowed := true, recurses := true, apart := false, narrowed := true }
def LineStandsUptoSaid : Prop := lineStandsUptoRow.holds Try.pinned (OpenSpec.upto lineStandsSpec)

/-- 'scrimlaw16.LineMoves', WHERE WHAT IT READS IS OF BULK AT MOST 1048576: true; the input reads as it did. -/
def lineMovesUptoRow : OpenClaim := { program := "ythkipbnigokcfaa", sum := "cabf6360dbe14ee24fcd8103e2774b71cb7dfc19b81f47f2aa4388235fc3c2c2", func := "scrim/scrimlaw16.LineMoves", spec := "lineMoves", unfollowed := true, recurses := true, apart := false, narrowed := true }
def LineMovesUptoSaid : Prop := lineMovesUptoRow.holds Try.pinned (OpenSpec.upto lineMovesSpec)

/-- 'scrimlaw16.LineNarrow', WHERE WHAT IT READS IS OF BULK AT MOST 1048576: true; the input reads as it did. -/
def lineNarrowUptoRow : OpenClaim := { program := "ythkipbnigokcfaa", sum := "cabf6360dbe14ee24fcd8103e2774b71cb7dfc19b81f47f2aa4388235fc3c2c2", func := "scrim/scrimlaw16.LineNarrow", spec := "lineNarrow", unfollowed := true, recurses := true, apart := false, narrowed := true }
def LineNarrowUptoSaid : Prop := lineNarrowUptoRow.holds Try.pinned (OpenSpec.upto lineNarrowSpec)

/-- 'scrimlaw16.LineFits', WHERE WHAT IT READS IS OF BULK AT MOST 1048576: true; the input reads as it did. -/
def lineFitsUptoRow : OpenClaim := { program := "ythkipbnigokcfaa", sum := "cabf6360dbe14ee24fcd8103e2774b71cb7dfc19b81f47f2aa4388235fc3c2c2", func := "scrim/scrimlaw16.LineFits", spec := "lineFits", unfollowed := true, recurses := true, apart := false, narrowed := true }
def LineFitsUptoSaid : Prop := lineFitsUptoRow.holds Try.pinned (OpenSpec.upto lineFitsSpec)

end Rows
end Go.Proofs.Ythkipbnigokcfaa
