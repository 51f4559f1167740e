/- Written by a program of this session (wip/xprint.py): plain Lean functions, and that the Go functions compute them. -/
import Derived.Test.YtgppemaekgnnfaaProg
import Derived.Below
import Derived.Deep.Draws
import Derived.Deep.AppendLies
import Derived.Maps.AppendAt
import Derived.OwnWalk
import Derived.Laws.BytesArg
import Derived.Laws.MakeOwn
import Derived.Laws.OwnMore
import Derived.Deep.OwnRows
import Derived.Tactics
import Derived.Lib.ConvBytes
import Derived.Laws.Slices
import Derived.WalkKit
import Derived.KernelRfl
import Derived.RowKit3
import Derived.Deep.LoopGhost
import Derived.Deep.QuietTactic
import Derived.BigQuiet
import Derived.WideLaws
import Derived.Deep.DeepCutAuto
import Derived.Deep.CutBlock
import Derived.Deep.RegionHeld3
import Derived.Laws.Rows
import Derived.Lib.AppendStr
import Derived.ArgAppend
import Derived.Laws.IdiomCopy
import Derived.OrdersHeld
import Derived.Laws.BitsLemmas
import Derived.RowKit
import Derived.Test.YtgppemaekgnnfaaFx
import Derived.Test.YtgppemaekgnnfaaFxS
import Derived.Test.YtgppemaekgnnfaaFxM
import Derived.Test.YtgppemaekgnnfaaWWords
import Derived.Test.YtgppemaekgnnfaaWLast
import Derived.Test.YtgppemaekgnnfaaWTab
import Derived.Test.YtgppemaekgnnfaaWFour
import Derived.Test.YtgppemaekgnnfaaWQPut
import Derived.Test.YtgppemaekgnnfaaWApart
import Derived.Test.YtgppemaekgnnfaaWArr
import Derived.Test.YtgppemaekgnnfaaWZeros
import Derived.Test.YtgppemaekgnnfaaWFoot
import Derived.Test.YtgppemaekgnnfaaWKept
import Derived.Test.YtgppemaekgnnfaaWShare
import Derived.Test.YtgppemaekgnnfaaWN
import Derived.Test.YtgppemaekgnnfaaWFootNe
import Derived.Test.YtgppemaekgnnfaaWAt
import Derived.Test.YtgppemaekgnnfaaWEqStruct
import Derived.Test.YtgppemaekgnnfaaWRepsOne
import Derived.Test.YtgppemaekgnnfaaWInv
import Derived.Test.YtgppemaekgnnfaaWInvWords
import Derived.Test.YtgppemaekgnnfaaWGuard
import Derived.Test.YtgppemaekgnnfaaWNEv
import Derived.Test.YtgppemaekgnnfaaWMore
namespace Go.Proofs.Ytgppemaekgnnfaa.Q
open Go.RowKit Go.Proofs.YtgppemaekgnnfaaW.PrintWords Go.Proofs.YtgppemaekgnnfaaW.PrintLast Go.Proofs.YtgppemaekgnnfaaW.PrintMore
attribute [local go_sem] max2_int min2_int max_two min_two max_three min_three max_four min_four   -- for this text's walks alone
set_option linter.unusedVariables false
set_option linter.unusedSimpArgs false



def errW : Option Int → Value
  | none => .nilIface
  | some c => .iface 0 (.int .i64 c)
theorem errW_none : errW none = .nilIface := rfl
theorem errW_some (c : Int) : errW (some c) = .iface 0 (.int .i64 c) := rfl

theorem info2 : (Try.prog.info? 2).map (fun i => (i.zero, i.size, i.bytes)) = some (some (.int .i64 0), 1, 8) := by kernel_rfl
-- the values' own types

end Go.Proofs.Ytgppemaekgnnfaa.Q
