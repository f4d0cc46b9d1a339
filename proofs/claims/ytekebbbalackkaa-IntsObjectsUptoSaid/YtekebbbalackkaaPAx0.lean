/- Printed by a program of this session's (wip/xprint.py), for this claim: Go functions as plain Lean functions, and the proof that each call does what its function says. No condition beside those in each theorem's own line. -/
import Derived.Test.YtekebbbalackkaaProg
import Derived.Below
import Derived.Deep.Draws
import Derived.Deep.AppendLies
import Derived.Maps.AppendAt
import Derived.OwnWalk
import Derived.Laws.BytesArg
import Derived.Laws.MakeOwn
import Derived.Laws.OwnMore
import Derived.Deep.OwnRows
import Derived.Tactics
import Derived.Lib.ConvBytes
import Derived.Laws.Slices
import Derived.WalkKit
import Derived.KernelRfl
import Derived.RowKit3
import Derived.Deep.LoopGhost
import Derived.Deep.QuietTactic
import Derived.BigQuiet
import Derived.WideLaws
import Derived.Deep.DeepCutAuto
import Derived.Deep.CutBlock
import Derived.Deep.RegionHeld3
import Derived.Laws.Rows
import Derived.Lib.AppendStr
import Derived.ArgAppend
import Derived.Laws.IdiomCopy
import Derived.OrdersHeld
import Derived.Laws.BitsLemmas
import Derived.RowKit
import Derived.Test.YtekebbbalackkaaXWords
import Derived.Test.YtekebbbalackkaaWWords
import Derived.Test.YtekebbbalackkaaWLast
import Derived.Test.YtekebbbalackkaaWTab
import Derived.Test.YtekebbbalackkaaWFour
import Derived.Test.YtekebbbalackkaaWQPut
import Derived.Test.YtekebbbalackkaaWApart
import Derived.Test.YtekebbbalackkaaWArr
import Derived.Test.YtekebbbalackkaaWZeros
import Derived.Test.YtekebbbalackkaaWFoot
import Derived.Test.YtekebbbalackkaaWKept
import Derived.Test.YtekebbbalackkaaWShare
import Derived.Test.YtekebbbalackkaaWN
import Derived.Test.YtekebbbalackkaaWFootNe
import Derived.Test.YtekebbbalackkaaWAt
import Derived.Test.YtekebbbalackkaaWEqStruct
import Derived.Test.YtekebbbalackkaaWRepsOne
import Derived.Test.YtekebbbalackkaaWInv
import Derived.Test.YtekebbbalackkaaWInvWords
import Derived.Test.YtekebbbalackkaaWGuard
import Derived.Test.YtekebbbalackkaaWNEv
import Derived.Test.YtekebbbalackkaaWMore
namespace Go.Proofs.Ytekebbbalackkaa.PA
open Go.RowKit Go.Proofs.YtekebbbalackkaaW.PrintWords Go.Proofs.YtekebbbalackkaaW.PrintLast Go.Proofs.YtekebbbalackkaaW.PrintMore Go.Proofs.YtekebbbalackkaaX
attribute [local go_sem] max2_int min2_int max_two min_two max_three min_three max_four min_four   -- for this text's walks alone
set_option linter.unusedVariables false
set_option linter.unusedSimpArgs false



def errW : Option Int → Value
  | none => .nilIface
  | some c => .iface 0 (.int .i64 c)
theorem errW_none : errW none = .nilIface := rfl
theorem errW_some (c : Int) : errW (some c) = .iface 0 (.int .i64 c) := rfl

theorem info3 : (Try.prog.info? 3).map (fun i => (i.zero, i.size, i.bytes)) = some (some (.int .i64 0), 1, 8) := by kernel_rfl
theorem info5 : (Try.prog.info? 5).map (fun i => (i.zero, i.size, i.bytes)) = some (some (.int .u8 0), 1, 1) := by kernel_rfl
-- the values' own types

end Go.Proofs.Ytekebbbalackkaa.PA
