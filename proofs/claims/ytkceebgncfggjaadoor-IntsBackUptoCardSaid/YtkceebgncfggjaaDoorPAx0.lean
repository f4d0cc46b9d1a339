/- Printed by a program of this session's (wip/xprint.py), for this claim: Go functions as plain Lean functions, and the proof that each call does what its function says. No condition beside those in each theorem's own line. -/
import Derived.Test.YtkceebgncfggjaaDoorProg
import Derived.Below
import Derived.Deep.Draws
import Derived.Deep.AppendLies
import Derived.Maps.AppendAt
import Derived.OwnWalk
import Derived.Laws.BytesArg
import Derived.Laws.MakeOwn
import Derived.Laws.OwnMore
import Derived.Deep.OwnRows
import Derived.Tactics
import Derived.Lib.ConvBytes
import Derived.Laws.Slices
import Derived.WalkKit
import Derived.KernelRfl
import Derived.RowKit3
import Derived.Deep.LoopGhost
import Derived.Deep.QuietTactic
import Derived.BigQuiet
import Derived.WideLaws
import Derived.Deep.DeepCutAuto
import Derived.Deep.CutBlock
import Derived.Deep.RegionHeld3
import Derived.Laws.Rows
import Derived.Lib.AppendStr
import Derived.ArgAppend
import Derived.Laws.IdiomCopy
import Derived.OrdersHeld
import Derived.Laws.BitsLemmas
import Derived.RowKit
import Derived.Test.YtkceebgncfggjaaDoorXWords
import Derived.Test.YtkceebgncfggjaaDoorXTab
import Derived.Test.YtkceebgncfggjaaDoorWWords
import Derived.Test.YtkceebgncfggjaaDoorWLast
import Derived.Test.YtkceebgncfggjaaDoorWTab
import Derived.Test.YtkceebgncfggjaaDoorWFour
import Derived.Test.YtkceebgncfggjaaDoorWQPut
import Derived.Test.YtkceebgncfggjaaDoorWApart
import Derived.Test.YtkceebgncfggjaaDoorWArr
import Derived.Test.YtkceebgncfggjaaDoorWZeros
import Derived.Test.YtkceebgncfggjaaDoorWFoot
import Derived.Test.YtkceebgncfggjaaDoorWKept
import Derived.Test.YtkceebgncfggjaaDoorWShare
import Derived.Test.YtkceebgncfggjaaDoorWN
import Derived.Test.YtkceebgncfggjaaDoorWFootNe
import Derived.Test.YtkceebgncfggjaaDoorWAt
import Derived.Test.YtkceebgncfggjaaDoorWEqStruct
import Derived.Test.YtkceebgncfggjaaDoorWRepsOne
import Derived.Test.YtkceebgncfggjaaDoorWInv
import Derived.Test.YtkceebgncfggjaaDoorWInvWords
import Derived.Test.YtkceebgncfggjaaDoorWGuard
import Derived.Test.YtkceebgncfggjaaDoorWNEv
import Derived.Test.YtkceebgncfggjaaDoorWMore
namespace Go.Proofs.YtkceebgncfggjaaDoor.PA
open Go.RowKit Go.Proofs.YtkceebgncfggjaaDoorW.PrintWords Go.Proofs.YtkceebgncfggjaaDoorW.PrintLast Go.Proofs.YtkceebgncfggjaaDoorW.PrintMore Go.Proofs.YtkceebgncfggjaaDoorX
attribute [local go_sem] max2_int min2_int max_two min_two max_three min_three max_four min_four   -- for this text's walks alone
set_option linter.unusedVariables false
set_option linter.unusedSimpArgs false



def errW : Option Int → Value
  | none => .nilIface
  | some c => .iface 0 (.int .i64 c)
theorem errW_none : errW none = .nilIface := rfl
theorem errW_some (c : Int) : errW (some c) = .iface 0 (.int .i64 c) := rfl

theorem info3 : (Tryd.prog.info? 3).map (fun i => (i.zero, i.size, i.bytes)) = some (some (.int .i64 0), 1, 8) := by kernel_rfl
theorem info5 : (Tryd.prog.info? 5).map (fun i => (i.zero, i.size, i.bytes)) = some (some (.int .u8 0), 1, 1) := by kernel_rfl
-- the values' own types

end Go.Proofs.YtkceebgncfggjaaDoor.PA
