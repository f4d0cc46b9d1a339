/- The live question of layer 2's statements answers true. -/
import Derived.Test.YtkceebgncfggjaaDoorPAx6
import Derived.KernelRfl
namespace Go.Proofs.YtkceebgncfggjaaDoorQ
open Go.RowKit Go.Proofs.YtkceebgncfggjaaDoorW.PrintWords Go.Proofs.YtkceebgncfggjaaDoorW.PrintLast Go.Proofs.YtkceebgncfggjaaDoorW.PrintMore Go.Proofs.YtkceebgncfggjaaDoor.PA
theorem head_true : Ev (fun k => warderlaw02_head.f k) true := Ev.of (fun k => warderlaw02_head.mono k) (k := 40) (by kernel_rfl)
end Go.Proofs.YtkceebgncfggjaaDoorQ
