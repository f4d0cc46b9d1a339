/- The live question of layer 2's statements answers true. -/
import Derived.Test.YtekebbbalackkaaPAx8
import Derived.KernelRfl
namespace Go.Proofs.YtekebbbalackkaaQ
open Go.RowKit Go.Proofs.YtekebbbalackkaaW.PrintWords Go.Proofs.YtekebbbalackkaaW.PrintLast Go.Proofs.YtekebbbalackkaaW.PrintMore Go.Proofs.Ytekebbbalackkaa.PA
theorem head_true : Ev (fun k => warderlaw02_head.f k) true := Ev.of (fun k => warderlaw02_head.mono k) (k := 40) (by kernel_rfl)
end Go.Proofs.YtekebbbalackkaaQ
