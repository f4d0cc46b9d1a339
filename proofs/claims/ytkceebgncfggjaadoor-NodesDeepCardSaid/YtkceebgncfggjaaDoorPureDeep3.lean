/- NodesDeep's plain law at a part of the tags: reckoned. No condition beside those in each theorem's own line. -/
import Derived.Test.YtkceebgncfggjaaDoorPDx6
namespace Go.Proofs.YtkceebgncfggjaaDoorQ
open Go.RowKit Go.Proofs.YtkceebgncfggjaaDoorW.PrintWords Go.Proofs.YtkceebgncfggjaaDoorW.PrintLast Go.Proofs.YtkceebgncfggjaaDoorW.PrintMore Go.Proofs.YtkceebgncfggjaaDoor.PD
set_option maxRecDepth 100000
theorem deep_24 : ∀ d : Fin 40, warderlaw04_NodesDeep.l0 140 d.1 24 true [5, 0] 0 5 [] = some true := by decide +kernel
theorem deep_25 : ∀ d : Fin 40, warderlaw04_NodesDeep.l0 140 d.1 25 true [5, 0] 0 5 [] = some true := by decide +kernel
theorem deep_26 : ∀ d : Fin 40, warderlaw04_NodesDeep.l0 140 d.1 26 true [5, 0] 0 5 [] = some true := by decide +kernel
theorem deep_27 : ∀ d : Fin 40, warderlaw04_NodesDeep.l0 140 d.1 27 true [5, 0] 0 5 [] = some true := by decide +kernel
theorem deep_28 : ∀ d : Fin 40, warderlaw04_NodesDeep.l0 140 d.1 28 true [5, 0] 0 5 [] = some true := by decide +kernel
theorem deep_29 : ∀ d : Fin 40, warderlaw04_NodesDeep.l0 140 d.1 29 true [5, 0] 0 5 [] = some true := by decide +kernel
theorem deep_30 : ∀ d : Fin 40, warderlaw04_NodesDeep.l0 140 d.1 30 true [5, 0] 0 5 [] = some true := by decide +kernel
theorem deep_31 : ∀ d : Fin 40, warderlaw04_NodesDeep.l0 140 d.1 31 true [5, 0] 0 5 [] = some true := by decide +kernel
end Go.Proofs.YtkceebgncfggjaaDoorQ
