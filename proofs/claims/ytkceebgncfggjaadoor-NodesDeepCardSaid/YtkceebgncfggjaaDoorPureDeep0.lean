/- NodesDeep's plain law at a part of the tags: reckoned. No condition beside those in each theorem's own line. -/
import Derived.Test.YtkceebgncfggjaaDoorPDx6
namespace Go.Proofs.YtkceebgncfggjaaDoorQ
open Go.RowKit Go.Proofs.YtkceebgncfggjaaDoorW.PrintWords Go.Proofs.YtkceebgncfggjaaDoorW.PrintLast Go.Proofs.YtkceebgncfggjaaDoorW.PrintMore Go.Proofs.YtkceebgncfggjaaDoor.PD
set_option maxRecDepth 100000
theorem deep_0 : ∀ d : Fin 40, warderlaw04_NodesDeep.l0 140 d.1 0 true [5, 0] 0 5 [] = some true := by decide +kernel
theorem deep_1 : ∀ d : Fin 40, warderlaw04_NodesDeep.l0 140 d.1 1 true [5, 0] 0 5 [] = some true := by decide +kernel
theorem deep_2 : ∀ d : Fin 40, warderlaw04_NodesDeep.l0 140 d.1 2 true [5, 0] 0 5 [] = some true := by decide +kernel
theorem deep_3 : ∀ d : Fin 40, warderlaw04_NodesDeep.l0 140 d.1 3 true [5, 0] 0 5 [] = some true := by decide +kernel
theorem deep_4 : ∀ d : Fin 40, warderlaw04_NodesDeep.l0 140 d.1 4 true [5, 0] 0 5 [] = some true := by decide +kernel
theorem deep_5 : ∀ d : Fin 40, warderlaw04_NodesDeep.l0 140 d.1 5 true [5, 0] 0 5 [] = some true := by decide +kernel
theorem deep_6 : ∀ d : Fin 40, warderlaw04_NodesDeep.l0 140 d.1 6 true [5, 0] 0 5 [] = some true := by decide +kernel
theorem deep_7 : ∀ d : Fin 40, warderlaw04_NodesDeep.l0 140 d.1 7 true [5, 0] 0 5 [] = some true := by decide +kernel
end Go.Proofs.YtkceebgncfggjaaDoorQ
