/- NodesDeep's plain law at a part of the tags: reckoned. No condition beside those in each theorem's own line. -/
import Derived.Test.YtkceebgncfggjaaDoorPDx6
namespace Go.Proofs.YtkceebgncfggjaaDoorQ
open Go.RowKit Go.Proofs.YtkceebgncfggjaaDoorW.PrintWords Go.Proofs.YtkceebgncfggjaaDoorW.PrintLast Go.Proofs.YtkceebgncfggjaaDoorW.PrintMore Go.Proofs.YtkceebgncfggjaaDoor.PD
set_option maxRecDepth 100000
theorem deep_16 : ∀ d : Fin 40, warderlaw04_NodesDeep.l0 140 d.1 16 true [5, 0] 0 5 [] = some true := by decide +kernel
theorem deep_17 : ∀ d : Fin 40, warderlaw04_NodesDeep.l0 140 d.1 17 true [5, 0] 0 5 [] = some true := by decide +kernel
theorem deep_18 : ∀ d : Fin 40, warderlaw04_NodesDeep.l0 140 d.1 18 true [5, 0] 0 5 [] = some true := by decide +kernel
theorem deep_19 : ∀ d : Fin 40, warderlaw04_NodesDeep.l0 140 d.1 19 true [5, 0] 0 5 [] = some true := by decide +kernel
theorem deep_20 : ∀ d : Fin 40, warderlaw04_NodesDeep.l0 140 d.1 20 true [5, 0] 0 5 [] = some true := by decide +kernel
theorem deep_21 : ∀ d : Fin 40, warderlaw04_NodesDeep.l0 140 d.1 21 true [5, 0] 0 5 [] = some true := by decide +kernel
theorem deep_22 : ∀ d : Fin 40, warderlaw04_NodesDeep.l0 140 d.1 22 true [5, 0] 0 5 [] = some true := by decide +kernel
theorem deep_23 : ∀ d : Fin 40, warderlaw04_NodesDeep.l0 140 d.1 23 true [5, 0] 0 5 [] = some true := by decide +kernel
end Go.Proofs.YtkceebgncfggjaaDoorQ
