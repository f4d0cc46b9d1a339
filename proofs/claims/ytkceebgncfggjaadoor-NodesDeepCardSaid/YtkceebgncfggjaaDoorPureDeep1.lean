/- NodesDeep's plain law at a part of the tags: reckoned. No condition beside those in each theorem's own line. -/
import Derived.Test.YtkceebgncfggjaaDoorPDx6
namespace Go.Proofs.YtkceebgncfggjaaDoorQ
open Go.RowKit Go.Proofs.YtkceebgncfggjaaDoorW.PrintWords Go.Proofs.YtkceebgncfggjaaDoorW.PrintLast Go.Proofs.YtkceebgncfggjaaDoorW.PrintMore Go.Proofs.YtkceebgncfggjaaDoor.PD
set_option maxRecDepth 100000
theorem deep_8 : ∀ d : Fin 40, warderlaw04_NodesDeep.l0 140 d.1 8 true [5, 0] 0 5 [] = some true := by decide +kernel
theorem deep_9 : ∀ d : Fin 40, warderlaw04_NodesDeep.l0 140 d.1 9 true [5, 0] 0 5 [] = some true := by decide +kernel
theorem deep_10 : ∀ d : Fin 40, warderlaw04_NodesDeep.l0 140 d.1 10 true [5, 0] 0 5 [] = some true := by decide +kernel
theorem deep_11 : ∀ d : Fin 40, warderlaw04_NodesDeep.l0 140 d.1 11 true [5, 0] 0 5 [] = some true := by decide +kernel
theorem deep_12 : ∀ d : Fin 40, warderlaw04_NodesDeep.l0 140 d.1 12 true [5, 0] 0 5 [] = some true := by decide +kernel
theorem deep_13 : ∀ d : Fin 40, warderlaw04_NodesDeep.l0 140 d.1 13 true [5, 0] 0 5 [] = some true := by decide +kernel
theorem deep_14 : ∀ d : Fin 40, warderlaw04_NodesDeep.l0 140 d.1 14 true [5, 0] 0 5 [] = some true := by decide +kernel
theorem deep_15 : ∀ d : Fin 40, warderlaw04_NodesDeep.l0 140 d.1 15 true [5, 0] 0 5 [] = some true := by decide +kernel
end Go.Proofs.YtkceebgncfggjaaDoorQ
