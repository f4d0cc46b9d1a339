/- The deferred closures of warder/nodes.Parse and Print: what they do where their frame returns and where it panics. No condition beside those in each theorem's own line. -/
import Derived.Test.YtkceebgncfggjaaDoorHMust
import Derived.Defers
import Derived.Recover
namespace Go.Proofs.YtkceebgncfggjaaDoor.H
open Go.RowKit Go.Proofs.YtkceebgncfggjaaDoorW.PrintWords Go.Proofs.YtkceebgncfggjaaDoorW.PrintLast Go.Proofs.YtkceebgncfggjaaDoorW.PrintMore
set_option linter.unusedVariables false
set_option maxRecDepth 100000 in
theorem parse1_idle (p q r : Addr) (w : World) :
    CallsD Tryd.prog 40 #[.pointer (some p), .pointer (some q), .pointer (some r)] .returning w fun e u' w' => e = .returned (.tuple #[]) ∧ u' = .returning ∧ Below w.heap.size w w' := by
  refine callsD_of_wpS Tryd.func40 rfl fun c₀ cs hu => ?_
  apply wpS_seq
  apply wpS_region
  simp [wpOpsS, go_sem, recoverD, hu, Tryd.ntmps40, Exit.thenS]
  refine (caught_nil w).mono ?_
  rintro e w1 ⟨rfl, hb⟩
  simp [go_sem]
  refine wpS_of_wp ?_
  go_wp2
  cases c₀
  simp_all [bodyPostS, results, Tryd.results40, go_sem]
  exact below_alloc hb _
end Go.Proofs.YtkceebgncfggjaaDoor.H
