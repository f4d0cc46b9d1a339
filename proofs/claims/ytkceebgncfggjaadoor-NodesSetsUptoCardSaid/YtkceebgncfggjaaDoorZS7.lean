/- NodesSets: words, printed functions and plain laws that the claim uses, laid by a program of this session's. No condition beside those in each theorem's own line. -/
import Derived.Test.YtkceebgncfggjaaDoorProg
import Derived.Test.YtkceebgncfggjaaDoorZS3
import Derived.WalkLawsBesides
set_option linter.unusedVariables false
set_option linter.unusedSimpArgs false
namespace Go.Proofs.YtkceebgncfggjaaDoor.H
open Go.RowKit Go.Proofs.YtkceebgncfggjaaDoorW.PrintWords Go.Proofs.YtkceebgncfggjaaDoorW.PrintLast Go.Proofs.YtkceebgncfggjaaDoorW.PrintMore
def wrong (e at_ : Int) : Value := .iface 69 (.agg #[.int .i64 e, .int .i64 at_])
theorem must_ok (e at_ : Int) (w : World) :
    Calls Tryd.prog 43 #[.bool true, .int .i64 e, .int .i64 at_] w fun x w' => x = .returned (.tuple #[]) ∧ w' = w := by
  go_enter Tryd.func43, Tryd.ntmps43
  go_wp2
  simp [bodyPost, results, Tryd.results43, go_sem]
theorem must_not (e at_ : Int) (w : World) :
    Calls Tryd.prog 43 #[.bool false, .int .i64 e, .int .i64 at_] w fun x w' => x = .panicked [{ v := wrong e at_, recovered := false }] ∧ w' = w := by
  go_enter Tryd.func43, Tryd.ntmps43
  go_wp2
  exact ⟨rfl, rfl, rfl⟩
theorem caught_nil (w : World) :
    Calls Tryd.prog 41 #[.nilIface] w fun x w' => x = .returned (.agg #[.int .i64 0, .int .i64 0]) ∧ Below w.heap.size w w' := by
  go_enter Tryd.func41, Tryd.ntmps41
  go_wp2
  simp [bodyPost, results, Tryd.results41, go_sem]
  exact below_alloc (Below.refl _ _) _
set_option maxRecDepth 100000 in
theorem caught_wrong (e at_ : Int) (w : World) :
    Calls Tryd.prog 41 #[wrong e at_] w fun x w' => x = .returned (.agg #[.int .i64 e, .int .i64 at_]) ∧ Below w.heap.size w w' := by
  have hta : ∀ (v : Value) (w : World), (Instr.typeAssert (Value.iface 69 v) 20 69 true).run Tryd.prog w = .ok (.tuple #[v, .bool true]) w := fun v w => by kernel_rfl
  unfold wrong
  go_enter Tryd.func41, Tryd.ntmps41
  go_wp2
  simp [bodyPost, results, Tryd.results41, go_sem]
  exact below_alloc (below_alloc (Below.refl _ _) _) _
end Go.Proofs.YtkceebgncfggjaaDoor.H

