/- warder/nodes.must as a plain Lean function, and the proof that its call does what that says. No condition beside those in each theorem's own line. -/
import Derived.Test.YtkceebgncfggjaaDoorHMust
import Derived.Test.YtkceebgncfggjaaDoorXFail
import Derived.Test.YtkceebgncfggjaaDoorPDx0
namespace Go.Proofs.YtkceebgncfggjaaDoor.PD
open Go.RowKit Go.Proofs.YtkceebgncfggjaaDoorW.PrintWords Go.Proofs.YtkceebgncfggjaaDoorW.PrintLast Go.Proofs.YtkceebgncfggjaaDoorW.PrintMore Go.Proofs.YtkceebgncfggjaaDoorX
/-! ### nodes_must: function 43 -/
def nodes_must.f (a0 : Bool) (a1 a2 : Int) : Option (XR Unit) := some (if a0 = true then .ok () else .error (a1, a2))
theorem nodes_must.calls (a0 : Bool) (a1 a2 : Int) (rr : XR Unit) (w : World) (h : nodes_must.f a0 a1 a2 = some rr) :
    Calls Tryd.prog 43 #[.bool a0, .int .i64 a1, .int .i64 a2] w fun e w' => XR.post rr (fun _ => e = .returned (.tuple #[]) ∧ Drawn0 w w') (fun er => ErrX w er e w') := by
  obtain rfl := Option.some.inj h
  cases a0 with
  | true =>
    refine (H.must_ok a1 a2 w).mono ?_
    rintro e w' ⟨rfl, rfl⟩
    exact ⟨rfl, Drawn0.refl _⟩
  | false =>
    refine (H.must_not a1 a2 w).mono ?_
    rintro e w' ⟨rfl, rfl⟩
    exact ⟨rfl, Below.refl _ _⟩
end Go.Proofs.YtkceebgncfggjaaDoor.PD
