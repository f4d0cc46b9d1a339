/- The reference's Same of a list and itself. -/
import Derived.Test.YtkceebgncfggjaaDoorPAx5
import Derived.Test.YtkceebgncfggjaaDoorPureNums
set_option linter.unusedVariables false
set_option linter.unusedSimpArgs false
namespace Go.Proofs.YtkceebgncfggjaaDoorQ
open Go.RowKit Go.Proofs.YtkceebgncfggjaaDoorW.PrintWords Go.Proofs.YtkceebgncfggjaaDoorW.PrintLast Go.Proofs.YtkceebgncfggjaaDoorW.PrintMore Go.Proofs.YtkceebgncfggjaaDoor.PA
theorem same_self (l : List Int) (hl : l.length ≤ 8796093022208) : Ev (fun k => warderref02_Same.f k l l) true := by
  have loop : ∀ (d i : Nat), i + d = l.length → Ev (fun k => warderref02_Same.l0 k l l i) true := by
    intro d
    induction d with
    | zero =>
      intro i hi
      refine Ev.step (f := fun _ => some true) (fun k => ?_) (Ev.now _)
      simp only [warderref02_Same.l0]
      rw [if_neg (by omega)]
    | succ d ih =>
      intro i hi
      refine Ev.step (fun k => ?_) (ih (i + 1) (by omega))
      simp only [warderref02_Same.l0]
      rw [if_pos (by omega), if_pos (by omega), if_pos (by omega), if_pos trivial, show wrap64 ((i : Int) + 1) = ((i + 1 : Nat) : Int) by rw [w64 (by omega) (by omega)]; omega]
  refine Ev.congr (f := fun k => warderref02_Same.l0 k l l ((0 : Nat) : Int)) (fun k => ?_) (loop l.length 0 (by omega))
  unfold warderref02_Same.f
  rw [if_pos rfl]; rfl
end Go.Proofs.YtkceebgncfggjaaDoorQ
