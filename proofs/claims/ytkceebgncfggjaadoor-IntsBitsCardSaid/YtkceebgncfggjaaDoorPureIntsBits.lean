/- IntsBits over numbers and lists alone: any mask's body, and any body's mask, or the error, are the document's. -/
import Derived.Test.YtkceebgncfggjaaDoorPAx9
import Derived.Test.YtkceebgncfggjaaDoorPureRefBits2
import Derived.Test.YtkceebgncfggjaaDoorPureHead
set_option linter.unusedVariables false
set_option linter.unusedSimpArgs false
namespace Go.Proofs.YtkceebgncfggjaaDoorQ
open Go.RowKit Go.Proofs.YtkceebgncfggjaaDoorW.PrintWords Go.Proofs.YtkceebgncfggjaaDoorW.PrintLast Go.Proofs.YtkceebgncfggjaaDoorW.PrintMore Go.Proofs.YtkceebgncfggjaaDoorX Go.Proofs.YtkceebgncfggjaaDoor.PA
attribute [local irreducible] R
theorem ints_bits {m : Nat} (hm : m < 65536) {b : List Int} (hB : Bytes b) (hb : b.length ≤ 140737488351232) : ∃ k, warderlaw02_IntsBits.f k (m : Int) b = some true := by
  refine Ev.rounds (Ev.congr (fun k => by unfold warderlaw02_IntsBits.f; rw [prog_bits hB hb, prog_putbits hm]) ?_)
  refine Ev.bind head_true (Ev_some (Ev.bind (ref_bits hB hb) (Ev_pos rfl (Ev_some (Ev.bind (ref_putbits hm) (Ev_pos rfl (Ev_pos rfl ?_)))))))
  rw [beq_self_eq_true]
  exact Ev.now _
end Go.Proofs.YtkceebgncfggjaaDoorQ
