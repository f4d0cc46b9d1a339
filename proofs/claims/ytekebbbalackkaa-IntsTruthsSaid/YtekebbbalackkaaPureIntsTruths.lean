/- IntsTruths: truths' bodies, and any body's truth, or the error, are the document's: for both truths and every list of bytes (of at most 2^47 - 4096 of them). -/
import Derived.Test.YtekebbbalackkaaPAx13
import Derived.Test.YtekebbbalackkaaPureBool
import Derived.Test.YtekebbbalackkaaPureHead
set_option linter.unusedVariables false
set_option linter.unusedSimpArgs false
namespace Go.Proofs.Ytekebbbalackkaa.Pure
open Go.RowKit Go.Proofs.Ytekebbbalackkaa.PA Go.Proofs.YtekebbbalackkaaW.PrintWords Go.Proofs.YtekebbbalackkaaW.PrintLast Go.Proofs.YtekebbbalackkaaQ

theorem IntsTruths : warderlaw02_IntsTruths.Pure := by
  intro is b _ _ hb
  have hB : Bytes b := by
    intro x hx
    have h := hb x hx
    simp only [Lit.wf, Bool.and_eq_true, decide_eq_true_eq] at h
    exact ⟨h.1, Int.lt_add_one_of_le h.2⟩
  refine Ev.rounds (Ev.congr (fun k => by unfold warderlaw02_IntsTruths.f; rfl) ?_)
  have h1 : ∃ r, ints_Bool.f b = some r ∧ warderref02_Bool.f b = some r := bool_same hB
  obtain ⟨r, h1, h2⟩ := h1
  refine Ev.bind head_true ?_
  rw [h1, h2]
  simp only [Option.bind_some, if_true]
  cases is <;> simp [ints_PutBool.f, warderref02_PutBool.f] <;> exact Ev.now _
end Go.Proofs.Ytekebbbalackkaa.Pure
