/- IntsNumbers: any number's body, and any body's number or error, are the document's: over numbers and lists alone, for every number of 64 bits and every list of bytes (of at most 2^47 - 4096 of them). -/
import Derived.Test.YtekebbbalackkaaPAx9
import Derived.Test.YtekebbbalackkaaPureNums
import Derived.Test.YtekebbbalackkaaPureHead
namespace Go.Proofs.Ytekebbbalackkaa.Pure
open Go.RowKit Go.Proofs.Ytekebbbalackkaa.PA Go.Proofs.YtekebbbalackkaaW.PrintWords Go.Proofs.YtekebbbalackkaaW.PrintLast Go.Proofs.YtekebbbalackkaaQ

theorem IntsNumbers : warderlaw02_IntsNumbers.Pure := by
  intro n b hn _ _ hb
  have hf : Fits 7 n := by
    have h := hn
    simp only [Lit.wf, Bool.and_eq_true, decide_eq_true_eq] at h
    exact fits_of h.1 h.2
  have hB : Bytes b := by
    intro x hx
    have h := hb x hx
    simp only [Lit.wf, Bool.and_eq_true, decide_eq_true_eq] at h
    exact ⟨h.1, Int.lt_add_one_of_le h.2⟩
  refine Ev.rounds (Ev.congr (fun k => by unfold warderlaw02_IntsNumbers.f; rfl) ?_)
  refine Ev.bind head_true (Ev.bind (prog_int hB) (Ev.bind (ref_int hB) ?_))
  rw [if_pos rfl]
  refine Ev.bind (put_int hf) (Ev.bind (ref_put_int hf) ?_)
  rw [if_pos rfl]
  simp only [beq_self_eq_true]
  exact Ev.now _
end Go.Proofs.Ytekebbbalackkaa.Pure
