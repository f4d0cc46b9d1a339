/- IntsObjects, of arcs and a body of at most 1048576: any arcs' body, and any body's arcs, or the error, are the document's: over lists alone. -/
import Derived.Test.YtekebbbalackkaaPAx10
import Derived.Test.YtekebbbalackkaaPAx6
import Derived.Test.YtekebbbalackkaaPureOids
import Derived.Test.YtekebbbalackkaaPureHead
set_option linter.unusedVariables false
set_option linter.unusedSimpArgs false
namespace Go.Proofs.YtekebbbalackkaaQ
open Go.RowKit Go.Proofs.YtekebbbalackkaaW.PrintWords Go.Proofs.YtekebbbalackkaaW.PrintLast Go.Proofs.YtekebbbalackkaaW.PrintMore Go.Proofs.Ytekebbbalackkaa.PA
theorem same_self (l : List Int) (hl : l.length ≤ 8796093022208) : Ev (fun k => warderref02_Same.f k l l) true := by
  have loop : ∀ (d i : Nat), i + d = l.length → Ev (fun k => warderref02_Same.l0 k l l i) true := by
    intro d
    induction d with
    | zero =>
      intro i hi
      refine Ev.step (f := fun _ => some true) (fun k => ?_) (Ev.now _)
      simp only [warderref02_Same.l0]
      rw [if_neg (by omega)]
    | succ d ih =>
      intro i hi
      refine Ev.step (fun k => ?_) (ih (i + 1) (by omega))
      simp only [warderref02_Same.l0]
      rw [if_pos (by omega), if_pos (by omega), if_pos (by omega), if_pos trivial, show wrap64 ((i : Int) + 1) = ((i + 1 : Nat) : Int) by rw [w64 (by omega) (by omega)]; omega]
  refine Ev.congr (f := fun k => warderref02_Same.l0 k l l ((0 : Nat) : Int)) (fun k => ?_) (loop l.length 0 (by omega))
  unfold warderref02_Same.f
  rw [if_pos rfl]; rfl
theorem ints_objects (l b : List Int) (hB : Bytes b) (hb : b.length ≤ 8796093022208) : ∃ k, warderlaw02_IntsObjects.f k l b = some true := by
  obtain ⟨r, hp, hq, ht, _⟩ := oid_same hB hb
  have hr : r.1.length ≤ 8796093022208 := by
    rcases ht with h | ⟨o, h, ho, _⟩
    · rw [h]; exact Nat.zero_le _
    · rw [h]; have := ho.2.1; show o.length ≤ _; omega
  refine Ev.rounds (Ev.congr (fun k => by unfold warderlaw02_IntsObjects.f; rfl) ?_)
  refine Ev.bind head_true (Ev.bind (prog_put l) (Ev.bind (ref_put_oid l) (Ev.bind hp (Ev.bind hq ?_))))
  refine Ev_pos rfl (Ev_pos rfl (Ev_pos rfl (Ev.bind (same_self r.1 hr) ?_)))
  refine Ev_pos rfl ?_
  simp only [beq_self_eq_true]
  exact Ev.now _
end Go.Proofs.YtekebbbalackkaaQ
