/- IntsArcs: an object with one arc more has the body of the one without ahead of its own: for every list of arcs (of at most 2^47 - 4096 bytes) and every number. -/
import Derived.Test.YtekebbbalackkaaPAx12
import Derived.Test.YtekebbbalackkaaPurePutOids
import Derived.Test.YtekebbbalackkaaPureHead
set_option linter.unusedVariables false
set_option linter.unusedSimpArgs false
namespace Go.Proofs.Ytekebbbalackkaa.Pure
open Go.RowKit Go.Proofs.Ytekebbbalackkaa.PA Go.Proofs.YtekebbbalackkaaW.PrintWords Go.Proofs.YtekebbbalackkaaW.PrintLast Go.Proofs.YtekebbbalackkaaQ

theorem obj_more {l : List Int} (h : IsObj l) {n : Int} (hn : Arc n) (hl : l.length < 16) : IsObj (l ++ [n]) := by
  have := (push_snoc h hl hn).1
  have hne : l ≠ [] := by rintro rfl; exact absurd h.1 (by simp)
  rwa [show push l n = l ++ [n] by unfold push; rw [if_neg hne]] at this
theorem IntsArcs : warderlaw02_IntsArcs.Pure := by
  intro l n _ hl8 _ _
  refine Ev.rounds (Ev.congr (fun k => by unfold warderlaw02_IntsArcs.f; rfl) ?_)
  refine Ev.bind head_true (Ev.bind (prog_put l) ?_)
  refine Ev.congr (f := fun k => (ints_PutOID.f k (l ++ [n])).bind fun b => if (putOf l).2 = 0 then (if b.2 = 0 then (if (b.1.length : Int) > ((putOf l).1.length : Int) then (if 0 ≤ ((putOf l).1.length : Int) then (if ((putOf l).1.length : Int) ≤ (b.1.length : Int) then (some ((strOfNums (b.1.take (((putOf l).1.length : Int) : Int).toNat)).toList == (strOfNums (putOf l).1).toList)) else none) else none) else some false) else (if n < 0 then some true else (if n > 268435455 then some true else some (decide ((l.length : Int) ≥ 16))))) else some true) (fun k => ?_) ?_
  · simp only [Option.bind_some, List.nil_append, List.length_nil, if_true]
    rw [if_pos (by omega), if_pos (by omega)]
  refine Ev.bind (prog_put (l ++ [n])) ?_
  by_cases ho : IsObj l
  · have e1 : putOf l = (encO l, 0) := if_pos ho
    rw [e1]
    dsimp only
    rw [if_pos rfl]
    by_cases hm : IsObj (l ++ [n])
    · have e2 : putOf (l ++ [n]) = (encO (l ++ [n]), 0) := if_pos hm
      rw [e2, encO_snoc ho.1]
      dsimp only
      rw [if_pos rfl]
      have hg := dg_len n
      rw [if_pos (by rw [List.length_append]; omega), if_pos (by omega), if_pos (by rw [List.length_append]; omega)]
      rw [Int.toNat_natCast, List.take_left]
      simp only [beq_self_eq_true]
      exact Ev.now _
    · have e2 : putOf (l ++ [n]) = ([], 22) := if_neg hm
      rw [e2]
      rw [if_neg (by decide)]
      by_cases h0 : n < 0
      · rw [if_pos h0]; exact Ev.now _
      · rw [if_neg h0]
        by_cases h1 : n > 268435455
        · rw [if_pos h1]; exact Ev.now _
        · rw [if_neg h1]
          have : (l.length : Int) ≥ 16 := by
            by_cases h : l.length < 16
            · exact absurd (obj_more ho ⟨by omega, by omega⟩ h) hm
            · omega
          rw [decide_eq_true this]
          exact Ev.now _
  · have e1 : putOf l = ([], 22) := if_neg ho
    rw [e1]
    rw [if_neg (by decide)]
    exact Ev.now _
end Go.Proofs.Ytekebbbalackkaa.Pure
