/- Truths' bodies: the program's Bool and the reference's answer alike. -/
import Derived.Test.YtekebbbalackkaaPAx6
import Derived.Test.YtekebbbalackkaaPAx7
import Derived.Test.YtekebbbalackkaaPureNums
set_option linter.unusedVariables false
set_option linter.unusedSimpArgs false
namespace Go.Proofs.YtekebbbalackkaaQ
open Go.RowKit Go.Proofs.YtekebbbalackkaaW.PrintWords Go.Proofs.YtekebbbalackkaaW.PrintLast Go.Proofs.YtekebbbalackkaaW.PrintMore Go.Proofs.Ytekebbbalackkaa.PA
theorem bool_same {b : List Int} (hb : Bytes b) : ∃ r, ints_Bool.f b = some r ∧ warderref02_Bool.f b = some r := by
  have hs : ∀ v, ints_strict_bool.f b v 23 = some (if (if v = true then [255] else [0]) = b then (v, 0) else (false, 23)) := by
    intro v
    have hv : Bytes (if v = true then [(255 : Int)] else [0]) := by
      cases v
      · exact Bytes.cons (by omega) (by omega) Bytes.nil
      · exact Bytes.cons (by omega) (by omega) Bytes.nil
    unfold ints_strict_bool.f ints_PutBool.f bytes_Equal.f
    cases v
    · simp only [Bool.false_eq_true, if_false, Option.bind_some]
      rw [strOf_eq (l := [0]) (Bytes.cons (by omega) (by omega) Bytes.nil) hb]
      by_cases h : [0] = b
      · rw [decide_eq_true h, if_pos h, if_pos rfl]
      · rw [decide_eq_false h, if_neg h, if_neg (by decide)]
    · simp only [if_true, Option.bind_some]
      rw [strOf_eq (l := [255]) (Bytes.cons (by omega) (by omega) Bytes.nil) hb]
      by_cases h : [255] = b
      · rw [decide_eq_true h, if_pos h, if_pos rfl]
      · rw [decide_eq_false h, if_neg h, if_neg (by decide)]
  cases b with
  | nil =>
    refine ⟨(false, 23), ?_, rfl⟩
    unfold ints_Bool.f
    rw [if_neg (by simp), hs false]
    rfl
  | cons c r =>
    have hc := hb.head
    unfold ints_Bool.f warderref02_Bool.f
    rw [if_pos (by simp <;> omega), if_pos (by simp <;> omega), rd_zero, hs]
    cases r with
    | nil =>
      rw [if_pos (show (([c] : List Int).length : Int) = 1 from rfl), if_pos (show (0 : Int) < (([c] : List Int).length : Int) by simp)]
      simp only [Option.bind_some]
      by_cases h0 : c = 0
      · subst h0; exact ⟨_, rfl, rfl⟩
      · rw [if_neg h0, decide_eq_true (show c > 0 by omega)]
        by_cases h2 : c = 255
        · subst h2; exact ⟨_, rfl, rfl⟩
        · rw [if_neg h2]
          refine ⟨(false, 23), ?_, rfl⟩
          rw [if_neg (by simp; omega)]
    | cons d r =>
      rw [if_neg (show ¬ ((c :: d :: r).length : Int) = 1 by simp <;> omega)]
      refine ⟨(false, 23), ?_, rfl⟩
      rw [if_neg]
      · rfl
      · intro h
        have := congrArg List.length h
        split at this <;> simp at this
end Go.Proofs.YtekebbbalackkaaQ
