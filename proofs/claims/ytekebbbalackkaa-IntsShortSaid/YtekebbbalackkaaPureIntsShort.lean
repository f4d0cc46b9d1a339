/- IntsShort: a number's body is the shortest that tells it; of 0 to 127 it is that byte: for all numbers of 64 bits and all bytes. -/
import Derived.Test.YtekebbbalackkaaPAx11
import Derived.Test.YtekebbbalackkaaPureNums
import Derived.Test.YtekebbbalackkaaPureHead
set_option linter.unusedVariables false
set_option linter.unusedSimpArgs false
namespace Go.Proofs.Ytekebbbalackkaa.Pure
open Go.RowKit Go.Proofs.Ytekebbbalackkaa.PA Go.Proofs.YtekebbbalackkaaW.PrintWords Go.Proofs.YtekebbbalackkaaW.PrintLast Go.Proofs.YtekebbbalackkaaQ

theorem short_loop (n c : Int) (hn : Fits 7 n) (h0 : 0 ≤ c) (h1 : c < 256) (b : List Int) (hb : Bytes b) (h8 : b.length ≤ 8) (d : Nat) : ∀ (i j : Nat) (v : Int), i + d = b.length → Fits j v → j + d ≤ 7 →
    more v (b.drop i) = n → Ev (fun k => warderlaw02_IntsShort.l0 k n c true b v i) true := by
  have e7 : bits .and .u8 c 127 = c % 128 := and127 h0 h1
  induction d with
  | zero =>
    intro i j v hi hf hj hv
    rw [List.drop_eq_nil_of_le (by omega)] at hv
    have hv' : v = n := hv
    have hs := put_int (n := c % 128) (fits_small (by omega) (by omega))
    rw [enc_small (by omega) (by omega), show c % 128 % 256 = c % 128 by omega] at hs
    refine Ev.step (f := fun k => (ints_PutInt.f k (c % 128)).bind fun t => if v = n then if (t.length : Int) = 1 then if 0 < (t.length : Int) then some (rd t 0 == c % 128) else none else some false else some false) (fun k => ?_) (Ev.bind hs ?_)
    · simp only [warderlaw02_IntsShort.l0]
      rw [if_neg (by omega), e7, w64 (by omega) (by omega)]
      rfl
    · exact Ev.congr (f := fun _ => some true) (fun k => by simp [hv', rd]) (Ev.now _)
  | succ d ih =>
    intro i j v hi hf hj hv
    have hlt : i < b.length := by omega
    have hc := bytes_getD hb hlt
    obtain ⟨e1, e2, e3, hf2⟩ := step_fits (by omega) hf hc.1 hc.2
    rw [drop_getD hlt, more_cons] at hv
    have := ih (i + 1) (j + 1) (v * 256 + b.getD i 0) (by omega) hf2 (by omega) hv
    refine Ev.step (fun k => ?_) this
    simp only [warderlaw02_IntsShort.l0]
    rw [if_pos (by omega), if_pos (by omega), rd_nat, e1, e3, or_add 8 (by decide) (by omega) hc.1 hc.2, e2, show wrap64 ((i : Int) + 1) = ((i + 1 : Nat) : Int) by rw [w64 (by omega) (by omega)]; omega]
theorem IntsShort : warderlaw02_IntsShort.Pure := by
  intro n c hn hc
  have hf : Fits 7 n := by
    have h := hn
    simp only [Lit.wf, Bool.and_eq_true, decide_eq_true_eq] at h
    exact fits_of h.1 h.2
  have hcr : 0 ≤ c ∧ c < 256 := by
    have h := hc
    simp only [Lit.wf, Bool.and_eq_true, decide_eq_true_eq] at h
    exact ⟨h.1, Int.lt_add_one_of_le h.2⟩
  have l1 := enc_len_pos n
  have l8 := enc_len_le hf
  have hb := enc_bytes n
  have hv := val_enc hf
  have hnl := enc_not_long hf
  refine Ev.rounds (Ev.congr (fun k => by unfold warderlaw02_IntsShort.f; rfl) ?_)
  refine Ev.bind head_true (Ev.bind (put_int hf) ?_)
  refine Ev_neg (by omega) ?_
  rw [decide_eq_false (by omega)]
  generalize enc n = b at *
  cases b with
  | nil => simp at l1
  | cons x r =>
    have hx := hb.head
    -- the body is not too long: the way to j1
    have hj1 : Ev (fun k => warderlaw02_IntsShort.j1 k n c true (x :: r) false) true := by
      have hval : more (sg x) r = n := hv
      have start : ∀ v0 : Int, v0 * 256 + x = sg x → (-1 = v0 ∨ v0 = 0) → Ev (fun k => warderlaw02_IntsShort.j2 k n c true (x :: r) v0) true := by
        intro v0 hs h01
        refine Ev.step (f := fun k => warderlaw02_IntsShort.l0 k n c true (x :: r) v0 0) (fun k => rfl) ?_
        have := short_loop n c hf hcr.1 hcr.2 (x :: r) hb l8 r.length 1 0 (sg x) (by simp <;> omega) (sg_fits hx.1 hx.2) (by simp at l8; omega) hval
        refine Ev.step (fun k => ?_) this
        simp only [warderlaw02_IntsShort.l0]
        rw [if_pos (by simp <;> omega), if_pos (by omega), rd_zero, w64 (n := x) (by omega) (by omega), w64 (n := v0 * 256) (by omega) (by omega), or_add 8 (by decide) (by omega) hx.1 hx.2, hs,
          w64 (n := sg x) (by unfold sg; split <;> omega) (by unfold sg; split <;> omega), show wrap64 ((0 : Int) + 1) = ((1 : Nat) : Int) by rw [w64 (by omega) (by omega)]; rfl]
      by_cases h8 : x ≥ 128
      · refine Ev.step (fun k => ?_) (start (-1) (by unfold sg; split <;> omega) (Or.inl rfl))
        simp only [warderlaw02_IntsShort.j1]
        rw [if_neg (by decide), if_pos (by simp <;> omega), rd_zero, if_pos h8]
      · refine Ev.step (fun k => ?_) (start 0 (by unfold sg; split <;> omega) (Or.inr rfl))
        simp only [warderlaw02_IntsShort.j1]
        rw [if_neg (by decide), if_pos (by simp <;> omega), rd_zero, if_neg h8]
    refine Ev.step (fun k => ?_) hj1
    simp only [warderlaw02_IntsShort.j0]
    rw [if_neg (by decide)]
    cases r with
    | nil => rw [if_neg (by simp)]
    | cons y r =>
      have hlen : (1 : Int) < ((x :: y :: r).length : Int) := by simp <;> omega
      have hnl' : ¬ (x = 0 ∧ y < 128 ∨ x = 255 ∧ 128 ≤ y) := hnl
      rw [if_pos hlen, if_pos (by omega), rd_zero, rd_one]
      by_cases x0 : x = 0
      · rw [if_pos x0, if_pos hlen, if_neg (by omega), if_neg (by omega)]
      · rw [if_neg x0]
        by_cases x2 : x = 255
        · rw [if_pos x2, if_pos hlen, decide_eq_false (by omega)]
        · rw [if_neg x2]
end Go.Proofs.Ytekebbbalackkaa.Pure
