/- IntsMasks over numbers and lists alone: one bit alone is told by one bit alone, at its place; a mask of more has all of them. -/
import Derived.Test.YtkceebgncfggjaaDoorPAx7
import Derived.Test.YtkceebgncfggjaaDoorPureRefBits2
import Derived.Test.YtkceebgncfggjaaDoorPureHead
set_option linter.unusedVariables false
set_option linter.unusedSimpArgs false
namespace Go.Proofs.YtkceebgncfggjaaDoorQ
open Go.RowKit Go.Proofs.YtkceebgncfggjaaDoorW.PrintWords Go.Proofs.YtkceebgncfggjaaDoorW.PrintLast Go.Proofs.YtkceebgncfggjaaDoorW.PrintMore Go.Proofs.YtkceebgncfggjaaDoorX Go.Proofs.YtkceebgncfggjaaDoor.PA
attribute [local irreducible] R
theorem bit_out {m i : Nat} (hm : m < 65536) (hi : i < 16) (h : (pb m).length ≤ 1 + i / 8) : m / 2 ^ i % 2 = 0 := by
  have := body_bit (pb_bytes m) (mk_pb hm) hi
  rw [List.getD_eq_getElem?_getD, List.getElem?_eq_none h] at this
  have e : Go.bits .and .u8 (shr .u8 ((none : Option Int).getD 0) ((7 - i % 8 : Nat) : Int)) 1 = ((0 / 2 ^ (7 - i % 8) % 2 : Nat) : Int) := bit8 (c := 0) (by decide) (by omega)
  rw [e, Nat.zero_div] at this
  exact (Int.ofNat.inj this).symm
theorem masks_loop {m : Nat} (hm : m < 65536) (x5 : Bool) (d : Nat) : ∀ i : Nat, i + d = 16 → Ev (fun k => warderlaw02_IntsMasks.l0 k (m : Int) x5 (pb m) (i : Int)) x5 := by
  induction d with
  | zero =>
    intro i hi
    refine Ev.step (f := fun _ => some x5) (fun k => ?_) (Ev.now _)
    rw [warderlaw02_IntsMasks.l0, if_neg (by omega)]
  | succ d ih =>
    intro i hi
    have q3 : i < 16 := by omega
    obtain ⟨p1, p2, p3⟩ := place q3
    refine Ev.step (fun k => ?_) (ih (i + 1) (by omega))
    rw [warderlaw02_IntsMasks.l0, if_pos (by omega), p1, p2, bit16 hm q3, w_more (by omega)]
    rcases Nat.lt_or_ge (1 + i / 8) (pb m).length with h | h
    · rw [if_pos (Int.ofNat_lt.2 h), if_pos (Int.natCast_nonneg _), if_pos (Int.natCast_nonneg _), if_pos (Int.natCast_nonneg _), rd_nat, body_bit (pb_bytes m) (mk_pb hm) q3, bne_self_eq_false, if_neg Bool.false_ne_true]
    · rw [if_neg (Int.not_lt.2 (Int.ofNat_le.2 h)), if_pos (Int.natCast_nonneg _), bit_out hm q3 h]
      rfl
theorem pb_one {h : Nat} (hh : h < 16) : pb (2 ^ h) = st h (2 ^ h) := by
  unfold pb
  rw [if_neg (Nat.ne_of_gt (Nat.two_pow_pos h)), Nat.log2_two_pow]
theorem one_facts : ∀ h : Fin 16, wrap64 (((h.val : Nat) : Int)) = ((h.val : Nat) : Int) ∧ shl .u16 1 ((h.val : Nat) : Int) = ((2 ^ h.val : Nat) : Int) ∧ 2 ^ h.val < 65536 := by decide +kernel
theorem st_head {h M : Nat} (hh : h < 16) : rd (st h M) 0 = ((7 - h % 8 : Nat) : Int) := by
  unfold st
  rcases Nat.lt_or_ge h 8 with h8 | h8
  · rw [if_pos h8, rd_zero, Nat.mod_eq_of_lt h8]
  · rw [if_neg (Nat.not_lt.2 h8), rd_zero, show 7 - h % 8 = 15 - h by omega]
theorem st_last {h : Nat} (hh : h < 16) : (st h (2 ^ h)).getD (1 + h / 8) 0 = shl .u8 1 ((7 - h % 8 : Nat) : Int) := by
  unfold st
  rcases Nat.lt_or_ge h 8 with h8 | h8
  · rw [if_pos h8, show 1 + h / 8 = 1 by omega, Nat.mod_eq_of_lt h8]
    exact R_pow h8
  · rw [if_neg (Nat.not_lt.2 h8), show 1 + h / 8 = 2 by omega]
    show R ((2 ^ h / 256 : Nat) : Int) = _
    have e : 2 ^ h = 256 * 2 ^ (h - 8) := by rw [show (256 : Nat) = 2 ^ 8 from rfl, ← Nat.pow_add, show 8 + (h - 8) = h by omega]
    rw [e, Nat.mul_div_cancel_left _ (by decide), R_pow (by omega), show h % 8 = h - 8 by omega]
theorem len_facts : ∀ h : Fin 16, wrap64 (((2 + h.val / 8 : Nat) : Int) - 1) = ((1 + h.val / 8 : Nat) : Int) ∧ wrap64 ((7 - h.val % 8 : Nat) : Int) = ((7 - h.val % 8 : Nat) : Int) ∧ (0 : Int) < ((2 + h.val / 8 : Nat) : Int) ∧ ((1 + h.val / 8 : Nat) : Int) < ((2 + h.val / 8 : Nat) : Int) := by decide +kernel
theorem masks_rest {m : Nat} (hm : m < 65536) : Ev (fun k => warderlaw02_IntsMasks.j0 k (m : Int) true false) true := by
  have last := masks_loop hm true 16 0 rfl
  have hl := pb_len m
  refine Ev.step (f := fun k => warderlaw02_IntsMasks.j1 k (m : Int) true (pb m) false) (fun k => ?_) (Ev.step (fun k => ?_) last)
  · rw [warderlaw02_IntsMasks.j0, if_neg Bool.false_ne_true, prog_putbits hm, Option.bind_some, if_neg (by omega), decide_eq_false (by omega)]
  · rw [warderlaw02_IntsMasks.j1, if_neg Bool.false_ne_true]; rfl
theorem ints_masks {i m : Nat} (hi : i < 256) (hm : m < 65536) : ∃ k, warderlaw02_IntsMasks.f k (i : Int) (m : Int) = some true := by
  have hk : i % 16 < 16 := by omega
  have e0 : wrap64 (Int.tmod (i : Int) 16) = ((i % 16 : Nat) : Int) := by
    rw [Int.tmod_eq_emod_of_nonneg (by omega), w64 (by omega) (by omega)]; omega
  generalize i % 16 = κ at *
  obtain ⟨o1, o2, o3⟩ := one_facts ⟨κ, hk⟩
  simp only at o1 o2 o3
  obtain ⟨p1, p2, p3⟩ := place hk
  obtain ⟨l1, l2, l3, l4⟩ := len_facts ⟨κ, hk⟩
  simp only at l1 l2 l3 l4
  have hl := st_len κ (2 ^ κ) hk
  have eh : wrap64 (rd (st κ (2 ^ κ)) 0) = ((7 - κ % 8 : Nat) : Int) := by rw [st_head hk, l2]
  have el : (rd (st κ (2 ^ κ)) ((1 + κ / 8 : Nat) : Int) != shl .u8 1 ((7 - κ % 8 : Nat) : Int)) = false := by rw [rd_nat, st_last hk, bne_self_eq_false]
  have rest := masks_rest hm
  refine Ev.rounds (Ev.congr (f := fun k => (warderlaw02_head.f k).bind fun t => warderlaw02_IntsMasks.j0 k (m : Int) t false) (fun k => ?_) (Ev.bind head_true rest))
  unfold warderlaw02_IntsMasks.f
  rw [e0, o2, prog_putbits o3, pb_one hk]
  refine congrArg (Option.bind (warderlaw02_head.f k)) (funext fun t => ?_)
  rw [if_pos (Int.natCast_nonneg _), Option.bind_some, hl, p3, if_pos rfl, if_pos l3, eh, p2, if_pos rfl, l1, if_pos (Int.natCast_nonneg _), if_pos l4, if_pos (Int.natCast_nonneg _), el]
end Go.Proofs.YtkceebgncfggjaaDoorQ
