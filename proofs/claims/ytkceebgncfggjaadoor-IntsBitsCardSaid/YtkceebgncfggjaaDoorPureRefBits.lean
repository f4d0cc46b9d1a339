/- Bits' bodies: what the reference's printed functions PutBits and Bits answer. No condition beside those in each theorem's own line. -/
import Derived.Test.YtkceebgncfggjaaDoorPureBits
set_option linter.unusedVariables false
set_option linter.unusedSimpArgs false
namespace Go.Proofs.YtkceebgncfggjaaDoorQ
open Go.RowKit Go.Proofs.YtkceebgncfggjaaDoorW.PrintWords Go.Proofs.YtkceebgncfggjaaDoorW.PrintLast Go.Proofs.YtkceebgncfggjaaDoorW.PrintMore Go.Proofs.YtkceebgncfggjaaDoorX Go.Proofs.YtkceebgncfggjaaDoor.PA
attribute [local irreducible] R

theorem mod_more (m i : Nat) : m % 2 ^ (i + 1) = m % 2 ^ i + 2 ^ i * (m / 2 ^ i % 2) := Nat.mod_pow_succ
theorem w_less {i : Nat} (h : 1 ≤ i) (hi : i < 16) : wrap64 ((i : Int) - 1) = ((i - 1 : Nat) : Int) := by rw [w64 (by omega) (by omega)]; omega
theorem w_more {i : Nat} (hi : i < 1000) : wrap64 ((i : Int) + 1) = ((i + 1 : Nat) : Int) := by rw [w64 (by omega) (by omega)]; omega
/-- The first bits' body, a bit more: the list. -/
theorem st_more {h M i : Nat} (hi : i ≤ h) (hh : h < 16) (hM : M < 2 ^ i) :
    (st h M).set (1 + i / 8) (Go.bits .or .u8 ((st h M).getD (1 + i / 8) 0) (shl .u8 1 ((7 - i % 8 : Nat) : Int))) = st h (M + 2 ^ i) := by
  unfold st
  rcases Nat.lt_or_ge h 8 with h8 | h8
  · rw [if_pos h8, if_pos h8, show 1 + i / 8 = 1 by omega, show i % 8 = i by omega]
    show [_, Go.bits .or .u8 (R (M : Int)) (shl .u8 1 ((7 - i : Nat) : Int))] = _
    rw [R_or hM (by omega)]
  · rw [if_neg (Nat.not_lt.2 h8), if_neg (Nat.not_lt.2 h8)]
    rcases Nat.lt_or_ge i 8 with i8 | i8
    · have h256 : M + 2 ^ i < 256 := by
        have : 2 ^ i * 2 ≤ 2 ^ 8 := by rw [← Nat.pow_succ]; exact Nat.pow_le_pow_right (by decide) (by omega)
        omega
      have hM8 : M < 256 := by omega
      rw [show 1 + i / 8 = 1 by omega, show i % 8 = i by omega, Nat.mod_eq_of_lt hM8, Nat.mod_eq_of_lt h256, Nat.div_eq_of_lt hM8, Nat.div_eq_of_lt h256]
      show [_, Go.bits .or .u8 (R (M : Int)) (shl .u8 1 ((7 - i : Nat) : Int)), _] = _
      rw [R_or hM i8]
    · have e : 2 ^ i = 256 * 2 ^ (i - 8) := by rw [show (256 : Nat) = 2 ^ 8 from rfl, ← Nat.pow_add, show 8 + (i - 8) = i by omega]
      have hq : M / 256 < 2 ^ (i - 8) := by rw [Nat.div_lt_iff_lt_mul (by decide), Nat.mul_comm, ← e]; exact hM
      rw [e, Nat.add_mul_mod_self_left, Nat.add_mul_div_left _ _ (by decide), show 1 + i / 8 = 2 by omega, show i % 8 = i - 8 by omega]
      show [_, _, Go.bits .or .u8 (R ((M / 256 : Nat) : Int)) (shl .u8 1 ((7 - (i - 8) : Nat) : Int))] = _
      rw [R_or hq (by omega)]
theorem ref_put_fill {m h : Nat} (h2 : m < 2 ^ (h + 1)) (hh : h < 16) (hm : m < 65536) (d : Nat) : ∀ i : Nat, i + d = h + 1 →
    Ev (fun k => warderref02_PutBits.l1 k (m : Int) (h : Int) (st h (m % 2 ^ i)) (i : Int)) (st h m) := by
  induction d with
  | zero =>
    intro i hi
    obtain rfl : i = h + 1 := by omega
    rw [Nat.mod_eq_of_lt h2]
    refine Ev.step (f := fun _ => some (st h m)) (fun k => ?_) (Ev.now _)
    clear h2
    rw [warderref02_PutBits.l1, if_neg (by omega)]
  | succ d ih =>
    intro i hi
    have q2 : i < 1000 := by clear h2; omega
    have q3 : i < 16 := by clear h2; omega
    have q4 : i ≤ h := by clear h2; omega
    have q1 : 1 + i / 8 < 2 + h / 8 := by clear h2; omega
    have hb : m / 2 ^ i % 2 = 0 ∨ m / 2 ^ i % 2 = 1 := Nat.mod_two_eq_zero_or_one _
    have hM : m % 2 ^ i < 2 ^ i := Nat.mod_lt _ (Nat.two_pow_pos i)
    have nx := ih (i + 1) (by clear h2 hM hb; omega)
    rw [mod_more] at nx
    obtain ⟨p1, p2, p3⟩ := place q3
    refine Ev.step (fun k => ?_) nx
    have hl := st_len h (m % 2 ^ i) hh
    have hs := st_more (M := m % 2 ^ i) q4 hh hM
    rw [warderref02_PutBits.l1, if_pos (Int.ofNat_le.2 q4), if_pos (Int.natCast_nonneg _), bit16 hm q3]
    rcases hb with hb | hb
    · rw [hb, if_neg (by decide), w_more q2, Nat.mul_zero, Nat.add_zero (m % 2 ^ i)]
    · rw [hb, if_pos (by rfl), p1, p2, if_pos (Int.natCast_nonneg _), if_pos (by rw [hl]; exact Int.ofNat_lt.2 q1), if_pos (Int.natCast_nonneg _), Int.toNat_natCast, rd_nat, hs, w_more q2, Nat.mul_one]
theorem st_zero {h : Nat} (hh : h < 16) : (List.replicate (2 + h / 8) (0 : Int)).set 0 (((7 - h % 8 : Nat) : Int) % 256) = st h 0 := by
  unfold st
  rcases Nat.lt_or_ge h 8 with h8 | h8
  · rw [if_pos h8, show 2 + h / 8 = 2 by omega, show ((7 - h % 8 : Nat) : Int) % 256 = ((7 - h : Nat) : Int) by omega]
    show [_, (0 : Int)] = [_, R 0]
    rw [R_zero]
  · rw [if_neg (Nat.not_lt.2 h8), show 2 + h / 8 = 3 by omega, show ((7 - h % 8 : Nat) : Int) % 256 = ((15 - h : Nat) : Int) by omega]
    show [_, (0 : Int), (0 : Int)] = [_, R 0, R 0]
    rw [R_zero]
theorem ref_put_find {m h : Nat} (h1 : 2 ^ h ≤ m) (h2 : m < 2 ^ (h + 1)) (hh : h < 16) (hm : m < 65536) (d : Nat) : ∀ i : Nat, h + d = i → i < 16 →
    Ev (fun k => warderref02_PutBits.l0 k (m : Int) (i : Int)) (st h m) := by
  induction d with
  | zero =>
    intro i hi hi16
    obtain rfl : h = i := by omega
    have hq : m / 2 ^ h % 2 = 1 := by
      have : m / 2 ^ h = 1 := by
        apply Nat.div_eq_of_lt_le
        · rw [Nat.one_mul]; exact h1
        · rw [Nat.succ_mul, Nat.one_mul, ← Nat.two_mul, Nat.mul_comm, ← Nat.pow_succ]; exact h2
      rw [this]
    have nx := ref_put_fill h2 hh hm (h + 1) 0 (by omega)
    rw [Nat.pow_zero, Nat.mod_one] at nx
    obtain ⟨p1, p2, p3⟩ := place hh
    refine Ev.step (fun k => ?_) nx
    have hz := st_zero hh
    clear nx h1 h2
    have hlen : (List.replicate (2 + h / 8) (0 : Int)).length = 2 + h / 8 := List.length_replicate
    have p2' : wrap64 (7 - Int.tmod (h : Int) 8) % 256 = ((7 - h % 8 : Nat) : Int) % 256 := by rw [p2]
    rw [warderref02_PutBits.l0, if_pos (Int.natCast_nonneg _), bit16 hm hh, hq, if_neg (by decide), p3, if_pos (Int.natCast_nonneg _), Int.toNat_natCast, if_pos (by omega), Option.bind_some, hlen, if_pos (by omega), p2']
    rw [show (0 : Int).toNat = 0 from rfl, hz]
    rfl
  | succ d ih =>
    intro i hi hi16
    have hq : m / 2 ^ i = 0 := Nat.div_eq_of_lt (Nat.lt_of_lt_of_le h2 (Nat.pow_le_pow_right (by decide) (by omega)))
    refine Ev.step (fun k => ?_) (ih (i - 1) (by omega) (by omega))
    clear h1 h2
    rw [warderref02_PutBits.l0, if_pos (Int.natCast_nonneg _), bit16 hm hi16, hq, if_pos (by rfl), w_less (by omega) hi16]
theorem ref_putbits {m : Nat} (hm : m < 65536) : Ev (fun k => warderref02_PutBits.f k (m : Int)) (pb m) := by
  by_cases h0 : m = 0
  · subst h0
    refine Ev.congr (f := fun _ => some [0]) (fun k => ?_) ?_
    · unfold warderref02_PutBits.f; rw [if_pos (by omega)]
    · unfold pb; rw [if_pos rfl]; exact Ev.now _
  · obtain ⟨h1, h2, hh⟩ := log_of h0 hm
    have := ref_put_find h1 h2 hh hm (15 - m.log2) 15 (by clear h1 h2; omega) (by omega)
    refine Ev.congr (f := fun k => warderref02_PutBits.l0 k (m : Int) ((15 : Nat) : Int)) (fun k => ?_) ?_
    · unfold warderref02_PutBits.f; rw [if_neg (by omega)]; rfl
    · unfold pb; rw [if_neg h0]; exact this
end Go.Proofs.YtkceebgncfggjaaDoorQ
