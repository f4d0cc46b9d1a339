/- Bits' bodies: what the reference's printed function Bits answers. No condition beside those in each theorem's own line. -/
import Derived.Test.YtkceebgncfggjaaDoorPureRefBits
set_option linter.unusedVariables false
set_option linter.unusedSimpArgs false
namespace Go.Proofs.YtkceebgncfggjaaDoorQ
open Go.RowKit Go.Proofs.YtkceebgncfggjaaDoorW.PrintWords Go.Proofs.YtkceebgncfggjaaDoorW.PrintLast Go.Proofs.YtkceebgncfggjaaDoorW.PrintMore Go.Proofs.YtkceebgncfggjaaDoorX Go.Proofs.YtkceebgncfggjaaDoor.PA
attribute [local irreducible] R

theorem bit_of_low {x y i : Nat} (hi : i < 8) : (x + 256 * y) / 2 ^ i % 2 = x / 2 ^ i % 2 := by
  rw [show 256 = 2 ^ i * (2 * 2 ^ (7 - i)) by rw [← Nat.pow_succ', ← Nat.pow_add, show i + (7 - i + 1) = 8 by omega], Nat.mul_assoc, Nat.add_mul_div_left _ _ (Nat.two_pow_pos i), Nat.mul_assoc, Nat.add_mul_mod_self_left]
theorem bit_of_high {x y i : Nat} (hx : x < 256) (hi : 8 ≤ i) : (x + 256 * y) / 2 ^ i % 2 = y / 2 ^ (i - 8) % 2 := by
  rw [show 2 ^ i = 256 * 2 ^ (i - 8) by rw [show (256 : Nat) = 2 ^ 8 from rfl, ← Nat.pow_add, show 8 + (i - 8) = i by omega], ← Nat.div_div_eq_div_mul, Nat.add_mul_div_left _ _ (by decide), Nat.div_eq_of_lt hx, Nat.zero_add]
theorem R_bit' {c r j : Nat} (h : c < 256) (hr : R (c : Int) = (r : Int)) (hj : j < 8) : c / 2 ^ (7 - j) % 2 = r / 2 ^ j % 2 := by
  have := R_bit h (show 7 - j < 8 by omega)
  rw [hr, show 7 - (7 - j) = j by omega] at this
  exact_mod_cast this.symm
theorem or_more {w i : Nat} (hw : w < 2 ^ i) (hi : i < 16) : Go.bits .or .u16 (w : Int) (shl .u16 1 (i : Int)) = ((w + 2 ^ i : Nat) : Int) := by
  have hp : 2 ^ i < 65536 := Nat.lt_of_lt_of_le (Nat.pow_lt_pow_right (by decide) hi) (Nat.le_refl (2 ^ 16))
  have e : shl .u16 1 (i : Int) = ((2 ^ i : Nat) : Int) := by
    unfold shl
    rw [show min (i : Int).toNat IntKind.u16.bits = i by rw [Int.toNat_natCast]; exact Nat.min_eq_left (Nat.le_of_lt hi), Int.one_mul, wraps_u16 _ (by exact_mod_cast Nat.zero_le (2 ^ i)) (by exact_mod_cast hp)]
    exact_mod_cast rfl
  rw [e, (bits_nat .u16 16 (by decide) wraps_u16 w (2 ^ i) (Nat.lt_trans hw hp) hp).2, Nat.or_comm]
  have := Nat.two_pow_add_eq_or_of_lt hw 1
  rw [Nat.mul_one] at this
  rw [← this, Nat.add_comm]
/-- The body's bit. -/
theorem body_bit {b : List Int} (hb : Bytes b) {W i : Nat} (hW : mk b = (W : Int)) (hi : i < 16) :
    Go.bits .and .u8 (shr .u8 (b.getD (1 + i / 8) 0) ((7 - i % 8 : Nat) : Int)) 1 = ((W / 2 ^ i % 2 : Nat) : Int) := by
  have g1 := getD_byte hb 1
  have g2 := getD_byte hb 2
  have q1 := R_range (b.getD 1 0)
  have q2 := R_range (b.getD 2 0)
  have hm : mk b = R (b.getD 1 0) + R (b.getD 2 0) * 256 := rfl
  rw [hm] at hW
  clear hm
  obtain ⟨c1, e1⟩ := Int.eq_ofNat_of_zero_le g1.1
  obtain ⟨c2, e2⟩ := Int.eq_ofNat_of_zero_le g2.1
  obtain ⟨r1, f1⟩ := Int.eq_ofNat_of_zero_le q1.1
  obtain ⟨r2, f2⟩ := Int.eq_ofNat_of_zero_le q2.1
  rw [f1, f2] at hW
  rw [f1] at q1
  rw [e1] at g1 f1
  rw [e2] at g2 f2
  obtain rfl : W = r1 + 256 * r2 := by clear f1 f2 e1 e2; omega
  have hc1 : c1 < 256 := by clear f1 f2 e1 e2; omega
  have hc2 : c2 < 256 := by clear f1 f2 e1 e2; omega
  have hr1 : r1 < 256 := by clear f1 f2 e1 e2; omega
  rcases Nat.lt_or_ge i 8 with i8 | i8
  · rw [show 1 + i / 8 = 1 by clear f1 f2 e1 e2 hW; omega, show i % 8 = i by clear f1 f2 e1 e2 hW; omega, e1, bit8 hc1 (by clear f1 f2 e1 e2 hW; omega), bit_of_low i8, R_bit' hc1 f1 i8]
  · rw [show 1 + i / 8 = 2 by clear f1 f2 e1 e2 hW; omega, show i % 8 = i - 8 by clear f1 f2 e1 e2 hW; omega, e2, bit8 hc2 (by clear f1 f2 e1 e2 hW; omega), bit_of_high hr1 i8, R_bit' hc2 f2 (by clear f1 f2 e1 e2 hW; omega)]
theorem mk_small {b : List Int} (h1 : 1 ≤ b.length) (h3 : b.length ≤ 3) {W : Nat} (hW : mk b = (W : Int)) : W < 2 ^ (8 * (b.length - 1)) := by
  match b, h1, h3 with
  | [a], _, _ =>
    rw [mk1, R_zero] at hW
    rw [show 8 * (([a] : List Int).length - 1) = 0 from rfl]
    omega
  | [a, b], _, _ =>
    rw [mk2, R_zero] at hW
    have := R_range b
    rw [show 8 * (([a, b] : List Int).length - 1) = 8 from rfl]
    omega
  | [a, b, c], _, _ =>
    rw [mk3] at hW
    have := R_range b
    have := R_range c
    rw [show 8 * (([a, b, c] : List Int).length - 1) = 16 from rfl]
    omega
theorem ref_bits_end {b : List Int} (hb : Bytes b) {W : Nat} (hW : mk b = (W : Int)) (hw : W < 65536) :
    Ev (fun k => (warderref02_PutBits.f k (W : Int)).bind fun t => (if (strOfNums t).toList = (strOfNums b).toList then (some ((W : Int), (0 : Int))) else (some (0, 24)))) (bitsOf b) := by
  refine Ev.bind (ref_putbits hw) ?_
  unfold bitsOf
  rw [hW, Int.toNat_natCast]
  by_cases h : pb W = b
  · rw [if_pos h, if_pos (by rw [h])]; exact Ev.now _
  · rw [if_neg h, if_neg (fun e => h (strOf_inj (pb_bytes W) hb e))]; exact Ev.now _
theorem ref_bits_loop {b : List Int} (hb : Bytes b) (h1 : 1 ≤ b.length) (h3 : b.length ≤ 3) {W : Nat} (hW : mk b = (W : Int)) (hw : W < 65536) (d : Nat) : ∀ i : Nat, i + d = 8 * (b.length - 1) →
    Ev (fun k => warderref02_Bits.l0 k b ((W % 2 ^ i : Nat) : Int) (i : Int)) (bitsOf b) := by
  have el : wrap64 (8 * wrap64 ((b.length : Int) - 1)) = ((8 * (b.length - 1) : Nat) : Int) := by
    rw [w64 (n := (b.length : Int) - 1) (by omega) (by omega), w64 (by omega) (by omega)]; omega
  induction d with
  | zero =>
    intro i hi
    rw [show W % 2 ^ i = W from Nat.mod_eq_of_lt (by rw [show i = 8 * (b.length - 1) by omega]; exact mk_small h1 h3 hW)]
    refine Ev.step (fun k => ?_) (ref_bits_end hb hW hw)
    rw [warderref02_Bits.l0, el, if_neg (by omega)]
  | succ d ih =>
    intro i hi
    have q2 : i < 1000 := by omega
    have q3 : i < 16 := by omega
    have q4 : i < 8 * (b.length - 1) := by omega
    have q1 : 1 + i / 8 < b.length := by omega
    have nx := ih (i + 1) (by omega)
    rw [mod_more] at nx
    obtain ⟨p1, p2, p3⟩ := place q3
    have hM : W % 2 ^ i < 2 ^ i := Nat.mod_lt _ (Nat.two_pow_pos i)
    have hB : W / 2 ^ i % 2 = 0 ∨ W / 2 ^ i % 2 = 1 := Nat.mod_two_eq_zero_or_one _
    refine Ev.step (fun k => ?_) nx
    rw [warderref02_Bits.l0, el, if_pos (Int.ofNat_lt.2 q4), p1, p2, if_pos (Int.natCast_nonneg _), if_pos (Int.ofNat_lt.2 q1), if_pos (Int.natCast_nonneg _), rd_nat, body_bit hb hW q3]
    rcases hB with hB | hB
    · rw [hB, if_neg (by decide), w_more q2, Nat.mul_zero, Nat.add_zero (W % 2 ^ i)]
    · rw [hB, if_pos (by rfl), if_pos (Int.natCast_nonneg _), w_more q2, or_more hM q3, Nat.mul_one]
theorem ref_bits {b : List Int} (hb : Bytes b) (hl : b.length ≤ 140737488351232) : Ev (fun k => warderref02_Bits.f k b) (bitsOf b) := by
  have bad : b.length = 0 ∨ 3 < b.length → bitsOf b = (0, 24) := by
    intro h
    unfold bitsOf
    rw [if_neg]
    intro e
    have := pb_len (mk b).toNat
    rw [e] at this
    omega
  have out : ∀ k, warderref02_Bits.j0 (k + 1) b true = some (0, 24) := fun k => by rw [warderref02_Bits.j0, if_pos rfl]
  rcases Nat.lt_or_ge b.length 1 with h | h
  · rw [bad (by omega)]
    refine Ev.congr (f := fun k => warderref02_Bits.j0 k b true) (fun k => ?_) (Ev.step (f := fun _ => some (0, 24)) out (Ev.now _))
    unfold warderref02_Bits.f
    rw [if_pos (by omega)]
  · rcases Nat.lt_or_ge 3 b.length with h3 | h3
    · rw [bad (by omega)]
      refine Ev.congr (f := fun k => warderref02_Bits.j0 k b true) (fun k => ?_) (Ev.step (f := fun _ => some (0, 24)) out (Ev.now _))
      unfold warderref02_Bits.f
      rw [if_neg (by omega), decide_eq_true (by omega)]
    · obtain ⟨W, hW⟩ := Int.eq_ofNat_of_zero_le (mk_range b).1
      have hw : W < 65536 := by have := mk_range b; rw [hW] at this; omega
      have := ref_bits_loop hb h h3 hW hw _ 0 (Nat.zero_add _)
      rw [Nat.pow_zero, Nat.mod_one] at this
      refine Ev.congr (f := fun k => warderref02_Bits.j0 k b false) (fun k => ?_) (Ev.step (fun k => ?_) this)
      · unfold warderref02_Bits.f
        rw [if_neg (by omega), decide_eq_false (by omega)]
      · rw [warderref02_Bits.j0, if_neg (by decide)]; rfl
end Go.Proofs.YtkceebgncfggjaaDoorQ
