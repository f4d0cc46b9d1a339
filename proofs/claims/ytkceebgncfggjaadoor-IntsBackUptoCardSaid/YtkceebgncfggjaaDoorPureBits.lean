/- Bits' bodies: what the printed functions PutBits and Bits (the program's and the reference's) answer, in plain mathematics. No condition beside those in each theorem's own line. -/
import Derived.Test.YtkceebgncfggjaaDoorPAx6
import Derived.Test.YtkceebgncfggjaaDoorPAx8
import Derived.Test.YtkceebgncfggjaaDoorPAx4
import Derived.Test.YtkceebgncfggjaaDoorPAx5
import Derived.Test.YtkceebgncfggjaaDoorPureNums
import Derived.Test.YtkceebgncfggjaaDoorPlainBits
import Derived.Test.YtkceebgncfggjaaDoorPlainRev
set_option linter.unusedVariables false
set_option linter.unusedSimpArgs false
namespace Go.Proofs.YtkceebgncfggjaaDoorQ
open Go.RowKit Go.Proofs.YtkceebgncfggjaaDoorW.PrintWords Go.Proofs.YtkceebgncfggjaaDoorW.PrintLast Go.Proofs.YtkceebgncfggjaaDoorW.PrintMore Go.Proofs.YtkceebgncfggjaaDoorX Go.Proofs.YtkceebgncfggjaaDoor.PA

/-! ### The program's -/
attribute [local irreducible] R
theorem some16 {h : Nat} (hh : h < 16) : h = 0 ∨ h = 1 ∨ h = 2 ∨ h = 3 ∨ h = 4 ∨ h = 5 ∨ h = 6 ∨ h = 7 ∨ h = 8 ∨ h = 9 ∨ h = 10 ∨ h = 11 ∨ h = 12 ∨ h = 13 ∨ h = 14 ∨ h = 15 := by omega
theorem odd_pow {X t : Nat} (h : X % 2 ^ (t + 1) = 2 ^ t) : X = 2 ^ t * (2 * (X / 2 ^ (t + 1)) + 1) := by
  have := Nat.div_add_mod X (2 ^ (t + 1))
  rw [h, Nat.pow_succ] at this
  rw [Nat.pow_succ, Nat.mul_add, Nat.mul_one, ← Nat.mul_assoc]
  exact this.symm
theorem low_low {a h : Nat} (h8 : h < 8) (l : (a : Int) % 2 ^ (8 - h) = 2 ^ (7 - h)) : ∃ q : Nat, 2 ^ 8 * a = 2 ^ (15 - h) * (2 * q + 1) := by
  have l' : a % 2 ^ (8 - h) = 2 ^ (7 - h) := by exact_mod_cast l
  refine ⟨2 ^ 8 * a / 2 ^ (15 - h + 1), odd_pow ?_⟩
  rw [show 15 - h + 1 = 8 + (8 - h) by clear l l'; omega, show 15 - h = 8 + (7 - h) by clear l l'; omega, Nat.pow_add, Nat.mul_mod_mul_left, l', Nat.pow_add]
theorem low_high {a b h : Nat} (h8 : 8 ≤ h) (hh : h < 16) (l : (b : Int) % 2 ^ (8 - (h - 8)) = 2 ^ (7 - (h - 8))) : ∃ q : Nat, 2 ^ 8 * a + b = 2 ^ (15 - h) * (2 * q + 1) := by
  have l' : b % 2 ^ (8 - (h - 8)) = 2 ^ (7 - (h - 8)) := by exact_mod_cast l
  rw [show 8 - (h - 8) = 15 - h + 1 by clear l l'; omega, show 7 - (h - 8) = 15 - h by clear l l'; omega] at l'
  refine ⟨(2 ^ 8 * a + b) / 2 ^ (15 - h + 1), odd_pow ?_⟩
  rw [show (2 : Nat) ^ 8 = 2 ^ (15 - h + 1) * 2 ^ (h - 8) by rw [← Nat.pow_add, show 15 - h + 1 + (h - 8) = 8 by clear l l'; omega], Nat.mul_assoc, Nat.mul_add_mod, l']
theorem hi_range {m h : Nat} (h1 : 2 ^ h ≤ m) (h2 : m < 2 ^ (h + 1)) (h8 : 8 ≤ h) : 2 ^ (h - 8) ≤ m / 256 ∧ m / 256 < 2 ^ (h - 8 + 1) := by
  have e : ∀ k, 2 ^ k * 256 = 2 ^ (k + 8) := fun k => by rw [Nat.pow_add]
  constructor
  · rw [Nat.le_div_iff_mul_le (by decide), e, Nat.sub_add_cancel h8]; exact h1
  · rw [Nat.div_lt_iff_lt_mul (by decide), e, show h - 8 + 1 + 8 = h + 1 by clear h1 h2; omega]; exact h2
theorem low_sum {h : Nat} {x y : Int} (z : y = 0) (h8 : h < 8) (hh : h < 16) (r1 : 0 ≤ x ∧ x < 256) (l : x % 2 ^ (8 - h) = 2 ^ (7 - h)) :
    ∃ q : Nat, 2 ^ (15 - h) * (2 * q + 1) < 65536 ∧ x * 256 + y = ((2 ^ (15 - h) * (2 * q + 1) : Nat) : Int) := by
  obtain ⟨a, rfl⟩ := Int.eq_ofNat_of_zero_le r1.1
  obtain ⟨q, hq⟩ := low_low h8 l
  clear l
  exact ⟨q, by rw [← hq]; clear hq; omega, by rw [← hq, z]; clear hq; omega⟩
theorem high_sum {h : Nat} {x y : Int} (h8 : 8 ≤ h) (hh : h < 16) (r1 : 0 ≤ x ∧ x < 256) (r2 : 0 ≤ y ∧ y < 256) (l : y % 2 ^ (8 - (h - 8)) = 2 ^ (7 - (h - 8))) :
    ∃ q : Nat, 2 ^ (15 - h) * (2 * q + 1) < 65536 ∧ x * 256 + y = ((2 ^ (15 - h) * (2 * q + 1) : Nat) : Int) := by
  obtain ⟨a, rfl⟩ := Int.eq_ofNat_of_zero_le r1.1
  obtain ⟨b, rfl⟩ := Int.eq_ofNat_of_zero_le r2.1
  obtain ⟨q, hq⟩ := low_high (a := a) h8 hh l
  clear l
  exact ⟨q, by rw [← hq]; clear hq; omega, by rw [← hq]; clear hq; omega⟩
theorem small_of {m h : Nat} (h2 : m < 2 ^ (h + 1)) (h8 : h < 8) : m < 256 :=
  Nat.lt_of_lt_of_le h2 (Nat.pow_le_pow_right (n := 2) (by decide) (show h + 1 ≤ 8 by clear h2; omega))
theorem turned_low {m h : Nat} (h1 : 2 ^ h ≤ m) (h2 : m < 2 ^ (h + 1)) (hh : h < 16) :
    ∃ q : Nat, 2 ^ (15 - h) * (2 * q + 1) < 65536 ∧ R ((m % 256 : Nat) : Int) * 256 + R ((m / 256 : Nat) : Int) = ((2 ^ (15 - h) * (2 * q + 1) : Nat) : Int) := by
  rcases Nat.lt_or_ge h 8 with h8 | h8
  · have hm8 : m < 256 := small_of h2 h8
    exact low_sum (by rw [Nat.div_eq_of_lt hm8]; exact R_zero) h8 hh (R_range _)
      (R_low (c := m % 256) (by rw [Nat.mod_eq_of_lt hm8]; exact h1) (by rw [Nat.mod_eq_of_lt hm8]; exact h2) h8)
  · exact high_sum h8 hh (R_range _) (R_range _) (R_low (c := m / 256) (j := h - 8) (hi_range h1 h2 h8).1 (hi_range h1 h2 h8).2 (by clear h1 h2; omega))
theorem lowfacts : ∀ h : Fin 16, Int.tmod ((15 - h.val : Nat) : Int) 8 % 256 = ((7 - h.val % 8 : Nat) : Int) ∧ wrap64 (3 - wrap64 (Int.tdiv ((15 - h.val : Nat) : Int) 8)) = ((2 + h.val / 8 : Nat) : Int) := by decide +kernel
theorem hi_of {a b : Int} (h1 : 0 ≤ a ∧ a < 256) (h2 : 0 ≤ b ∧ b < 256) : (a * 256 + b) / 256 % 256 = a ∧ (a * 256 + b) % 256 = b := by omega
theorem take2 (a b c : Int) : some (List.take 2 [a, b, c]) = some [a, b] := rfl
theorem take3 (a b c : Int) : some (List.take 3 [a, b, c]) = some [a, b, c] := rfl
theorem put_shape {m x t : Int} (h0 : m ≠ 0) (hx : bits_Reverse16.f m = some x) (ht : bits_TrailingZeros16.f x = some t) {n : Nat} (e : wrap64 (3 - (wrap64 (Int.tdiv t 8))) = (n : Int)) (hn : n ≤ 3) :
    ints_PutBits.f m = some (List.take n [Int.tmod t 8 % 256, x / 256 % 256, x % 256]) := by
  unfold ints_PutBits.f
  rw [if_neg h0, hx, Option.bind_some, ht, Option.bind_some, Option.bind_some, e, if_pos (Int.natCast_nonneg _), if_pos (by exact Int.ofNat_le.2 hn), Int.toNat_natCast]
theorem st_low {m h : Nat} (h8 : h < 8) (hm8 : m < 256) : List.take (2 + h / 8) [((7 - h % 8 : Nat) : Int), R ((m % 256 : Nat) : Int), R ((m / 256 : Nat) : Int)] = st h m := by
  unfold st
  rw [if_pos h8, show 2 + h / 8 = 2 by omega, Nat.mod_eq_of_lt hm8, Nat.mod_eq_of_lt h8]
  exact Option.some.inj (take2 _ _ _)
theorem st_high {m h : Nat} (h8 : 8 ≤ h) (hh : h < 16) : List.take (2 + h / 8) [((7 - h % 8 : Nat) : Int), R ((m % 256 : Nat) : Int), R ((m / 256 : Nat) : Int)] = st h m := by
  unfold st
  rw [if_neg (Nat.not_lt.2 h8), show 2 + h / 8 = 3 by omega, show 7 - h % 8 = 15 - h by omega]
  exact Option.some.inj (take3 _ _ _)
theorem prog_putbits {m : Nat} (hm : m < 65536) : ints_PutBits.f (m : Int) = some (pb m) := by
  by_cases h0 : m = 0
  · subst h0
    unfold ints_PutBits.f pb
    rw [if_pos (by omega), if_pos rfl]
  · obtain ⟨h1, h2, hh⟩ := log_of h0 hm
    obtain ⟨q, hq, he⟩ := turned_low h1 h2 hh
    obtain ⟨e2, e3⟩ := lowfacts ⟨m.log2, hh⟩
    have hx := rev16 hm
    rw [he] at hx
    have k := put_shape (Int.ofNat_ne_zero.2 h0) hx (tz16 hq (by clear hq he h1 h2 hx e2 e3; omega)) e3 (by clear hq he h1 h2 hx e2 e3; show 2 + m.log2 / 8 ≤ 3; omega)
    obtain ⟨d1, d2⟩ := hi_of (R_range ((m % 256 : Nat) : Int)) (R_range ((m / 256 : Nat) : Int))
    rw [← he, d1, d2, e2] at k
    unfold pb
    rw [if_neg h0, k]
    rcases Nat.lt_or_ge m.log2 8 with h8 | h8
    · exact congrArg some (st_low h8 (small_of h2 h8))
    · exact congrArg some (st_high h8 hh)
theorem prog_strict_bits {b : List Int} (hb : Bytes b) {m : Nat} (hm : m < 65536) (e : Int) : ints_strict_uint16.f b (m : Int) e = some (if pb m = b then ((m : Int), 0) else (0, e)) := by
  unfold ints_strict_uint16.f bytes_Equal.f
  rw [prog_putbits hm]
  simp only [Option.bind_some]
  rw [strOf_eq (pb_bytes m) hb]
  by_cases h : pb m = b
  · rw [if_pos h, if_pos (by simpa using h)]
  · rw [if_neg h, if_neg (by simpa using h)]
/-- What is told of a body. -/
def bitsOf (b : List Int) : Int × Int := if pb (mk b).toNat = b then (mk b, 0) else (0, 24)
theorem bits_pb {m : Nat} (hm : m < 65536) : bitsOf (pb m) = ((m : Int), 0) := by
  unfold bitsOf
  rw [mk_pb hm, Int.toNat_natCast, if_pos rfl]
theorem getD_zeros (b : List Int) (i : Nat) (hi : i < b.length + 3) : (b ++ [0, 0, 0]).getD i 0 = b.getD i 0 := by
  rw [List.getD_eq_getElem?_getD, List.getD_eq_getElem?_getD]
  by_cases h : i < b.length
  · rw [List.getElem?_append_left h]
  · rw [List.getElem?_append_right (Nat.le_of_not_lt h), List.getElem?_eq_none (Nat.le_of_not_lt h)]
    have : i - b.length = 0 ∨ i - b.length = 1 ∨ i - b.length = 2 := by omega
    rcases this with h | h | h <;> rw [h] <;> rfl
theorem getD_byte {b : List Int} (hb : Bytes b) (i : Nat) : 0 ≤ b.getD i 0 ∧ b.getD i 0 < 256 := by
  by_cases h : i < b.length
  · exact bytes_getD hb h
  · rw [List.getD_eq_getElem?_getD, List.getElem?_eq_none (Nat.le_of_not_lt h)]; exact ⟨Int.le_refl _, by decide⟩
theorem prog_bits {b : List Int} (hb : Bytes b) (hl : b.length ≤ 140737488351232) : ints_Bits.f b = some (bitsOf b) := by
  unfold ints_Bits.f slices_Clone_byte_byte.f
  simp only [Option.bind_some, List.nil_append, List.length_nil]
  rw [if_pos (by omega)]
  simp only [Option.bind_some]
  rw [if_pos (show b.length + ([0, 0, 0] : List Int).length < 140737488355328 by show b.length + 3 < _; omega)]
  have g1 := getD_byte hb 1
  have g2 := getD_byte hb 2
  have k1 : rd (b ++ [0, 0, 0]) 1 = b.getD 1 0 := (rd_nat (b ++ [0, 0, 0]) 1).trans (getD_zeros b 1 (by omega))
  have k2 : rd (b ++ [0, 0, 0]) 2 = b.getD 2 0 := (rd_nat (b ++ [0, 0, 0]) 2).trans (getD_zeros b 2 (by omega))
  rw [if_pos (by rw [List.length_append]; show (1 : Int) < ((b.length + 3 : Nat) : Int); omega), if_pos (by rw [List.length_append]; show (2 : Int) < ((b.length + 3 : Nat) : Int); omega)]
  rw [k1, k2, wraps_u16 (b.getD 1 0) (by omega) (by omega), wraps_u16 (b.getD 2 0) (by omega) (by omega), wraps_u16 (b.getD 1 0 * 256) (by omega) (by omega), wraps_u16 _ (by omega) (by omega)]
  have hmk : (mk b) = R (b.getD 1 0) + R (b.getD 2 0) * 256 := rfl
  have hr := mk_range b
  unfold bitsOf
  generalize mk b = M at *
  generalize b.getD 1 0 = x at *
  generalize b.getD 2 0 = y at *
  obtain ⟨x, rfl⟩ := Int.eq_ofNat_of_zero_le g1.1
  obtain ⟨y, rfl⟩ := Int.eq_ofNat_of_zero_le g2.1
  obtain ⟨M, rfl⟩ := Int.eq_ofNat_of_zero_le hr.1
  rw [show (x : Int) * 256 + (y : Int) = ((x * 256 + y : Nat) : Int) by omega, rev16 (by omega), show (x * 256 + y) % 256 = y by omega, show (x * 256 + y) / 256 = x by omega]
  simp only [Option.bind_some]
  rw [show R (y : Int) * 256 + R (x : Int) = (M : Int) by omega, prog_strict_bits hb (by omega), Int.toNat_natCast]
  rfl
end Go.Proofs.YtkceebgncfggjaaDoorQ
