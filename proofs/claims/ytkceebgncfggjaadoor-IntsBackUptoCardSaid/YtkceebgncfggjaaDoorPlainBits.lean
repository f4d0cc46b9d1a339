/- Plain mathematics of bits' bodies: a byte's bits turned round. No condition beside those in each theorem's own line. -/
import Derived.Test.YtkceebgncfggjaaDoorPlainInts
import Derived.Test.YtkceebgncfggjaaDoorHTZ
import Derived.Lib.TrailingZeros
import Derived.Lib.EndianBits
import Derived.KernelRfl
set_option linter.unusedVariables false
set_option linter.unusedSimpArgs false
namespace Go.Proofs.YtkceebgncfggjaaDoorQ
open Go.RowKit Go.Proofs.YtkceebgncfggjaaDoorW.PrintWords Go.Proofs.YtkceebgncfggjaaDoorW.PrintLast Go.Proofs.YtkceebgncfggjaaDoorW.PrintMore Go.Proofs.YtkceebgncfggjaaDoorX Go.Proofs.YtkceebgncfggjaaDoor.PA

/-- The table of math/bits: each byte's bits turned round. -/
abbrev TR : ByteArray := ⟨#[0, 128, 64, 192, 32, 160, 96, 224, 16, 144, 80, 208, 48, 176, 112, 240, 8, 136, 72, 200, 40, 168, 104, 232, 24, 152, 88, 216, 56, 184, 120, 248, 4, 132, 68, 196, 36, 164, 100, 228, 20, 148, 84, 212, 52, 180, 116, 244, 12, 140, 76, 204, 44, 172, 108, 236, 28, 156, 92, 220, 60, 188, 124, 252, 2, 130, 66, 194, 34, 162, 98, 226, 18, 146, 82, 210, 50, 178, 114, 242, 10, 138, 74, 202, 42, 170, 106, 234, 26, 154, 90, 218, 58, 186, 122, 250, 6, 134, 70, 198, 38, 166, 102, 230, 22, 150, 86, 214, 54, 182, 118, 246, 14, 142, 78, 206, 46, 174, 110, 238, 30, 158, 94, 222, 62, 190, 126, 254, 1, 129, 65, 193, 33, 161, 97, 225, 17, 145, 81, 209, 49, 177, 113, 241, 9, 137, 73, 201, 41, 169, 105, 233, 25, 153, 89, 217, 57, 185, 121, 249, 5, 133, 69, 197, 37, 165, 101, 229, 21, 149, 85, 213, 53, 181, 117, 245, 13, 141, 77, 205, 45, 173, 109, 237, 29, 157, 93, 221, 61, 189, 125, 253, 3, 131, 67, 195, 35, 163, 99, 227, 19, 147, 83, 211, 51, 179, 115, 243, 11, 139, 75, 203, 43, 171, 107, 235, 27, 155, 91, 219, 59, 187, 123, 251, 7, 135, 71, 199, 39, 167, 103, 231, 23, 151, 87, 215, 55, 183, 119, 247, 15, 143, 79, 207, 47, 175, 111, 239, 31, 159, 95, 223, 63, 191, 127, 255]⟩
/-- A byte's bits turned round. -/
def R (c : Int) : Int := bt TR c
theorem R_range (c : Int) : 0 ≤ R c ∧ R c < 256 := by have := bt_range TR c; unfold R; omega
theorem R_twice_all : ∀ i : Fin 256, R (R ((i.val : Nat) : Int)) = ((i.val : Nat) : Int) := by decide +kernel
theorem R_bit_all : ∀ i : Fin 256, ∀ j : Fin 8, R ((i.val : Nat) : Int) / 2 ^ (7 - j.val) % 2 = ((i.val : Nat) : Int) / 2 ^ j.val % 2 := by decide +kernel
theorem R_or_all : ∀ i : Fin 256, ∀ j : Fin 8, i.val < 2 ^ j.val → Go.bits .or .u8 (R ((i.val : Nat) : Int)) (shl .u8 1 ((7 - j.val : Nat) : Int)) = R ((i.val + 2 ^ j.val : Nat) : Int) := by decide +kernel
theorem R_low_all : ∀ i : Fin 256, ∀ j : Fin 8, 2 ^ j.val ≤ i.val → i.val < 2 ^ (j.val + 1) → R ((i.val : Nat) : Int) % 2 ^ (8 - j.val) = 2 ^ (7 - j.val) := by decide +kernel
theorem R_pow_all : ∀ j : Fin 8, R ((2 ^ j.val : Nat) : Int) = shl .u8 1 ((7 - j.val : Nat) : Int) := by decide +kernel
theorem R_zero : R 0 = 0 := by decide +kernel
theorem R_twice {c : Nat} (h : c < 256) : R (R (c : Int)) = c := R_twice_all ⟨c, h⟩
theorem R_twice' {c : Int} (h0 : 0 ≤ c) (h : c < 256) : R (R c) = c := by
  obtain ⟨m, rfl⟩ := Int.eq_ofNat_of_zero_le h0
  exact R_twice (by omega)
theorem R_bit {c j : Nat} (h : c < 256) (hj : j < 8) : R (c : Int) / 2 ^ (7 - j) % 2 = (c : Int) / 2 ^ j % 2 := R_bit_all ⟨c, h⟩ ⟨j, hj⟩
theorem R_or {c j : Nat} (h : c < 2 ^ j) (hj : j < 8) : Go.bits .or .u8 (R (c : Int)) (shl .u8 1 ((7 - j : Nat) : Int)) = R ((c + 2 ^ j : Nat) : Int) :=
  R_or_all ⟨c, Nat.lt_of_lt_of_le h (Nat.pow_le_pow_right (n := 2) (by decide) (show j ≤ 8 by omega))⟩ ⟨j, hj⟩ h
theorem R_low {c j : Nat} (h : 2 ^ j ≤ c) (h' : c < 2 ^ (j + 1)) (hj : j < 8) : R (c : Int) % 2 ^ (8 - j) = 2 ^ (7 - j) :=
  R_low_all ⟨c, Nat.lt_of_lt_of_le h' (Nat.pow_le_pow_right (n := 2) (by decide) (show j + 1 ≤ 8 by omega))⟩ ⟨j, hj⟩ h h'
theorem R_pow {j : Nat} (hj : j < 8) : R ((2 ^ j : Nat) : Int) = shl .u8 1 ((7 - j : Nat) : Int) := R_pow_all ⟨j, hj⟩

/-- Where bit i stands. -/
theorem place_all : ∀ i : Fin 16, wrap64 (1 + wrap64 (Int.tdiv ((i.val : Nat) : Int) 8)) = ((1 + i.val / 8 : Nat) : Int) ∧ wrap64 (7 - Int.tmod ((i.val : Nat) : Int) 8) = ((7 - i.val % 8 : Nat) : Int) ∧
    wrap64 (2 + wrap64 (Int.tdiv ((i.val : Nat) : Int) 8)) = ((2 + i.val / 8 : Nat) : Int) := by decide +kernel
theorem place {i : Nat} (h : i < 16) : wrap64 (1 + wrap64 (Int.tdiv (i : Int) 8)) = ((1 + i / 8 : Nat) : Int) ∧ wrap64 (7 - Int.tmod (i : Int) 8) = ((7 - i % 8 : Nat) : Int) ∧
    wrap64 (2 + wrap64 (Int.tdiv (i : Int) 8)) = ((2 + i / 8 : Nat) : Int) := place_all ⟨i, h⟩
/-- A bit of a mask. -/
theorem bit16 {m i : Nat} (hm : m < 65536) (hi : i < 16) : Go.bits .and .u16 (shr .u16 (m : Int) (i : Int)) 1 = ((m / 2 ^ i % 2 : Nat) : Int) := by
  have e : shr .u16 (m : Int) (i : Int) = ((m / 2 ^ i : Nat) : Int) := by
    unfold shr
    rw [show min (i : Int).toNat IntKind.u16.bits = i by rw [Int.toNat_natCast]; exact Nat.min_eq_left (by show i ≤ 16; omega)]
    push_cast; rfl
  have hl : m / 2 ^ i < 65536 := Nat.lt_of_le_of_lt (Nat.div_le_self ..) hm
  rw [e]
  generalize m / 2 ^ i = q at *
  rw [show (1 : Int) = 2 ^ 1 - 1 from rfl, bits_mask .u16 16 (by decide) wraps_u16 1 (by decide) _ (by omega) (by omega)]
  push_cast; rfl
/-- A bit of a byte. -/
theorem bit8 {c j : Nat} (hc : c < 256) (hj : j < 8) : Go.bits .and .u8 (shr .u8 (c : Int) (j : Int)) 1 = ((c / 2 ^ j % 2 : Nat) : Int) := by
  have e : shr .u8 (c : Int) (j : Int) = ((c / 2 ^ j : Nat) : Int) := by
    unfold shr
    rw [show min (j : Int).toNat IntKind.u8.bits = j by rw [Int.toNat_natCast]; exact Nat.min_eq_left (by show j ≤ 8; omega)]
    push_cast; rfl
  have hl : c / 2 ^ j < 256 := Nat.lt_of_le_of_lt (Nat.div_le_self ..) hc
  rw [e]
  generalize c / 2 ^ j = q at *
  rw [show (1 : Int) = 2 ^ 1 - 1 from rfl, bits_mask .u8 8 (by decide) wraps_u8 1 (by decide) _ (by omega) (by omega)]
  push_cast; rfl
/-- The lowest bit. -/
theorem tz_table : ∀ t : Fin 16, tabB.getD (((((((2 ^ t.val : Nat) : Int) % 4294967296) * 125613361) % 4294967296) / 134217728)).toNat 0 = ((t.val : Nat) : Int) := by decide +kernel
theorem tz16 {t q : Nat} (h : 2 ^ t * (2 * q + 1) < 65536) (ht : t < 16) : bits_TrailingZeros16.f ((2 ^ t * (2 * q + 1) : Nat) : Int) = some (t : Int) := by
  have hp : 0 < 2 ^ t * (2 * q + 1) := Nat.mul_pos (Nat.two_pow_pos t) (by omega)
  unfold bits_TrailingZeros16.f tzAt
  rw [if_neg (by omega)]
  have e : IntKind.u16.wrap (-((2 ^ t * (2 * q + 1) : Nat) : Int)) = ((2 ^ 16 - 2 ^ t * (2 * q + 1) : Nat) : Int) := by rw [IntKind.wrap_u16]; omega
  rw [e, (bits_nat .u16 16 (by decide) wraps_u16 _ _ h (by omega)).1, Lib.and_neg 16 t q h]
  rw [tz_table ⟨t, ht⟩]
/-- What is told of a mask whose highest bit is bit h. -/
def st (h M : Nat) : List Int := if h < 8 then [((7 - h : Nat) : Int), R (M : Int)] else [((15 - h : Nat) : Int), R ((M % 256 : Nat) : Int), R ((M / 256 : Nat) : Int)]
/-- A mask's body. -/
def pb (m : Nat) : List Int := if m = 0 then [0] else st m.log2 m
theorem st_bytes (h M : Nat) : Bytes (st h M) := by
  unfold st
  split
  · exact Bytes.cons (by omega) (by omega) (Bytes.cons (R_range _).1 (R_range _).2 Bytes.nil)
  · exact Bytes.cons (by omega) (by omega) (Bytes.cons (R_range _).1 (R_range _).2 (Bytes.cons (R_range _).1 (R_range _).2 Bytes.nil))
theorem pb_bytes (m : Nat) : Bytes (pb m) := by
  unfold pb
  split
  · exact Bytes.cons (by omega) (by omega) Bytes.nil
  · exact st_bytes _ _
theorem st_len (h M : Nat) (hh : h < 16) : (st h M).length = 2 + h / 8 := by
  unfold st
  split
  · show 2 = _; omega
  · show 3 = _; omega
theorem pb_len (m : Nat) : 1 ≤ (pb m).length ∧ (pb m).length ≤ 3 := by
  unfold pb st
  split
  · simp
  · split <;> simp
theorem log_of {m : Nat} (h0 : m ≠ 0) (hm : m < 65536) : 2 ^ m.log2 ≤ m ∧ m < 2 ^ (m.log2 + 1) ∧ m.log2 < 16 :=
  ⟨Nat.log2_self_le h0, Nat.lt_log2_self, (Nat.log2_lt h0).2 hm⟩
/-- The mask that a body tells, if it tells one. -/
def mk (b : List Int) : Int := R (b.getD 1 0) + R (b.getD 2 0) * 256
theorem mk1 (a : Int) : mk [a] = R 0 + R 0 * 256 := by unfold mk; rfl
theorem mk2 (a b : Int) : mk [a, b] = R b + R 0 * 256 := by unfold mk; rfl
theorem mk3 (a b c : Int) : mk [a, b, c] = R b + R c * 256 := by unfold mk; rfl
theorem mk_range (b : List Int) : 0 ≤ mk b ∧ mk b < 65536 := by
  have h1 := R_range (b.getD 1 0); have h2 := R_range (b.getD 2 0); unfold mk; omega
theorem mk_pb {m : Nat} (hm : m < 65536) : mk (pb m) = m := by
  unfold pb
  split
  · subst m; rw [mk1, R_zero]; rfl
  · rename_i h0
    obtain ⟨h1, h2, h3⟩ := log_of h0 hm
    unfold st
    split
    · rename_i h8
      have : 2 ^ (m.log2 + 1) ≤ 2 ^ 8 := Nat.pow_le_pow_right (by decide) (by omega)
      rw [mk2, R_twice (by omega), R_zero]; omega
    · rw [mk3, R_twice (by omega), R_twice (by omega)]; omega
end Go.Proofs.YtkceebgncfggjaaDoorQ
