/- What the printed function math/bits.Reverse16 answers. No condition beside those in each theorem's own line. -/
import Derived.Test.YtkceebgncfggjaaDoorPAx4
import Derived.Test.YtkceebgncfggjaaDoorPlainBits
set_option linter.unusedVariables false
set_option linter.unusedSimpArgs false
namespace Go.Proofs.YtkceebgncfggjaaDoorQ
open Go.RowKit Go.Proofs.YtkceebgncfggjaaDoorW.PrintWords Go.Proofs.YtkceebgncfggjaaDoorW.PrintLast Go.Proofs.YtkceebgncfggjaaDoorW.PrintMore Go.Proofs.YtkceebgncfggjaaDoorX Go.Proofs.YtkceebgncfggjaaDoor.PA
set_option maxRecDepth 100000 in
theorem rev16 {m : Nat} (hm : m < 65536) : bits_Reverse16.f (m : Int) = some (R ((m % 256 : Nat) : Int) * 256 + R ((m / 256 : Nat) : Int)) := by
  have e : Go.bits .and .u16 (m : Int) 255 = ((m % 256 : Nat) : Int) := by
    rw [show (255 : Int) = 2 ^ 8 - 1 from rfl, bits_mask .u16 16 (by decide) wraps_u16 8 (by decide) _ (by omega) (by omega)]
    omega
  have e2 : (m : Int) / 256 = ((m / 256 : Nat) : Int) := by omega
  unfold bits_Reverse16.f
  rw [e, e2, if_pos (by omega), if_pos (by omega), if_pos (by omega), if_pos (by omega)]
  have r1 := R_range ((m % 256 : Nat) : Int)
  have r2 := R_range ((m / 256 : Nat) : Int)
  show some (Go.bits .or .u16 (IntKind.u16.wrap (R ((m / 256 : Nat) : Int))) (IntKind.u16.wrap (IntKind.u16.wrap (R ((m % 256 : Nat) : Int)) * 256))) = _
  generalize R ((m % 256 : Nat) : Int) = x at *
  generalize R ((m / 256 : Nat) : Int) = y at *
  obtain ⟨a, rfl⟩ := Int.eq_ofNat_of_zero_le r1.1
  obtain ⟨b, rfl⟩ := Int.eq_ofNat_of_zero_le r2.1
  clear e e2
  rw [wraps_u16 _ (by omega) (by omega), wraps_u16 (a : Int) (by omega) (by omega), wraps_u16 _ (by omega) (by omega)]
  rw [show (a : Int) * 256 = ((2 ^ 8 * a : Nat) : Int) by omega, (bits_nat .u16 16 (by decide) wraps_u16 b (2 ^ 8 * a) (by omega) (by omega)).2]
  rw [Nat.or_comm, ← Nat.two_pow_add_eq_or_of_lt (show b < 2 ^ 8 by omega) a]
  exact congrArg some (by omega)
end Go.Proofs.YtkceebgncfggjaaDoorQ
