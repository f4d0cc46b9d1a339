/- math/bits.TrailingZeros16 as a plain Lean function, and the proof that its call does what the function says. Condition: the world's variable math/bits.deBruijn32tab holds the table of the program's text (TabB). -/
import Derived.Test.YtkceebgncfggjaaDoorPAx0
import Derived.Test.YtkceebgncfggjaaDoorXTab
namespace Go.Proofs.YtkceebgncfggjaaDoor.PA
open Go.RowKit Go.Proofs.YtkceebgncfggjaaDoorW.PrintWords Go.Proofs.YtkceebgncfggjaaDoorW.PrintLast Go.Proofs.YtkceebgncfggjaaDoorW.PrintMore Go.Proofs.YtkceebgncfggjaaDoorX
set_option linter.unusedVariables false
set_option linter.unusedSimpArgs false

/-! ### bits_TrailingZeros16: function 31 -/
/-- Where in the table. -/
def tzAt (a0 : Int) : Int := ((((Go.bits .and .u16 a0 (IntKind.u16.wrap (-a0))) % 4294967296) * 125613361) % 4294967296) / 134217728
def bits_TrailingZeros16.f (a0 : Int) : Option (Int) := if a0 = 0 then (some 16) else (some (tabB.getD (tzAt a0).toNat 0))
theorem tabB_small : ∀ j, j < 32 → 0 ≤ tabB.getD j 0 ∧ tabB.getD j 0 ≤ 31 := by decide
set_option maxHeartbeats 8000000 in
set_option maxRecDepth 100000 in
theorem bits_TrailingZeros16.calls (a0 : Int) (r : Int) (w : World) (hT : TabB w) (h : bits_TrailingZeros16.f a0 = some r) :
    Calls Tryd.prog 31 #[.int .u16 a0] w fun e w' => e = .returned (.int .i64 r) ∧ Drawn0 w w' := by
  have HT := Aside0.mk hT
  clear hT
  have H : (if a0 = 0 then (some 16) else (some (tabB.getD (tzAt a0).toNat 0))) = some r := h
  clear h
  by_cases c2 : a0 = 0
  · rw [if_pos c2] at H
    have c2b0 : (a0 == 0) = true := beq_iff_eq.mpr c2
    have c2b1 : (a0 != 0) = false := bne_eq_false_iff_eq.mpr c2
    clear c2
    obtain rfl := Option.some.inj H
    go_enter Tryd.func31, Tryd.ntmps31
    go_wp2
    go_ret
    exact ⟨by first | rfl | (simp; done) | (simp [*]; done), by repeat (first | exact Drawn0.refl _ | apply Drawn0.step)⟩
  · rw [if_neg c2] at H
    have c2b0 : (a0 == 0) = false := beq_eq_false_iff_ne.mpr c2
    have c2b1 : (a0 != 0) = true := bne_iff_ne.mpr c2
    clear c2
    obtain rfl := Option.some.inj H
    have hz : 0 ≤ tzAt a0 ∧ tzAt a0 < 32 := by unfold tzAt; omega
    have hs := tabB_small (tzAt a0).toNat (by omega)
    have hcell := HT.out (tzAt a0).toNat (by omega)
    have hv : IntKind.i64.wrap (tabB.getD (tzAt a0).toNat 0) = tabB.getD (tzAt a0).toNat 0 := by rw [IntKind.wrap_i64]; omega
    have hv2 : wrap64 (tabB.getD (tzAt a0).toNat 0) = tabB.getD (tzAt a0).toNat 0 := by rw [← i64_w]; exact hv
    generalize tabB.getD (tzAt a0).toNat 0 = v at *
    obtain ⟨j, hj⟩ : ∃ j : Int, tzAt a0 = j := ⟨_, rfl⟩
    rw [hj] at hz hcell
    have hj2 : ((((Go.bits .and .u16 a0 (IntKind.u16.wrap (-a0))) % 4294967296) * 125613361) % 4294967296) / 134217728 = j := hj
    clear hj
    have p1 : (0 ≤ j) = True := eq_true hz.1
    have q1 : (j < 32) = True := eq_true hz.2
    clear hz hs
    go_enter Tryd.func31, Tryd.ntmps31
    go_wp2
    go_ret
    exact ⟨by first | rfl | (simp; done) | (simp [*]; done), by repeat (first | exact Drawn0.refl _ | apply Drawn0.step)⟩
end Go.Proofs.YtkceebgncfggjaaDoor.PA
