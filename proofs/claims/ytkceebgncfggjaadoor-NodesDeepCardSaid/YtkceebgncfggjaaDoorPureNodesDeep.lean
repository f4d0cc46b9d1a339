/- NodesDeep's plain law: a node may lie in at most thirty-one others. No condition beside those in each theorem's own line. -/
import Derived.Test.YtkceebgncfggjaaDoorPDx6
import Derived.Test.YtkceebgncfggjaaDoorPureDeep0
import Derived.Test.YtkceebgncfggjaaDoorPureDeep1
import Derived.Test.YtkceebgncfggjaaDoorPureDeep2
import Derived.Test.YtkceebgncfggjaaDoorPureDeep3
import Derived.KernelRfl
namespace Go.Proofs.YtkceebgncfggjaaDoorQ
open Go.RowKit Go.Proofs.YtkceebgncfggjaaDoorW.PrintWords Go.Proofs.YtkceebgncfggjaaDoorW.PrintLast Go.Proofs.YtkceebgncfggjaaDoorW.PrintMore Go.Proofs.YtkceebgncfggjaaDoor.PD
set_option maxRecDepth 100000
theorem deep_all : ∀ (t : Nat), t < 32 → ∀ d : Fin 40, warderlaw04_NodesDeep.l0 140 d.1 t true [5, 0] 0 5 [] = some true
  | 0, _ => deep_0
  | 1, _ => deep_1
  | 2, _ => deep_2
  | 3, _ => deep_3
  | 4, _ => deep_4
  | 5, _ => deep_5
  | 6, _ => deep_6
  | 7, _ => deep_7
  | 8, _ => deep_8
  | 9, _ => deep_9
  | 10, _ => deep_10
  | 11, _ => deep_11
  | 12, _ => deep_12
  | 13, _ => deep_13
  | 14, _ => deep_14
  | 15, _ => deep_15
  | 16, _ => deep_16
  | 17, _ => deep_17
  | 18, _ => deep_18
  | 19, _ => deep_19
  | 20, _ => deep_20
  | 21, _ => deep_21
  | 22, _ => deep_22
  | 23, _ => deep_23
  | 24, _ => deep_24
  | 25, _ => deep_25
  | 26, _ => deep_26
  | 27, _ => deep_27
  | 28, _ => deep_28
  | 29, _ => deep_29
  | 30, _ => deep_30
  | 31, _ => deep_31
  | t + 32, h => absurd h (by omega)
theorem deep_congr {x0 x0' x1 x1' : Int} (h0 : Int.tmod x0 40 = Int.tmod x0' 40) (h1 : Go.bits .and .u8 x1 31 = Go.bits .and .u8 x1' 31) : ∀ (k : Nat) (a : Bool) (b : List Int) (c d : Int) (e : List S43),
    warderlaw04_NodesDeep.l0 k x0 x1 a b c d e = warderlaw04_NodesDeep.l0 k x0' x1' a b c d e
  | 0, _, _, _, _, _ => rfl
  | k + 1, a, b, c, d, e => by
    simp only [warderlaw04_NodesDeep.l0]
    rw [h0, h1]
    simp only [deep_congr h0 h1 k]
theorem and31 : ∀ x : Fin 256, Go.bits .and .u8 (x.1 : Int) 31 = Go.bits .and .u8 ((x.1 % 32 : Nat) : Int) 31 := by decide +kernel
theorem head04 : warderlaw04_head.f 140 = some true := by kernel_rfl
theorem nodes_deep {a0 a1 : Int} (h0 : 0 ≤ a0 ∧ a0 ≤ 255) (h1 : 0 ≤ a1 ∧ a1 ≤ 255) : warderlaw04_NodesDeep.f 140 a0 a1 = some true := by
  unfold warderlaw04_NodesDeep.f
  rw [head04, Option.bind_some]
  have e0 : Int.tmod a0 40 = Int.tmod ((a0.toNat % 40 : Nat) : Int) 40 := by
    rw [Int.tmod_eq_emod_of_nonneg h0.1, Int.tmod_eq_emod_of_nonneg (by omega)]; omega
  have e1 : Go.bits .and .u8 a1 31 = Go.bits .and .u8 ((a1.toNat % 32 : Nat) : Int) 31 := by
    have h := and31 ⟨a1.toNat, by omega⟩
    rw [show ((⟨a1.toNat, by omega⟩ : Fin 256).1 : Int) = a1 from Int.toNat_of_nonneg h1.1] at h
    exact h
  rw [deep_congr e0 e1]
  exact deep_all (a1.toNat % 32) (Nat.mod_lt _ (by decide)) ⟨a0.toNat % 40, Nat.mod_lt _ (by decide)⟩
theorem nodes_deep' {a0 a1 : Int} (h0 : 0 ≤ a0 ∧ a0 ≤ 255) (h1 : 0 ≤ a1 ∧ a1 ≤ 255) : ∃ k, warderlaw04_NodesDeep.f k a0 a1 = some true := ⟨140, nodes_deep h0 h1⟩
end Go.Proofs.YtkceebgncfggjaaDoorQ
