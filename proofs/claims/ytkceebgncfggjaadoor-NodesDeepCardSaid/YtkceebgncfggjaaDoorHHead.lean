/- A function that jumps forward to a label, as a plain Lean function, and the proof that its call does what that says. No condition beside those in each theorem's own line. -/
import Derived.Test.YtkceebgncfggjaaDoorPDx0
import Derived.Test.YtkceebgncfggjaaDoorXScope
namespace Go.Proofs.YtkceebgncfggjaaDoor.PD
open Go.RowKit Go.Proofs.YtkceebgncfggjaaDoorW.PrintWords Go.Proofs.YtkceebgncfggjaaDoorW.PrintLast Go.Proofs.YtkceebgncfggjaaDoorW.PrintMore Go.Proofs.YtkceebgncfggjaaDoorX
attribute [local go_sem] max2_int min2_int max_two min_two max_three min_three max_four min_four
set_option linter.unusedVariables false
set_option linter.unusedSimpArgs false

/-! ### tlv_Head: function 51 -/
def tlv_Head.f (l0 : List Int) (a1 : Int) : Option (Int × Int × Int × Int) := if a1 < 0 then (some (0, 0, 0, 1)) else (if a1 > (l0.length : Int) then (some (0, 0, 0, 1)) else (if 0 ≤ a1 then (if a1 ≤ (l0.length : Int) then (if ((l0.drop (a1 : Int).toNat).length : Int) > 0 then (if 0 < ((l0.drop (a1 : Int).toNat).length : Int) then (if (Go.bits .and .u8 (rd (l0.drop (a1 : Int).toNat) 0) 31) = 31 then (some (0, 0, 0, 11)) else (if ((l0.drop (a1 : Int).toNat).length : Int) < 2 then (some (0, 0, 0, 12)) else (if 1 < ((l0.drop (a1 : Int).toNat).length : Int) then (if 2 ≤ ((l0.drop (a1 : Int).toNat).length : Int) then (if (wrap64 (rd (l0.drop (a1 : Int).toNat) 1)) = 129 then (if (((l0.drop (a1 : Int).toNat).drop 2).length : Int) < 1 then (some (0, 0, 0, 12)) else (if 0 < (((l0.drop (a1 : Int).toNat).drop 2).length : Int) then (if 1 ≤ (((l0.drop (a1 : Int).toNat).drop 2).length : Int) then (if (wrap64 (rd ((l0.drop (a1 : Int).toNat).drop 2) 0)) < 128 then (some (0, 0, 0, 13)) else (if (wrap64 (rd ((l0.drop (a1 : Int).toNat).drop 2) 0)) ≤ ((((l0.drop (a1 : Int).toNat).drop 2).drop 1).length : Int) then (if a1 < (l0.length : Int) then (some (rd l0 a1, wrap64 ((l0.length : Int) - ((((l0.drop (a1 : Int).toNat).drop 2).drop 1).length : Int)), wrap64 ((wrap64 ((l0.length : Int) - ((((l0.drop (a1 : Int).toNat).drop 2).drop 1).length : Int))) + (wrap64 (rd ((l0.drop (a1 : Int).toNat).drop 2) 0))), 0)) else (none)) else (some (0, 0, 0, 12)))) else (none)) else (none))) else (if (wrap64 (rd (l0.drop (a1 : Int).toNat) 1)) = 130 then (if (((l0.drop (a1 : Int).toNat).drop 2).length : Int) < 2 then (some (0, 0, 0, 12)) else (if 0 < (((l0.drop (a1 : Int).toNat).drop 2).length : Int) then (if 1 < (((l0.drop (a1 : Int).toNat).drop 2).length : Int) then (if 2 ≤ (((l0.drop (a1 : Int).toNat).drop 2).length : Int) then (if (wrap64 ((wrap64 ((wrap64 (rd ((l0.drop (a1 : Int).toNat).drop 2) 0)) * 256)) + (wrap64 (rd ((l0.drop (a1 : Int).toNat).drop 2) 1)))) < 256 then (some (0, 0, 0, 13)) else (if (wrap64 ((wrap64 ((wrap64 (rd ((l0.drop (a1 : Int).toNat).drop 2) 0)) * 256)) + (wrap64 (rd ((l0.drop (a1 : Int).toNat).drop 2) 1)))) ≤ ((((l0.drop (a1 : Int).toNat).drop 2).drop 2).length : Int) then (if a1 < (l0.length : Int) then (some (rd l0 a1, wrap64 ((l0.length : Int) - ((((l0.drop (a1 : Int).toNat).drop 2).drop 2).length : Int)), wrap64 ((wrap64 ((l0.length : Int) - ((((l0.drop (a1 : Int).toNat).drop 2).drop 2).length : Int))) + (wrap64 ((wrap64 ((wrap64 (rd ((l0.drop (a1 : Int).toNat).drop 2) 0)) * 256)) + (wrap64 (rd ((l0.drop (a1 : Int).toNat).drop 2) 1))))), 0)) else (none)) else (some (0, 0, 0, 12)))) else (none)) else (none)) else (none))) else (if (wrap64 (rd (l0.drop (a1 : Int).toNat) 1)) > 127 then (some (0, 0, 0, 13)) else (if (wrap64 (rd (l0.drop (a1 : Int).toNat) 1)) < 0 then (some (0, 0, 0, 13)) else (if (wrap64 (rd (l0.drop (a1 : Int).toNat) 1)) ≤ (((l0.drop (a1 : Int).toNat).drop 2).length : Int) then (if a1 < (l0.length : Int) then (some (rd l0 a1, wrap64 ((l0.length : Int) - (((l0.drop (a1 : Int).toNat).drop 2).length : Int)), wrap64 ((wrap64 ((l0.length : Int) - (((l0.drop (a1 : Int).toNat).drop 2).length : Int))) + (wrap64 (rd (l0.drop (a1 : Int).toNat) 1))), 0)) else (none)) else (some (0, 0, 0, 12))))))) else (none)) else (none)))) else (none)) else (if ((l0.drop (a1 : Int).toNat).length : Int) < 2 then (some (0, 0, 0, 12)) else (if 1 < ((l0.drop (a1 : Int).toNat).length : Int) then (if 2 ≤ ((l0.drop (a1 : Int).toNat).length : Int) then (if (wrap64 (rd (l0.drop (a1 : Int).toNat) 1)) = 129 then (if (((l0.drop (a1 : Int).toNat).drop 2).length : Int) < 1 then (some (0, 0, 0, 12)) else (if 0 < (((l0.drop (a1 : Int).toNat).drop 2).length : Int) then (if 1 ≤ (((l0.drop (a1 : Int).toNat).drop 2).length : Int) then (if (wrap64 (rd ((l0.drop (a1 : Int).toNat).drop 2) 0)) < 128 then (some (0, 0, 0, 13)) else (if (wrap64 (rd ((l0.drop (a1 : Int).toNat).drop 2) 0)) ≤ ((((l0.drop (a1 : Int).toNat).drop 2).drop 1).length : Int) then (if a1 < (l0.length : Int) then (some (rd l0 a1, wrap64 ((l0.length : Int) - ((((l0.drop (a1 : Int).toNat).drop 2).drop 1).length : Int)), wrap64 ((wrap64 ((l0.length : Int) - ((((l0.drop (a1 : Int).toNat).drop 2).drop 1).length : Int))) + (wrap64 (rd ((l0.drop (a1 : Int).toNat).drop 2) 0))), 0)) else (none)) else (some (0, 0, 0, 12)))) else (none)) else (none))) else (if (wrap64 (rd (l0.drop (a1 : Int).toNat) 1)) = 130 then (if (((l0.drop (a1 : Int).toNat).drop 2).length : Int) < 2 then (some (0, 0, 0, 12)) else (if 0 < (((l0.drop (a1 : Int).toNat).drop 2).length : Int) then (if 1 < (((l0.drop (a1 : Int).toNat).drop 2).length : Int) then (if 2 ≤ (((l0.drop (a1 : Int).toNat).drop 2).length : Int) then (if (wrap64 ((wrap64 ((wrap64 (rd ((l0.drop (a1 : Int).toNat).drop 2) 0)) * 256)) + (wrap64 (rd ((l0.drop (a1 : Int).toNat).drop 2) 1)))) < 256 then (some (0, 0, 0, 13)) else (if (wrap64 ((wrap64 ((wrap64 (rd ((l0.drop (a1 : Int).toNat).drop 2) 0)) * 256)) + (wrap64 (rd ((l0.drop (a1 : Int).toNat).drop 2) 1)))) ≤ ((((l0.drop (a1 : Int).toNat).drop 2).drop 2).length : Int) then (if a1 < (l0.length : Int) then (some (rd l0 a1, wrap64 ((l0.length : Int) - ((((l0.drop (a1 : Int).toNat).drop 2).drop 2).length : Int)), wrap64 ((wrap64 ((l0.length : Int) - ((((l0.drop (a1 : Int).toNat).drop 2).drop 2).length : Int))) + (wrap64 ((wrap64 ((wrap64 (rd ((l0.drop (a1 : Int).toNat).drop 2) 0)) * 256)) + (wrap64 (rd ((l0.drop (a1 : Int).toNat).drop 2) 1))))), 0)) else (none)) else (some (0, 0, 0, 12)))) else (none)) else (none)) else (none))) else (if (wrap64 (rd (l0.drop (a1 : Int).toNat) 1)) > 127 then (some (0, 0, 0, 13)) else (if (wrap64 (rd (l0.drop (a1 : Int).toNat) 1)) < 0 then (some (0, 0, 0, 13)) else (if (wrap64 (rd (l0.drop (a1 : Int).toNat) 1)) ≤ (((l0.drop (a1 : Int).toNat).drop 2).length : Int) then (if a1 < (l0.length : Int) then (some (rd l0 a1, wrap64 ((l0.length : Int) - (((l0.drop (a1 : Int).toNat).drop 2).length : Int)), wrap64 ((wrap64 ((l0.length : Int) - (((l0.drop (a1 : Int).toNat).drop 2).length : Int))) + (wrap64 (rd (l0.drop (a1 : Int).toNat) 1))), 0)) else (none)) else (some (0, 0, 0, 12))))))) else (none)) else (none)))) else (none)) else (none)))
set_option maxHeartbeats 8000000 in
set_option maxRecDepth 100000 in
theorem tlv_Head.calls (A0 : Option Addr) (c0 : Nat) (l0 : List Int) (a1 : Int) (r1 : Int) (r2 : Int) (r3 : Int) (r4 : Int) (w : World) (hr0 : Kd.C (Kd.int .u8) w A0 l0.length l0) (hc0 : l0.length ≤ c0) (h : tlv_Head.f l0 a1 = some (r1, r2, r3, r4)) :
  Calls Tryd.prog 51 #[.slice A0 l0.length c0, .int .i64 a1] w fun e w' => e = .returned (.tuple #[.int .u8 r1, .int .i64 r2, .int .i64 r3, .int .i64 r4]) ∧ Drawn0 w w' := by
 have HR0 := Aside0.mk hr0
 have HC0 := Aside0.mk hc0
 clear hr0 hc0
 have H : (if a1 < 0 then (some (0, 0, 0, 1)) else (if a1 > (l0.length : Int) then (some (0, 0, 0, 1)) else (if 0 ≤ a1 then (if a1 ≤ (l0.length : Int) then (if ((l0.drop (a1 : Int).toNat).length : Int) > 0 then (if 0 < ((l0.drop (a1 : Int).toNat).length : Int) then (if (Go.bits .and .u8 (rd (l0.drop (a1 : Int).toNat) 0) 31) = 31 then (some (0, 0, 0, 11)) else (if ((l0.drop (a1 : Int).toNat).length : Int) < 2 then (some (0, 0, 0, 12)) else (if 1 < ((l0.drop (a1 : Int).toNat).length : Int) then (if 2 ≤ ((l0.drop (a1 : Int).toNat).length : Int) then (if (wrap64 (rd (l0.drop (a1 : Int).toNat) 1)) = 129 then (if (((l0.drop (a1 : Int).toNat).drop 2).length : Int) < 1 then (some (0, 0, 0, 12)) else (if 0 < (((l0.drop (a1 : Int).toNat).drop 2).length : Int) then (if 1 ≤ (((l0.drop (a1 : Int).toNat).drop 2).length : Int) then (if (wrap64 (rd ((l0.drop (a1 : Int).toNat).drop 2) 0)) < 128 then (some (0, 0, 0, 13)) else (if (wrap64 (rd ((l0.drop (a1 : Int).toNat).drop 2) 0)) ≤ ((((l0.drop (a1 : Int).toNat).drop 2).drop 1).length : Int) then (if a1 < (l0.length : Int) then (some (rd l0 a1, wrap64 ((l0.length : Int) - ((((l0.drop (a1 : Int).toNat).drop 2).drop 1).length : Int)), wrap64 ((wrap64 ((l0.length : Int) - ((((l0.drop (a1 : Int).toNat).drop 2).drop 1).length : Int))) + (wrap64 (rd ((l0.drop (a1 : Int).toNat).drop 2) 0))), 0)) else (none)) else (some (0, 0, 0, 12)))) else (none)) else (none))) else (if (wrap64 (rd (l0.drop (a1 : Int).toNat) 1)) = 130 then (if (((l0.drop (a1 : Int).toNat).drop 2).length : Int) < 2 then (some (0, 0, 0, 12)) else (if 0 < (((l0.drop (a1 : Int).toNat).drop 2).length : Int) then (if 1 < (((l0.drop (a1 : Int).toNat).drop 2).length : Int) then (if 2 ≤ (((l0.drop (a1 : Int).toNat).drop 2).length : Int) then (if (wrap64 ((wrap64 ((wrap64 (rd ((l0.drop (a1 : Int).toNat).drop 2) 0)) * 256)) + (wrap64 (rd ((l0.drop (a1 : Int).toNat).drop 2) 1)))) < 256 then (some (0, 0, 0, 13)) else (if (wrap64 ((wrap64 ((wrap64 (rd ((l0.drop (a1 : Int).toNat).drop 2) 0)) * 256)) + (wrap64 (rd ((l0.drop (a1 : Int).toNat).drop 2) 1)))) ≤ ((((l0.drop (a1 : Int).toNat).drop 2).drop 2).length : Int) then (if a1 < (l0.length : Int) then (some (rd l0 a1, wrap64 ((l0.length : Int) - ((((l0.drop (a1 : Int).toNat).drop 2).drop 2).length : Int)), wrap64 ((wrap64 ((l0.length : Int) - ((((l0.drop (a1 : Int).toNat).drop 2).drop 2).length : Int))) + (wrap64 ((wrap64 ((wrap64 (rd ((l0.drop (a1 : Int).toNat).drop 2) 0)) * 256)) + (wrap64 (rd ((l0.drop (a1 : Int).toNat).drop 2) 1))))), 0)) else (none)) else (some (0, 0, 0, 12)))) else (none)) else (none)) else (none))) else (if (wrap64 (rd (l0.drop (a1 : Int).toNat) 1)) > 127 then (some (0, 0, 0, 13)) else (if (wrap64 (rd (l0.drop (a1 : Int).toNat) 1)) < 0 then (some (0, 0, 0, 13)) else (if (wrap64 (rd (l0.drop (a1 : Int).toNat) 1)) ≤ (((l0.drop (a1 : Int).toNat).drop 2).length : Int) then (if a1 < (l0.length : Int) then (some (rd l0 a1, wrap64 ((l0.length : Int) - (((l0.drop (a1 : Int).toNat).drop 2).length : Int)), wrap64 ((wrap64 ((l0.length : Int) - (((l0.drop (a1 : Int).toNat).drop 2).length : Int))) + (wrap64 (rd (l0.drop (a1 : Int).toNat) 1))), 0)) else (none)) else (some (0, 0, 0, 12))))))) else (none)) else (none)))) else (none)) else (if ((l0.drop (a1 : Int).toNat).length : Int) < 2 then (some (0, 0, 0, 12)) else (if 1 < ((l0.drop (a1 : Int).toNat).length : Int) then (if 2 ≤ ((l0.drop (a1 : Int).toNat).length : Int) then (if (wrap64 (rd (l0.drop (a1 : Int).toNat) 1)) = 129 then (if (((l0.drop (a1 : Int).toNat).drop 2).length : Int) < 1 then (some (0, 0, 0, 12)) else (if 0 < (((l0.drop (a1 : Int).toNat).drop 2).length : Int) then (if 1 ≤ (((l0.drop (a1 : Int).toNat).drop 2).length : Int) then (if (wrap64 (rd ((l0.drop (a1 : Int).toNat).drop 2) 0)) < 128 then (some (0, 0, 0, 13)) else (if (wrap64 (rd ((l0.drop (a1 : Int).toNat).drop 2) 0)) ≤ ((((l0.drop (a1 : Int).toNat).drop 2).drop 1).length : Int) then (if a1 < (l0.length : Int) then (some (rd l0 a1, wrap64 ((l0.length : Int) - ((((l0.drop (a1 : Int).toNat).drop 2).drop 1).length : Int)), wrap64 ((wrap64 ((l0.length : Int) - ((((l0.drop (a1 : Int).toNat).drop 2).drop 1).length : Int))) + (wrap64 (rd ((l0.drop (a1 : Int).toNat).drop 2) 0))), 0)) else (none)) else (some (0, 0, 0, 12)))) else (none)) else (none))) else (if (wrap64 (rd (l0.drop (a1 : Int).toNat) 1)) = 130 then (if (((l0.drop (a1 : Int).toNat).drop 2).length : Int) < 2 then (some (0, 0, 0, 12)) else (if 0 < (((l0.drop (a1 : Int).toNat).drop 2).length : Int) then (if 1 < (((l0.drop (a1 : Int).toNat).drop 2).length : Int) then (if 2 ≤ (((l0.drop (a1 : Int).toNat).drop 2).length : Int) then (if (wrap64 ((wrap64 ((wrap64 (rd ((l0.drop (a1 : Int).toNat).drop 2) 0)) * 256)) + (wrap64 (rd ((l0.drop (a1 : Int).toNat).drop 2) 1)))) < 256 then (some (0, 0, 0, 13)) else (if (wrap64 ((wrap64 ((wrap64 (rd ((l0.drop (a1 : Int).toNat).drop 2) 0)) * 256)) + (wrap64 (rd ((l0.drop (a1 : Int).toNat).drop 2) 1)))) ≤ ((((l0.drop (a1 : Int).toNat).drop 2).drop 2).length : Int) then (if a1 < (l0.length : Int) then (some (rd l0 a1, wrap64 ((l0.length : Int) - ((((l0.drop (a1 : Int).toNat).drop 2).drop 2).length : Int)), wrap64 ((wrap64 ((l0.length : Int) - ((((l0.drop (a1 : Int).toNat).drop 2).drop 2).length : Int))) + (wrap64 ((wrap64 ((wrap64 (rd ((l0.drop (a1 : Int).toNat).drop 2) 0)) * 256)) + (wrap64 (rd ((l0.drop (a1 : Int).toNat).drop 2) 1))))), 0)) else (none)) else (some (0, 0, 0, 12)))) else (none)) else (none)) else (none))) else (if (wrap64 (rd (l0.drop (a1 : Int).toNat) 1)) > 127 then (some (0, 0, 0, 13)) else (if (wrap64 (rd (l0.drop (a1 : Int).toNat) 1)) < 0 then (some (0, 0, 0, 13)) else (if (wrap64 (rd (l0.drop (a1 : Int).toNat) 1)) ≤ (((l0.drop (a1 : Int).toNat).drop 2).length : Int) then (if a1 < (l0.length : Int) then (some (rd l0 a1, wrap64 ((l0.length : Int) - (((l0.drop (a1 : Int).toNat).drop 2).length : Int)), wrap64 ((wrap64 ((l0.length : Int) - (((l0.drop (a1 : Int).toNat).drop 2).length : Int))) + (wrap64 (rd (l0.drop (a1 : Int).toNat) 1))), 0)) else (none)) else (some (0, 0, 0, 12))))))) else (none)) else (none)))) else (none)) else (none)))) = some (r1, r2, r3, r4) := h
 clear h
 by_cases c3 : a1 < 0
 ·rw [if_pos c3] at H
  have c3b0 : decide (a1 < 0) = true := decide_eq_true c3
  clear c3
  simp only [Option.some.injEq, Prod.mk.injEq] at H
  obtain ⟨rfl, rfl, rfl, rfl⟩ := H
  go_enter Tryd.func51, Tryd.ntmps51
  go_wp2
  refine wp_scope_fwd 0 (by rfl) ?_
  go_wp2
  repeat (go_quiet (fail); try go_wp2)
  (try (apply wp_goto; refine And.intro (rfl : (0 : Nat) = 0) ?_; go_wp2))
  (try (go_step3; go_wp2))
  (try simp only [Exit.then, Exit.inBlock, Exit.jump])
  refine bodyPost_ret (results_list (rs := [.tmp 4, .tmp 5, .tmp 6, .tmp 7]) rfl (by simp) (.tmp (.tmp (.tmp (.tmp .nil))))) rfl ?_
  exact ⟨by first | rfl | (simp; done) | (simp [*]; done) | (simp [Nat.sub_sub]; done) | (simp only [List.length_drop, Nat.sub_sub]; done), by repeat (first | exact Drawn0.refl _ | apply Drawn0.step)⟩
 ·rw [if_neg c3] at H
  have c3b0 : decide (a1 < 0) = false := decide_eq_false c3
  clear c3
  by_cases c4 : a1 > (l0.length : Int)
  ·rw [if_pos c4] at H
   have c4b0 : decide ((l0.length : Int) < a1) = true := decide_eq_true c4
   clear c4
   simp only [Option.some.injEq, Prod.mk.injEq] at H
   obtain ⟨rfl, rfl, rfl, rfl⟩ := H
   go_enter Tryd.func51, Tryd.ntmps51
   go_wp2
   refine wp_scope_fwd 0 (by rfl) ?_
   go_wp2
   repeat (go_quiet (fail); try go_wp2)
   (try (apply wp_goto; refine And.intro (rfl : (0 : Nat) = 0) ?_; go_wp2))
   (try (go_step3; go_wp2))
   (try simp only [Exit.then, Exit.inBlock, Exit.jump])
   refine bodyPost_ret (results_list (rs := [.tmp 4, .tmp 5, .tmp 6, .tmp 7]) rfl (by simp) (.tmp (.tmp (.tmp (.tmp .nil))))) rfl ?_
   exact ⟨by first | rfl | (simp; done) | (simp [*]; done) | (simp [Nat.sub_sub]; done) | (simp only [List.length_drop, Nat.sub_sub]; done), by repeat (first | exact Drawn0.refl _ | apply Drawn0.step)⟩
  ·rw [if_neg c4] at H
   have c4b0 : decide ((l0.length : Int) < a1) = false := decide_eq_false c4
   clear c4
   by_cases c5 : 0 ≤ a1
   ·rw [if_pos c5] at H
    have c5b0 := eq_true c5
    have c5b1 : decide (0 ≤ a1) = true := decide_eq_true c5
    clear c5
    by_cases c6 : a1 ≤ (l0.length : Int)
    ·rw [if_pos c6] at H
     have c6b0 := eq_true c6
     have c6b1 : decide (a1 ≤ (l0.length : Int)) = true := decide_eq_true c6
     clear c6
     by_cases c7 : ((l0.drop (a1 : Int).toNat).length : Int) > 0
     ·rw [if_pos c7] at H
      have c7b0 : decide (0 < ((l0.drop (a1 : Int).toNat).length : Int)) = true := decide_eq_true c7
      have c7b0d := c7b0
      (try simp only [List.length_drop, List.drop_drop] at c7b0d)
      have c7b1 : decide (0 < (l0.drop (a1 : Int).toNat).length) = true := decide_eq_true (by omega)
      have c7b1d := c7b1
      (try simp only [List.length_drop, List.drop_drop] at c7b1d)
      clear c7
      by_cases c8 : 0 < ((l0.drop (a1 : Int).toNat).length : Int)
      ·rw [if_pos c8] at H
       have c8b0 : decide (0 < ((l0.drop (a1 : Int).toNat).length : Int)) = true := decide_eq_true c8
       have c8b0d := c8b0
       (try simp only [List.length_drop, List.drop_drop] at c8b0d)
       have c8b1 : decide (0 < (l0.drop (a1 : Int).toNat).length) = true := decide_eq_true (by omega)
       have c8b1d := c8b1
       (try simp only [List.length_drop, List.drop_drop] at c8b1d)
       clear c8
       by_cases c9 : (Go.bits .and .u8 (rd (l0.drop (a1 : Int).toNat) 0) 31) = 31
       ·rw [if_pos c9] at H
        have c9b0 : ((Go.bits .and .u8 (rd (l0.drop (a1 : Int).toNat) 0) 31) == 31) = true := beq_iff_eq.mpr c9
        have c9b1 : ((Go.bits .and .u8 (rd (l0.drop (a1 : Int).toNat) 0) 31) != 31) = false := bne_eq_false_iff_eq.mpr c9
        clear c9
        simp only [Option.some.injEq, Prod.mk.injEq] at H
        obtain ⟨rfl, rfl, rfl, rfl⟩ := H
        obtain ⟨i010, hi010, _, hsz10, _⟩ := info_parts info5
        obtain ⟨A10, hcut10, hA10, hC10⟩ := print_drop_of (P := Tryd.prog) (Value.int .u8) 0 24 5 .i64 Tryd.underlying24 hi010 hsz10 A0 c0 l0 a1 (of_decide_eq_true (by first | (with_reducible assumption) | assumption)) (of_decide_eq_true (by first | (with_reducible assumption) | assumption)) HC0.out
        have HR101 := Aside0.mk (Kd.C_of_reads (h1 := fun _ => rfl) (hA10 _ (Kd.reads_of_C HR0.out)))
        have HC101 := Aside0.mk hC10
        clear hA10 hC10 hi010 hsz10
        have p102 : 0 ≤ (0 : Int) := (by omega)
        have q102 : 0 < ((l0.drop (a1 : Int).toNat).length : Int) := of_decide_eq_true (by first | (with_reducible assumption) | assumption)
        obtain ⟨ad102, e102, hx102_0⟩ := Kd.at_int HR101.out 0 p102 q102
        cases e102
        have qi102 : (0 < (l0.drop (a1 : Int).toNat).length) = True := eq_true (by omega)
        have qi102d := qi102
        (try simp only [List.length_drop, List.drop_drop] at qi102d)
        (try rw [show ((0 : Int)).toNat = 0 from rfl] at hx102_0)
        (try rw [Addr.add_zero'] at hx102_0)
        replace p102 := eq_true p102
        replace q102 := eq_true q102
        have q102d := q102
        (try simp only [List.length_drop, List.drop_drop] at q102d)
        go_enter Tryd.func51, Tryd.ntmps51
        go_wp2
        refine wp_scope_fwd 0 (by rfl) ?_
        go_wp2
        repeat (go_quiet (fail); try go_wp2)
        (try (apply wp_goto; refine And.intro (rfl : (0 : Nat) = 0) ?_; go_wp2))
        (try (go_step3; go_wp2))
        (try simp only [Exit.then, Exit.inBlock, Exit.jump])
        refine bodyPost_ret (results_list (rs := [.tmp 4, .tmp 5, .tmp 6, .tmp 7]) rfl (by simp) (.tmp (.tmp (.tmp (.tmp .nil))))) rfl ?_
        exact ⟨by first | rfl | (simp; done) | (simp [*]; done) | (simp [Nat.sub_sub]; done) | (simp only [List.length_drop, Nat.sub_sub]; done), by repeat (first | exact Drawn0.refl _ | apply Drawn0.step)⟩
       ·rw [if_neg c9] at H
        have c9b0 : ((Go.bits .and .u8 (rd (l0.drop (a1 : Int).toNat) 0) 31) == 31) = false := beq_eq_false_iff_ne.mpr c9
        have c9b1 : ((Go.bits .and .u8 (rd (l0.drop (a1 : Int).toNat) 0) 31) != 31) = true := bne_iff_ne.mpr c9
        by_cases c11 : ((l0.drop (a1 : Int).toNat).length : Int) < 2
        ·rw [if_pos c11] at H
         have c11b0 : decide (((l0.drop (a1 : Int).toNat).length : Int) < 2) = true := decide_eq_true c11
         have c11b0d := c11b0
         (try simp only [List.length_drop, List.drop_drop] at c11b0d)
         have c11b1 : decide ((l0.drop (a1 : Int).toNat).length < 2) = true := decide_eq_true (by omega)
         have c11b1d := c11b1
         (try simp only [List.length_drop, List.drop_drop] at c11b1d)
         clear c11
         simp only [Option.some.injEq, Prod.mk.injEq] at H
         obtain ⟨rfl, rfl, rfl, rfl⟩ := H
         obtain ⟨i012, hi012, _, hsz12, _⟩ := info_parts info5
         obtain ⟨A12, hcut12, hA12, hC12⟩ := print_drop_of (P := Tryd.prog) (Value.int .u8) 0 24 5 .i64 Tryd.underlying24 hi012 hsz12 A0 c0 l0 a1 (of_decide_eq_true (by first | (with_reducible assumption) | assumption)) (of_decide_eq_true (by first | (with_reducible assumption) | assumption)) HC0.out
         have HR101 := Aside0.mk (Kd.C_of_reads (h1 := fun _ => rfl) (hA12 _ (Kd.reads_of_C HR0.out)))
         have HC101 := Aside0.mk hC12
         clear hA12 hC12 hi012 hsz12
         have p102 : 0 ≤ (0 : Int) := (by omega)
         have q102 : 0 < ((l0.drop (a1 : Int).toNat).length : Int) := of_decide_eq_true (by first | (with_reducible assumption) | assumption)
         obtain ⟨ad102, e102, hx102_0⟩ := Kd.at_int HR101.out 0 p102 q102
         cases e102
         have qi102 : (0 < (l0.drop (a1 : Int).toNat).length) = True := eq_true (by omega)
         have qi102d := qi102
         (try simp only [List.length_drop, List.drop_drop] at qi102d)
         (try rw [show ((0 : Int)).toNat = 0 from rfl] at hx102_0)
         (try rw [Addr.add_zero'] at hx102_0)
         replace p102 := eq_true p102
         replace q102 := eq_true q102
         have q102d := q102
         (try simp only [List.length_drop, List.drop_drop] at q102d)
         go_enter Tryd.func51, Tryd.ntmps51
         go_wp2
         refine wp_scope_fwd 0 (by rfl) ?_
         go_wp2
         repeat (go_quiet (fail); try go_wp2)
         (try (apply wp_goto; refine And.intro (rfl : (0 : Nat) = 0) ?_; go_wp2))
         (try (go_step3; go_wp2))
         (try simp only [Exit.then, Exit.inBlock, Exit.jump])
         refine bodyPost_ret (results_list (rs := [.tmp 4, .tmp 5, .tmp 6, .tmp 7]) rfl (by simp) (.tmp (.tmp (.tmp (.tmp .nil))))) rfl ?_
         exact ⟨by first | rfl | (simp; done) | (simp [*]; done) | (simp [Nat.sub_sub]; done) | (simp only [List.length_drop, Nat.sub_sub]; done), by repeat (first | exact Drawn0.refl _ | apply Drawn0.step)⟩
        ·rw [if_neg c11] at H
         have c11b0 : decide (((l0.drop (a1 : Int).toNat).length : Int) < 2) = false := decide_eq_false c11
         have c11b0d := c11b0
         (try simp only [List.length_drop, List.drop_drop] at c11b0d)
         have c11b1 : decide ((l0.drop (a1 : Int).toNat).length < 2) = false := decide_eq_false (by omega)
         have c11b1d := c11b1
         (try simp only [List.length_drop, List.drop_drop] at c11b1d)
         clear c11
         by_cases c13 : 1 < ((l0.drop (a1 : Int).toNat).length : Int)
         ·rw [if_pos c13] at H
          have c13b0 : decide (1 < ((l0.drop (a1 : Int).toNat).length : Int)) = true := decide_eq_true c13
          have c13b0d := c13b0
          (try simp only [List.length_drop, List.drop_drop] at c13b0d)
          have c13b1 : decide (1 < (l0.drop (a1 : Int).toNat).length) = true := decide_eq_true (by omega)
          have c13b1d := c13b1
          (try simp only [List.length_drop, List.drop_drop] at c13b1d)
          clear c13
          by_cases c14 : 2 ≤ ((l0.drop (a1 : Int).toNat).length : Int)
          ·rw [if_pos c14] at H
           have c14b0 := eq_true c14
           have c14b0d := c14b0
           (try simp only [List.length_drop, List.drop_drop] at c14b0d)
           have c14b1 : decide (2 ≤ ((l0.drop (a1 : Int).toNat).length : Int)) = true := decide_eq_true c14
           have c14b1d := c14b1
           (try simp only [List.length_drop, List.drop_drop] at c14b1d)
           clear c14
           by_cases c15 : (wrap64 (rd (l0.drop (a1 : Int).toNat) 1)) = 129
           ·rw [if_pos c15] at H
            have c15b0 : ((wrap64 (rd (l0.drop (a1 : Int).toNat) 1)) == 129) = true := beq_iff_eq.mpr c15
            have c15b1 : ((wrap64 (rd (l0.drop (a1 : Int).toNat) 1)) != 129) = false := bne_eq_false_iff_eq.mpr c15
            clear c15
            by_cases c16 : (((l0.drop (a1 : Int).toNat).drop 2).length : Int) < 1
            ·rw [if_pos c16] at H
             have c16b0 : decide ((((l0.drop (a1 : Int).toNat).drop 2).length : Int) < 1) = true := decide_eq_true c16
             have c16b0d := c16b0
             (try simp only [List.length_drop, List.drop_drop] at c16b0d)
             have c16b1 : decide (((l0.drop (a1 : Int).toNat).drop 2).length < 1) = true := decide_eq_true (by omega)
             have c16b1d := c16b1
             (try simp only [List.length_drop, List.drop_drop] at c16b1d)
             clear c16
             simp only [Option.some.injEq, Prod.mk.injEq] at H
             obtain ⟨rfl, rfl, rfl, rfl⟩ := H
             obtain ⟨i017, hi017, _, hsz17, _⟩ := info_parts info5
             obtain ⟨A17, hcut17, hA17, hC17⟩ := print_drop_of (P := Tryd.prog) (Value.int .u8) 0 24 5 .i64 Tryd.underlying24 hi017 hsz17 A0 c0 l0 a1 (of_decide_eq_true (by first | (with_reducible assumption) | assumption)) (of_decide_eq_true (by first | (with_reducible assumption) | assumption)) HC0.out
             have HR101 := Aside0.mk (Kd.C_of_reads (h1 := fun _ => rfl) (hA17 _ (Kd.reads_of_C HR0.out)))
             have HC101 := Aside0.mk hC17
             clear hA17 hC17 hi017 hsz17
             have p102 : 0 ≤ (0 : Int) := (by omega)
             have q102 : 0 < ((l0.drop (a1 : Int).toNat).length : Int) := of_decide_eq_true (by first | (with_reducible assumption) | assumption)
             obtain ⟨ad102, e102, hx102_0⟩ := Kd.at_int HR101.out 0 p102 q102
             cases e102
             have qi102 : (0 < (l0.drop (a1 : Int).toNat).length) = True := eq_true (by omega)
             have qi102d := qi102
             (try simp only [List.length_drop, List.drop_drop] at qi102d)
             (try rw [show ((0 : Int)).toNat = 0 from rfl] at hx102_0)
             (try rw [Addr.add_zero'] at hx102_0)
             replace p102 := eq_true p102
             replace q102 := eq_true q102
             have q102d := q102
             (try simp only [List.length_drop, List.drop_drop] at q102d)
             have p103 : 0 ≤ (1 : Int) := (by omega)
             have q103 : 1 < ((l0.drop (a1 : Int).toNat).length : Int) := of_decide_eq_true (by first | (with_reducible assumption) | assumption)
             obtain ⟨ad103, e103, hx103_0⟩ := Kd.at_int HR101.out 1 p103 q103
             obtain rfl : ad102 = ad103 := (by injection e103)
             (try simp only [show (1 : Int).toNat = 1 from rfl, Nat.reduceMul, Nat.reduceEqDiff, Go.Addr.add, ↓reduceIte] at hx103_0)
             have qi103 : (1 < (l0.drop (a1 : Int).toNat).length) = True := eq_true (by omega)
             have qi103d := qi103
             (try simp only [List.length_drop, List.drop_drop] at qi103d)
             (try rw [show ((1 : Int)).toNat = 1 from rfl] at hx103_0)
             replace p103 := eq_true p103
             replace q103 := eq_true q103
             have q103d := q103
             (try simp only [List.length_drop, List.drop_drop] at q103d)
             obtain ⟨i018, hi018, _, hsz18, _⟩ := info_parts info5
             obtain ⟨A18, hcut18, hA18, hC18⟩ := print_drop_of (P := Tryd.prog) (Value.int .u8) 0 24 5 .i64 Tryd.underlying24 hi018 hsz18 (some ad102) (c0 - a1.toNat) (l0.drop (a1 : Int).toNat) 2 (by omega) (of_decide_eq_true (by first | (with_reducible assumption) | assumption)) HC101.out
             have hcut18d := hcut18
             (try simp only [List.length_drop, List.drop_drop] at hcut18d)
             have HR104 := Aside0.mk (Kd.C_of_reads (h1 := fun _ => rfl) (hA18 _ (Kd.reads_of_C HR101.out)))
             have HC104 := Aside0.mk hC18
             clear hA18 hC18 hi018 hsz18
             go_enter Tryd.func51, Tryd.ntmps51
             go_wp2
             refine wp_scope_fwd 0 (by rfl) ?_
             go_wp2
             repeat (go_quiet (fail); try go_wp2)
             (try (apply wp_goto; refine And.intro (rfl : (0 : Nat) = 0) ?_; go_wp2))
             (try (go_step3; go_wp2))
             (try simp only [Exit.then, Exit.inBlock, Exit.jump])
             refine bodyPost_ret (results_list (rs := [.tmp 4, .tmp 5, .tmp 6, .tmp 7]) rfl (by simp) (.tmp (.tmp (.tmp (.tmp .nil))))) rfl ?_
             exact ⟨by first | rfl | (simp; done) | (simp [*]; done) | (simp [Nat.sub_sub]; done) | (simp only [List.length_drop, Nat.sub_sub]; done), by repeat (first | exact Drawn0.refl _ | apply Drawn0.step)⟩
            ·rw [if_neg c16] at H
             have c16b0 : decide ((((l0.drop (a1 : Int).toNat).drop 2).length : Int) < 1) = false := decide_eq_false c16
             have c16b0d := c16b0
             (try simp only [List.length_drop, List.drop_drop] at c16b0d)
             have c16b1 : decide (((l0.drop (a1 : Int).toNat).drop 2).length < 1) = false := decide_eq_false (by omega)
             have c16b1d := c16b1
             (try simp only [List.length_drop, List.drop_drop] at c16b1d)
             clear c16
             by_cases c19 : 0 < (((l0.drop (a1 : Int).toNat).drop 2).length : Int)
             ·rw [if_pos c19] at H
              have c19b0 : decide (0 < (((l0.drop (a1 : Int).toNat).drop 2).length : Int)) = true := decide_eq_true c19
              have c19b0d := c19b0
              (try simp only [List.length_drop, List.drop_drop] at c19b0d)
              have c19b1 : decide (0 < ((l0.drop (a1 : Int).toNat).drop 2).length) = true := decide_eq_true (by omega)
              have c19b1d := c19b1
              (try simp only [List.length_drop, List.drop_drop] at c19b1d)
              clear c19
              by_cases c20 : 1 ≤ (((l0.drop (a1 : Int).toNat).drop 2).length : Int)
              ·rw [if_pos c20] at H
               have c20b0 := eq_true c20
               have c20b0d := c20b0
               (try simp only [List.length_drop, List.drop_drop] at c20b0d)
               have c20b1 : decide (1 ≤ (((l0.drop (a1 : Int).toNat).drop 2).length : Int)) = true := decide_eq_true c20
               have c20b1d := c20b1
               (try simp only [List.length_drop, List.drop_drop] at c20b1d)
               clear c20
               by_cases c21 : (wrap64 (rd ((l0.drop (a1 : Int).toNat).drop 2) 0)) < 128
               ·rw [if_pos c21] at H
                have c21b0 : decide ((wrap64 (rd ((l0.drop (a1 : Int).toNat).drop 2) 0)) < 128) = true := decide_eq_true c21
                have c21b0d := c21b0
                (try simp only [List.length_drop, List.drop_drop] at c21b0d)
                clear c21
                simp only [Option.some.injEq, Prod.mk.injEq] at H
                obtain ⟨rfl, rfl, rfl, rfl⟩ := H
                obtain ⟨i022, hi022, _, hsz22, _⟩ := info_parts info5
                obtain ⟨A22, hcut22, hA22, hC22⟩ := print_drop_of (P := Tryd.prog) (Value.int .u8) 0 24 5 .i64 Tryd.underlying24 hi022 hsz22 A0 c0 l0 a1 (of_decide_eq_true (by first | (with_reducible assumption) | assumption)) (of_decide_eq_true (by first | (with_reducible assumption) | assumption)) HC0.out
                have HR101 := Aside0.mk (Kd.C_of_reads (h1 := fun _ => rfl) (hA22 _ (Kd.reads_of_C HR0.out)))
                have HC101 := Aside0.mk hC22
                clear hA22 hC22 hi022 hsz22
                have p102 : 0 ≤ (0 : Int) := (by omega)
                have q102 : 0 < ((l0.drop (a1 : Int).toNat).length : Int) := of_decide_eq_true (by first | (with_reducible assumption) | assumption)
                obtain ⟨ad102, e102, hx102_0⟩ := Kd.at_int HR101.out 0 p102 q102
                cases e102
                have qi102 : (0 < (l0.drop (a1 : Int).toNat).length) = True := eq_true (by omega)
                have qi102d := qi102
                (try simp only [List.length_drop, List.drop_drop] at qi102d)
                (try rw [show ((0 : Int)).toNat = 0 from rfl] at hx102_0)
                (try rw [Addr.add_zero'] at hx102_0)
                replace p102 := eq_true p102
                replace q102 := eq_true q102
                have q102d := q102
                (try simp only [List.length_drop, List.drop_drop] at q102d)
                have p103 : 0 ≤ (1 : Int) := (by omega)
                have q103 : 1 < ((l0.drop (a1 : Int).toNat).length : Int) := of_decide_eq_true (by first | (with_reducible assumption) | assumption)
                obtain ⟨ad103, e103, hx103_0⟩ := Kd.at_int HR101.out 1 p103 q103
                obtain rfl : ad102 = ad103 := (by injection e103)
                (try simp only [show (1 : Int).toNat = 1 from rfl, Nat.reduceMul, Nat.reduceEqDiff, Go.Addr.add, ↓reduceIte] at hx103_0)
                have qi103 : (1 < (l0.drop (a1 : Int).toNat).length) = True := eq_true (by omega)
                have qi103d := qi103
                (try simp only [List.length_drop, List.drop_drop] at qi103d)
                (try rw [show ((1 : Int)).toNat = 1 from rfl] at hx103_0)
                replace p103 := eq_true p103
                replace q103 := eq_true q103
                have q103d := q103
                (try simp only [List.length_drop, List.drop_drop] at q103d)
                obtain ⟨i023, hi023, _, hsz23, _⟩ := info_parts info5
                obtain ⟨A23, hcut23, hA23, hC23⟩ := print_drop_of (P := Tryd.prog) (Value.int .u8) 0 24 5 .i64 Tryd.underlying24 hi023 hsz23 (some ad102) (c0 - a1.toNat) (l0.drop (a1 : Int).toNat) 2 (by omega) (of_decide_eq_true (by first | (with_reducible assumption) | assumption)) HC101.out
                have hcut23d := hcut23
                (try simp only [List.length_drop, List.drop_drop] at hcut23d)
                have HR104 := Aside0.mk (Kd.C_of_reads (h1 := fun _ => rfl) (hA23 _ (Kd.reads_of_C HR101.out)))
                have HC104 := Aside0.mk hC23
                clear hA23 hC23 hi023 hsz23
                have p105 : 0 ≤ (0 : Int) := (by omega)
                have q105 : 0 < (((l0.drop (a1 : Int).toNat).drop 2).length : Int) := of_decide_eq_true (by first | (with_reducible assumption) | assumption)
                obtain ⟨ad105, e105, hx105_0⟩ := Kd.at_int HR104.out 0 p105 q105
                cases e105
                have qi105 : (0 < ((l0.drop (a1 : Int).toNat).drop 2).length) = True := eq_true (by omega)
                have qi105d := qi105
                (try simp only [List.length_drop, List.drop_drop] at qi105d)
                (try rw [show ((0 : Int)).toNat = 0 from rfl] at hx105_0)
                (try rw [Addr.add_zero'] at hx105_0)
                replace p105 := eq_true p105
                replace q105 := eq_true q105
                have q105d := q105
                (try simp only [List.length_drop, List.drop_drop] at q105d)
                obtain ⟨i024, hi024, _, hsz24, _⟩ := info_parts info5
                obtain ⟨A24, hcut24, hA24, hC24⟩ := print_drop_of (P := Tryd.prog) (Value.int .u8) 0 24 5 .i64 Tryd.underlying24 hi024 hsz24 (some ad105) ((c0 - a1.toNat) - 2) ((l0.drop (a1 : Int).toNat).drop 2) 1 (by omega) (of_decide_eq_true (by first | (with_reducible assumption) | assumption)) HC104.out
                have hcut24d := hcut24
                (try simp only [List.length_drop, List.drop_drop] at hcut24d)
                have HR106 := Aside0.mk (Kd.C_of_reads (h1 := fun _ => rfl) (hA24 _ (Kd.reads_of_C HR104.out)))
                have HC106 := Aside0.mk hC24
                clear hA24 hC24 hi024 hsz24
                go_enter Tryd.func51, Tryd.ntmps51
                go_wp2
                refine wp_scope_fwd 0 (by rfl) ?_
                go_wp2
                repeat (go_quiet (fail); try go_wp2)
                (try (apply wp_goto; refine And.intro (rfl : (0 : Nat) = 0) ?_; go_wp2))
                (try (go_step3; go_wp2))
                (try simp only [Exit.then, Exit.inBlock, Exit.jump])
                refine bodyPost_ret (results_list (rs := [.tmp 4, .tmp 5, .tmp 6, .tmp 7]) rfl (by simp) (.tmp (.tmp (.tmp (.tmp .nil))))) rfl ?_
                exact ⟨by first | rfl | (simp; done) | (simp [*]; done) | (simp [Nat.sub_sub]; done) | (simp only [List.length_drop, Nat.sub_sub]; done), by repeat (first | exact Drawn0.refl _ | apply Drawn0.step)⟩
               ·rw [if_neg c21] at H
                have c21b0 : decide ((wrap64 (rd ((l0.drop (a1 : Int).toNat).drop 2) 0)) < 128) = false := decide_eq_false c21
                have c21b0d := c21b0
                (try simp only [List.length_drop, List.drop_drop] at c21b0d)
                clear c21
                by_cases c25 : (wrap64 (rd ((l0.drop (a1 : Int).toNat).drop 2) 0)) ≤ ((((l0.drop (a1 : Int).toNat).drop 2).drop 1).length : Int)
                ·rw [if_pos c25] at H
                 have c25b0 : decide ((wrap64 (rd ((l0.drop (a1 : Int).toNat).drop 2) 0)) ≤ ((((l0.drop (a1 : Int).toNat).drop 2).drop 1).length : Int)) = true := decide_eq_true c25
                 have c25b0d := c25b0
                 (try simp only [List.length_drop, List.drop_drop] at c25b0d)
                 clear c25
                 by_cases c26 : a1 < (l0.length : Int)
                 ·rw [if_pos c26] at H
                  have c26b0 : decide (a1 < (l0.length : Int)) = true := decide_eq_true c26
                  clear c26
                  simp only [Option.some.injEq, Prod.mk.injEq] at H
                  obtain ⟨rfl, rfl, rfl, rfl⟩ := H
                  obtain ⟨i027, hi027, _, hsz27, _⟩ := info_parts info5
                  obtain ⟨A27, hcut27, hA27, hC27⟩ := print_drop_of (P := Tryd.prog) (Value.int .u8) 0 24 5 .i64 Tryd.underlying24 hi027 hsz27 A0 c0 l0 a1 (of_decide_eq_true (by first | (with_reducible assumption) | assumption)) (of_decide_eq_true (by first | (with_reducible assumption) | assumption)) HC0.out
                  have HR101 := Aside0.mk (Kd.C_of_reads (h1 := fun _ => rfl) (hA27 _ (Kd.reads_of_C HR0.out)))
                  have HC101 := Aside0.mk hC27
                  clear hA27 hC27 hi027 hsz27
                  have p102 : 0 ≤ (0 : Int) := (by omega)
                  have q102 : 0 < ((l0.drop (a1 : Int).toNat).length : Int) := of_decide_eq_true (by first | (with_reducible assumption) | assumption)
                  obtain ⟨ad102, e102, hx102_0⟩ := Kd.at_int HR101.out 0 p102 q102
                  cases e102
                  have qi102 : (0 < (l0.drop (a1 : Int).toNat).length) = True := eq_true (by omega)
                  have qi102d := qi102
                  (try simp only [List.length_drop, List.drop_drop] at qi102d)
                  (try rw [show ((0 : Int)).toNat = 0 from rfl] at hx102_0)
                  (try rw [Addr.add_zero'] at hx102_0)
                  replace p102 := eq_true p102
                  replace q102 := eq_true q102
                  have q102d := q102
                  (try simp only [List.length_drop, List.drop_drop] at q102d)
                  have p103 : 0 ≤ (1 : Int) := (by omega)
                  have q103 : 1 < ((l0.drop (a1 : Int).toNat).length : Int) := of_decide_eq_true (by first | (with_reducible assumption) | assumption)
                  obtain ⟨ad103, e103, hx103_0⟩ := Kd.at_int HR101.out 1 p103 q103
                  obtain rfl : ad102 = ad103 := (by injection e103)
                  (try simp only [show (1 : Int).toNat = 1 from rfl, Nat.reduceMul, Nat.reduceEqDiff, Go.Addr.add, ↓reduceIte] at hx103_0)
                  have qi103 : (1 < (l0.drop (a1 : Int).toNat).length) = True := eq_true (by omega)
                  have qi103d := qi103
                  (try simp only [List.length_drop, List.drop_drop] at qi103d)
                  (try rw [show ((1 : Int)).toNat = 1 from rfl] at hx103_0)
                  replace p103 := eq_true p103
                  replace q103 := eq_true q103
                  have q103d := q103
                  (try simp only [List.length_drop, List.drop_drop] at q103d)
                  obtain ⟨i028, hi028, _, hsz28, _⟩ := info_parts info5
                  obtain ⟨A28, hcut28, hA28, hC28⟩ := print_drop_of (P := Tryd.prog) (Value.int .u8) 0 24 5 .i64 Tryd.underlying24 hi028 hsz28 (some ad102) (c0 - a1.toNat) (l0.drop (a1 : Int).toNat) 2 (by omega) (of_decide_eq_true (by first | (with_reducible assumption) | assumption)) HC101.out
                  have hcut28d := hcut28
                  (try simp only [List.length_drop, List.drop_drop] at hcut28d)
                  have HR104 := Aside0.mk (Kd.C_of_reads (h1 := fun _ => rfl) (hA28 _ (Kd.reads_of_C HR101.out)))
                  have HC104 := Aside0.mk hC28
                  clear hA28 hC28 hi028 hsz28
                  have p105 : 0 ≤ (0 : Int) := (by omega)
                  have q105 : 0 < (((l0.drop (a1 : Int).toNat).drop 2).length : Int) := of_decide_eq_true (by first | (with_reducible assumption) | assumption)
                  obtain ⟨ad105, e105, hx105_0⟩ := Kd.at_int HR104.out 0 p105 q105
                  cases e105
                  have qi105 : (0 < ((l0.drop (a1 : Int).toNat).drop 2).length) = True := eq_true (by omega)
                  have qi105d := qi105
                  (try simp only [List.length_drop, List.drop_drop] at qi105d)
                  (try rw [show ((0 : Int)).toNat = 0 from rfl] at hx105_0)
                  (try rw [Addr.add_zero'] at hx105_0)
                  replace p105 := eq_true p105
                  replace q105 := eq_true q105
                  have q105d := q105
                  (try simp only [List.length_drop, List.drop_drop] at q105d)
                  obtain ⟨i029, hi029, _, hsz29, _⟩ := info_parts info5
                  obtain ⟨A29, hcut29, hA29, hC29⟩ := print_drop_of (P := Tryd.prog) (Value.int .u8) 0 24 5 .i64 Tryd.underlying24 hi029 hsz29 (some ad105) ((c0 - a1.toNat) - 2) ((l0.drop (a1 : Int).toNat).drop 2) 1 (by omega) (of_decide_eq_true (by first | (with_reducible assumption) | assumption)) HC104.out
                  have hcut29d := hcut29
                  (try simp only [List.length_drop, List.drop_drop] at hcut29d)
                  have HR106 := Aside0.mk (Kd.C_of_reads (h1 := fun _ => rfl) (hA29 _ (Kd.reads_of_C HR104.out)))
                  have HC106 := Aside0.mk hC29
                  clear hA29 hC29 hi029 hsz29
                  have p107 : 0 ≤ (a1 : Int) := of_decide_eq_true (by first | (with_reducible assumption) | assumption)
                  have q107 : a1 < (l0.length : Int) := of_decide_eq_true (by first | (with_reducible assumption) | assumption)
                  obtain ⟨ad107, e107, hx107_0⟩ := Kd.at_int HR0.out a1 p107 q107
                  cases e107
                  replace p107 := eq_true p107
                  replace q107 := eq_true q107
                  go_enter Tryd.func51, Tryd.ntmps51
                  go_wp2
                  refine wp_scope_fwd 0 (by rfl) ?_
                  go_wp2
                  repeat (go_quiet (fail); try go_wp2)
                  (try (apply wp_goto; refine And.intro (rfl : (0 : Nat) = 0) ?_; go_wp2))
                  (try (go_step3; go_wp2))
                  (try simp only [Exit.then, Exit.inBlock, Exit.jump])
                  refine bodyPost_ret (results_list (rs := [.tmp 4, .tmp 5, .tmp 6, .tmp 7]) rfl (by simp) (.tmp (.tmp (.tmp (.tmp .nil))))) rfl ?_
                  exact ⟨by first | rfl | (simp; done) | (simp [*]; done) | (simp [Nat.sub_sub]; done) | (simp only [List.length_drop, Nat.sub_sub]; done), by repeat (first | exact Drawn0.refl _ | apply Drawn0.step)⟩
                 ·rw [if_neg c26] at H
                  exact absurd H (by simp)
                ·rw [if_neg c25] at H
                 have c25b0 : decide ((wrap64 (rd ((l0.drop (a1 : Int).toNat).drop 2) 0)) ≤ ((((l0.drop (a1 : Int).toNat).drop 2).drop 1).length : Int)) = false := decide_eq_false c25
                 have c25b0d := c25b0
                 (try simp only [List.length_drop, List.drop_drop] at c25b0d)
                 clear c25
                 simp only [Option.some.injEq, Prod.mk.injEq] at H
                 obtain ⟨rfl, rfl, rfl, rfl⟩ := H
                 obtain ⟨i030, hi030, _, hsz30, _⟩ := info_parts info5
                 obtain ⟨A30, hcut30, hA30, hC30⟩ := print_drop_of (P := Tryd.prog) (Value.int .u8) 0 24 5 .i64 Tryd.underlying24 hi030 hsz30 A0 c0 l0 a1 (of_decide_eq_true (by first | (with_reducible assumption) | assumption)) (of_decide_eq_true (by first | (with_reducible assumption) | assumption)) HC0.out
                 have HR101 := Aside0.mk (Kd.C_of_reads (h1 := fun _ => rfl) (hA30 _ (Kd.reads_of_C HR0.out)))
                 have HC101 := Aside0.mk hC30
                 clear hA30 hC30 hi030 hsz30
                 have p102 : 0 ≤ (0 : Int) := (by omega)
                 have q102 : 0 < ((l0.drop (a1 : Int).toNat).length : Int) := of_decide_eq_true (by first | (with_reducible assumption) | assumption)
                 obtain ⟨ad102, e102, hx102_0⟩ := Kd.at_int HR101.out 0 p102 q102
                 cases e102
                 have qi102 : (0 < (l0.drop (a1 : Int).toNat).length) = True := eq_true (by omega)
                 have qi102d := qi102
                 (try simp only [List.length_drop, List.drop_drop] at qi102d)
                 (try rw [show ((0 : Int)).toNat = 0 from rfl] at hx102_0)
                 (try rw [Addr.add_zero'] at hx102_0)
                 replace p102 := eq_true p102
                 replace q102 := eq_true q102
                 have q102d := q102
                 (try simp only [List.length_drop, List.drop_drop] at q102d)
                 have p103 : 0 ≤ (1 : Int) := (by omega)
                 have q103 : 1 < ((l0.drop (a1 : Int).toNat).length : Int) := of_decide_eq_true (by first | (with_reducible assumption) | assumption)
                 obtain ⟨ad103, e103, hx103_0⟩ := Kd.at_int HR101.out 1 p103 q103
                 obtain rfl : ad102 = ad103 := (by injection e103)
                 (try simp only [show (1 : Int).toNat = 1 from rfl, Nat.reduceMul, Nat.reduceEqDiff, Go.Addr.add, ↓reduceIte] at hx103_0)
                 have qi103 : (1 < (l0.drop (a1 : Int).toNat).length) = True := eq_true (by omega)
                 have qi103d := qi103
                 (try simp only [List.length_drop, List.drop_drop] at qi103d)
                 (try rw [show ((1 : Int)).toNat = 1 from rfl] at hx103_0)
                 replace p103 := eq_true p103
                 replace q103 := eq_true q103
                 have q103d := q103
                 (try simp only [List.length_drop, List.drop_drop] at q103d)
                 obtain ⟨i031, hi031, _, hsz31, _⟩ := info_parts info5
                 obtain ⟨A31, hcut31, hA31, hC31⟩ := print_drop_of (P := Tryd.prog) (Value.int .u8) 0 24 5 .i64 Tryd.underlying24 hi031 hsz31 (some ad102) (c0 - a1.toNat) (l0.drop (a1 : Int).toNat) 2 (by omega) (of_decide_eq_true (by first | (with_reducible assumption) | assumption)) HC101.out
                 have hcut31d := hcut31
                 (try simp only [List.length_drop, List.drop_drop] at hcut31d)
                 have HR104 := Aside0.mk (Kd.C_of_reads (h1 := fun _ => rfl) (hA31 _ (Kd.reads_of_C HR101.out)))
                 have HC104 := Aside0.mk hC31
                 clear hA31 hC31 hi031 hsz31
                 have p105 : 0 ≤ (0 : Int) := (by omega)
                 have q105 : 0 < (((l0.drop (a1 : Int).toNat).drop 2).length : Int) := of_decide_eq_true (by first | (with_reducible assumption) | assumption)
                 obtain ⟨ad105, e105, hx105_0⟩ := Kd.at_int HR104.out 0 p105 q105
                 cases e105
                 have qi105 : (0 < ((l0.drop (a1 : Int).toNat).drop 2).length) = True := eq_true (by omega)
                 have qi105d := qi105
                 (try simp only [List.length_drop, List.drop_drop] at qi105d)
                 (try rw [show ((0 : Int)).toNat = 0 from rfl] at hx105_0)
                 (try rw [Addr.add_zero'] at hx105_0)
                 replace p105 := eq_true p105
                 replace q105 := eq_true q105
                 have q105d := q105
                 (try simp only [List.length_drop, List.drop_drop] at q105d)
                 obtain ⟨i032, hi032, _, hsz32, _⟩ := info_parts info5
                 obtain ⟨A32, hcut32, hA32, hC32⟩ := print_drop_of (P := Tryd.prog) (Value.int .u8) 0 24 5 .i64 Tryd.underlying24 hi032 hsz32 (some ad105) ((c0 - a1.toNat) - 2) ((l0.drop (a1 : Int).toNat).drop 2) 1 (by omega) (of_decide_eq_true (by first | (with_reducible assumption) | assumption)) HC104.out
                 have hcut32d := hcut32
                 (try simp only [List.length_drop, List.drop_drop] at hcut32d)
                 have HR106 := Aside0.mk (Kd.C_of_reads (h1 := fun _ => rfl) (hA32 _ (Kd.reads_of_C HR104.out)))
                 have HC106 := Aside0.mk hC32
                 clear hA32 hC32 hi032 hsz32
                 go_enter Tryd.func51, Tryd.ntmps51
                 go_wp2
                 refine wp_scope_fwd 0 (by rfl) ?_
                 go_wp2
                 repeat (go_quiet (fail); try go_wp2)
                 (try (apply wp_goto; refine And.intro (rfl : (0 : Nat) = 0) ?_; go_wp2))
                 (try (go_step3; go_wp2))
                 (try simp only [Exit.then, Exit.inBlock, Exit.jump])
                 refine bodyPost_ret (results_list (rs := [.tmp 4, .tmp 5, .tmp 6, .tmp 7]) rfl (by simp) (.tmp (.tmp (.tmp (.tmp .nil))))) rfl ?_
                 exact ⟨by first | rfl | (simp; done) | (simp [*]; done) | (simp [Nat.sub_sub]; done) | (simp only [List.length_drop, Nat.sub_sub]; done), by repeat (first | exact Drawn0.refl _ | apply Drawn0.step)⟩
              ·rw [if_neg c20] at H
               exact absurd H (by simp)
             ·rw [if_neg c19] at H
              exact absurd H (by simp)
           ·rw [if_neg c15] at H
            have c15b0 : ((wrap64 (rd (l0.drop (a1 : Int).toNat) 1)) == 129) = false := beq_eq_false_iff_ne.mpr c15
            have c15b1 : ((wrap64 (rd (l0.drop (a1 : Int).toNat) 1)) != 129) = true := bne_iff_ne.mpr c15
            by_cases c33 : (wrap64 (rd (l0.drop (a1 : Int).toNat) 1)) = 130
            ·rw [if_pos c33] at H
             have c33b0 : ((wrap64 (rd (l0.drop (a1 : Int).toNat) 1)) == 130) = true := beq_iff_eq.mpr c33
             have c33b1 : ((wrap64 (rd (l0.drop (a1 : Int).toNat) 1)) != 130) = false := bne_eq_false_iff_eq.mpr c33
             clear c33
             by_cases c34 : (((l0.drop (a1 : Int).toNat).drop 2).length : Int) < 2
             ·rw [if_pos c34] at H
              have c34b0 : decide ((((l0.drop (a1 : Int).toNat).drop 2).length : Int) < 2) = true := decide_eq_true c34
              have c34b0d := c34b0
              (try simp only [List.length_drop, List.drop_drop] at c34b0d)
              have c34b1 : decide (((l0.drop (a1 : Int).toNat).drop 2).length < 2) = true := decide_eq_true (by omega)
              have c34b1d := c34b1
              (try simp only [List.length_drop, List.drop_drop] at c34b1d)
              clear c34
              simp only [Option.some.injEq, Prod.mk.injEq] at H
              obtain ⟨rfl, rfl, rfl, rfl⟩ := H
              obtain ⟨i035, hi035, _, hsz35, _⟩ := info_parts info5
              obtain ⟨A35, hcut35, hA35, hC35⟩ := print_drop_of (P := Tryd.prog) (Value.int .u8) 0 24 5 .i64 Tryd.underlying24 hi035 hsz35 A0 c0 l0 a1 (of_decide_eq_true (by first | (with_reducible assumption) | assumption)) (of_decide_eq_true (by first | (with_reducible assumption) | assumption)) HC0.out
              have HR101 := Aside0.mk (Kd.C_of_reads (h1 := fun _ => rfl) (hA35 _ (Kd.reads_of_C HR0.out)))
              have HC101 := Aside0.mk hC35
              clear hA35 hC35 hi035 hsz35
              have p102 : 0 ≤ (0 : Int) := (by omega)
              have q102 : 0 < ((l0.drop (a1 : Int).toNat).length : Int) := of_decide_eq_true (by first | (with_reducible assumption) | assumption)
              obtain ⟨ad102, e102, hx102_0⟩ := Kd.at_int HR101.out 0 p102 q102
              cases e102
              have qi102 : (0 < (l0.drop (a1 : Int).toNat).length) = True := eq_true (by omega)
              have qi102d := qi102
              (try simp only [List.length_drop, List.drop_drop] at qi102d)
              (try rw [show ((0 : Int)).toNat = 0 from rfl] at hx102_0)
              (try rw [Addr.add_zero'] at hx102_0)
              replace p102 := eq_true p102
              replace q102 := eq_true q102
              have q102d := q102
              (try simp only [List.length_drop, List.drop_drop] at q102d)
              have p103 : 0 ≤ (1 : Int) := (by omega)
              have q103 : 1 < ((l0.drop (a1 : Int).toNat).length : Int) := of_decide_eq_true (by first | (with_reducible assumption) | assumption)
              obtain ⟨ad103, e103, hx103_0⟩ := Kd.at_int HR101.out 1 p103 q103
              obtain rfl : ad102 = ad103 := (by injection e103)
              (try simp only [show (1 : Int).toNat = 1 from rfl, Nat.reduceMul, Nat.reduceEqDiff, Go.Addr.add, ↓reduceIte] at hx103_0)
              have qi103 : (1 < (l0.drop (a1 : Int).toNat).length) = True := eq_true (by omega)
              have qi103d := qi103
              (try simp only [List.length_drop, List.drop_drop] at qi103d)
              (try rw [show ((1 : Int)).toNat = 1 from rfl] at hx103_0)
              replace p103 := eq_true p103
              replace q103 := eq_true q103
              have q103d := q103
              (try simp only [List.length_drop, List.drop_drop] at q103d)
              obtain ⟨i036, hi036, _, hsz36, _⟩ := info_parts info5
              obtain ⟨A36, hcut36, hA36, hC36⟩ := print_drop_of (P := Tryd.prog) (Value.int .u8) 0 24 5 .i64 Tryd.underlying24 hi036 hsz36 (some ad102) (c0 - a1.toNat) (l0.drop (a1 : Int).toNat) 2 (by omega) (of_decide_eq_true (by first | (with_reducible assumption) | assumption)) HC101.out
              have hcut36d := hcut36
              (try simp only [List.length_drop, List.drop_drop] at hcut36d)
              have HR104 := Aside0.mk (Kd.C_of_reads (h1 := fun _ => rfl) (hA36 _ (Kd.reads_of_C HR101.out)))
              have HC104 := Aside0.mk hC36
              clear hA36 hC36 hi036 hsz36
              go_enter Tryd.func51, Tryd.ntmps51
              go_wp2
              refine wp_scope_fwd 0 (by rfl) ?_
              go_wp2
              repeat (go_quiet (fail); try go_wp2)
              (try (apply wp_goto; refine And.intro (rfl : (0 : Nat) = 0) ?_; go_wp2))
              (try (go_step3; go_wp2))
              (try simp only [Exit.then, Exit.inBlock, Exit.jump])
              refine bodyPost_ret (results_list (rs := [.tmp 4, .tmp 5, .tmp 6, .tmp 7]) rfl (by simp) (.tmp (.tmp (.tmp (.tmp .nil))))) rfl ?_
              exact ⟨by first | rfl | (simp; done) | (simp [*]; done) | (simp [Nat.sub_sub]; done) | (simp only [List.length_drop, Nat.sub_sub]; done), by repeat (first | exact Drawn0.refl _ | apply Drawn0.step)⟩
             ·rw [if_neg c34] at H
              have c34b0 : decide ((((l0.drop (a1 : Int).toNat).drop 2).length : Int) < 2) = false := decide_eq_false c34
              have c34b0d := c34b0
              (try simp only [List.length_drop, List.drop_drop] at c34b0d)
              have c34b1 : decide (((l0.drop (a1 : Int).toNat).drop 2).length < 2) = false := decide_eq_false (by omega)
              have c34b1d := c34b1
              (try simp only [List.length_drop, List.drop_drop] at c34b1d)
              clear c34
              by_cases c37 : 0 < (((l0.drop (a1 : Int).toNat).drop 2).length : Int)
              ·rw [if_pos c37] at H
               have c37b0 : decide (0 < (((l0.drop (a1 : Int).toNat).drop 2).length : Int)) = true := decide_eq_true c37
               have c37b0d := c37b0
               (try simp only [List.length_drop, List.drop_drop] at c37b0d)
               have c37b1 : decide (0 < ((l0.drop (a1 : Int).toNat).drop 2).length) = true := decide_eq_true (by omega)
               have c37b1d := c37b1
               (try simp only [List.length_drop, List.drop_drop] at c37b1d)
               clear c37
               by_cases c38 : 1 < (((l0.drop (a1 : Int).toNat).drop 2).length : Int)
               ·rw [if_pos c38] at H
                have c38b0 : decide (1 < (((l0.drop (a1 : Int).toNat).drop 2).length : Int)) = true := decide_eq_true c38
                have c38b0d := c38b0
                (try simp only [List.length_drop, List.drop_drop] at c38b0d)
                have c38b1 : decide (1 < ((l0.drop (a1 : Int).toNat).drop 2).length) = true := decide_eq_true (by omega)
                have c38b1d := c38b1
                (try simp only [List.length_drop, List.drop_drop] at c38b1d)
                clear c38
                by_cases c39 : 2 ≤ (((l0.drop (a1 : Int).toNat).drop 2).length : Int)
                ·rw [if_pos c39] at H
                 have c39b0 := eq_true c39
                 have c39b0d := c39b0
                 (try simp only [List.length_drop, List.drop_drop] at c39b0d)
                 have c39b1 : decide (2 ≤ (((l0.drop (a1 : Int).toNat).drop 2).length : Int)) = true := decide_eq_true c39
                 have c39b1d := c39b1
                 (try simp only [List.length_drop, List.drop_drop] at c39b1d)
                 clear c39
                 by_cases c40 : (wrap64 ((wrap64 ((wrap64 (rd ((l0.drop (a1 : Int).toNat).drop 2) 0)) * 256)) + (wrap64 (rd ((l0.drop (a1 : Int).toNat).drop 2) 1)))) < 256
                 ·rw [if_pos c40] at H
                  have c40b0 : decide ((wrap64 ((wrap64 ((wrap64 (rd ((l0.drop (a1 : Int).toNat).drop 2) 0)) * 256)) + (wrap64 (rd ((l0.drop (a1 : Int).toNat).drop 2) 1)))) < 256) = true := decide_eq_true c40
                  have c40b0d := c40b0
                  (try simp only [List.length_drop, List.drop_drop] at c40b0d)
                  clear c40
                  simp only [Option.some.injEq, Prod.mk.injEq] at H
                  obtain ⟨rfl, rfl, rfl, rfl⟩ := H
                  obtain ⟨i041, hi041, _, hsz41, _⟩ := info_parts info5
                  obtain ⟨A41, hcut41, hA41, hC41⟩ := print_drop_of (P := Tryd.prog) (Value.int .u8) 0 24 5 .i64 Tryd.underlying24 hi041 hsz41 A0 c0 l0 a1 (of_decide_eq_true (by first | (with_reducible assumption) | assumption)) (of_decide_eq_true (by first | (with_reducible assumption) | assumption)) HC0.out
                  have HR101 := Aside0.mk (Kd.C_of_reads (h1 := fun _ => rfl) (hA41 _ (Kd.reads_of_C HR0.out)))
                  have HC101 := Aside0.mk hC41
                  clear hA41 hC41 hi041 hsz41
                  have p102 : 0 ≤ (0 : Int) := (by omega)
                  have q102 : 0 < ((l0.drop (a1 : Int).toNat).length : Int) := of_decide_eq_true (by first | (with_reducible assumption) | assumption)
                  obtain ⟨ad102, e102, hx102_0⟩ := Kd.at_int HR101.out 0 p102 q102
                  cases e102
                  have qi102 : (0 < (l0.drop (a1 : Int).toNat).length) = True := eq_true (by omega)
                  have qi102d := qi102
                  (try simp only [List.length_drop, List.drop_drop] at qi102d)
                  (try rw [show ((0 : Int)).toNat = 0 from rfl] at hx102_0)
                  (try rw [Addr.add_zero'] at hx102_0)
                  replace p102 := eq_true p102
                  replace q102 := eq_true q102
                  have q102d := q102
                  (try simp only [List.length_drop, List.drop_drop] at q102d)
                  have p103 : 0 ≤ (1 : Int) := (by omega)
                  have q103 : 1 < ((l0.drop (a1 : Int).toNat).length : Int) := of_decide_eq_true (by first | (with_reducible assumption) | assumption)
                  obtain ⟨ad103, e103, hx103_0⟩ := Kd.at_int HR101.out 1 p103 q103
                  obtain rfl : ad102 = ad103 := (by injection e103)
                  (try simp only [show (1 : Int).toNat = 1 from rfl, Nat.reduceMul, Nat.reduceEqDiff, Go.Addr.add, ↓reduceIte] at hx103_0)
                  have qi103 : (1 < (l0.drop (a1 : Int).toNat).length) = True := eq_true (by omega)
                  have qi103d := qi103
                  (try simp only [List.length_drop, List.drop_drop] at qi103d)
                  (try rw [show ((1 : Int)).toNat = 1 from rfl] at hx103_0)
                  replace p103 := eq_true p103
                  replace q103 := eq_true q103
                  have q103d := q103
                  (try simp only [List.length_drop, List.drop_drop] at q103d)
                  obtain ⟨i042, hi042, _, hsz42, _⟩ := info_parts info5
                  obtain ⟨A42, hcut42, hA42, hC42⟩ := print_drop_of (P := Tryd.prog) (Value.int .u8) 0 24 5 .i64 Tryd.underlying24 hi042 hsz42 (some ad102) (c0 - a1.toNat) (l0.drop (a1 : Int).toNat) 2 (by omega) (of_decide_eq_true (by first | (with_reducible assumption) | assumption)) HC101.out
                  have hcut42d := hcut42
                  (try simp only [List.length_drop, List.drop_drop] at hcut42d)
                  have HR104 := Aside0.mk (Kd.C_of_reads (h1 := fun _ => rfl) (hA42 _ (Kd.reads_of_C HR101.out)))
                  have HC104 := Aside0.mk hC42
                  clear hA42 hC42 hi042 hsz42
                  have p108 : 0 ≤ (0 : Int) := (by omega)
                  have q108 : 0 < (((l0.drop (a1 : Int).toNat).drop 2).length : Int) := of_decide_eq_true (by first | (with_reducible assumption) | assumption)
                  obtain ⟨ad108, e108, hx108_0⟩ := Kd.at_int HR104.out 0 p108 q108
                  cases e108
                  have qi108 : (0 < ((l0.drop (a1 : Int).toNat).drop 2).length) = True := eq_true (by omega)
                  have qi108d := qi108
                  (try simp only [List.length_drop, List.drop_drop] at qi108d)
                  (try rw [show ((0 : Int)).toNat = 0 from rfl] at hx108_0)
                  (try rw [Addr.add_zero'] at hx108_0)
                  replace p108 := eq_true p108
                  replace q108 := eq_true q108
                  have q108d := q108
                  (try simp only [List.length_drop, List.drop_drop] at q108d)
                  have p109 : 0 ≤ (1 : Int) := (by omega)
                  have q109 : 1 < (((l0.drop (a1 : Int).toNat).drop 2).length : Int) := of_decide_eq_true (by first | (with_reducible assumption) | assumption)
                  obtain ⟨ad109, e109, hx109_0⟩ := Kd.at_int HR104.out 1 p109 q109
                  obtain rfl : ad108 = ad109 := (by injection e109)
                  (try simp only [show (1 : Int).toNat = 1 from rfl, Nat.reduceMul, Nat.reduceEqDiff, Go.Addr.add, ↓reduceIte] at hx109_0)
                  have qi109 : (1 < ((l0.drop (a1 : Int).toNat).drop 2).length) = True := eq_true (by omega)
                  have qi109d := qi109
                  (try simp only [List.length_drop, List.drop_drop] at qi109d)
                  (try rw [show ((1 : Int)).toNat = 1 from rfl] at hx109_0)
                  replace p109 := eq_true p109
                  replace q109 := eq_true q109
                  have q109d := q109
                  (try simp only [List.length_drop, List.drop_drop] at q109d)
                  obtain ⟨i043, hi043, _, hsz43, _⟩ := info_parts info5
                  obtain ⟨A43, hcut43, hA43, hC43⟩ := print_drop_of (P := Tryd.prog) (Value.int .u8) 0 24 5 .i64 Tryd.underlying24 hi043 hsz43 (some ad108) ((c0 - a1.toNat) - 2) ((l0.drop (a1 : Int).toNat).drop 2) 2 (by omega) (of_decide_eq_true (by first | (with_reducible assumption) | assumption)) HC104.out
                  have hcut43d := hcut43
                  (try simp only [List.length_drop, List.drop_drop] at hcut43d)
                  have HR110 := Aside0.mk (Kd.C_of_reads (h1 := fun _ => rfl) (hA43 _ (Kd.reads_of_C HR104.out)))
                  have HC110 := Aside0.mk hC43
                  clear hA43 hC43 hi043 hsz43
                  go_enter Tryd.func51, Tryd.ntmps51
                  go_wp2
                  refine wp_scope_fwd 0 (by rfl) ?_
                  go_wp2
                  repeat (go_quiet (fail); try go_wp2)
                  (try (apply wp_goto; refine And.intro (rfl : (0 : Nat) = 0) ?_; go_wp2))
                  (try (go_step3; go_wp2))
                  (try simp only [Exit.then, Exit.inBlock, Exit.jump])
                  refine bodyPost_ret (results_list (rs := [.tmp 4, .tmp 5, .tmp 6, .tmp 7]) rfl (by simp) (.tmp (.tmp (.tmp (.tmp .nil))))) rfl ?_
                  exact ⟨by first | rfl | (simp; done) | (simp [*]; done) | (simp [Nat.sub_sub]; done) | (simp only [List.length_drop, Nat.sub_sub]; done), by repeat (first | exact Drawn0.refl _ | apply Drawn0.step)⟩
                 ·rw [if_neg c40] at H
                  have c40b0 : decide ((wrap64 ((wrap64 ((wrap64 (rd ((l0.drop (a1 : Int).toNat).drop 2) 0)) * 256)) + (wrap64 (rd ((l0.drop (a1 : Int).toNat).drop 2) 1)))) < 256) = false := decide_eq_false c40
                  have c40b0d := c40b0
                  (try simp only [List.length_drop, List.drop_drop] at c40b0d)
                  clear c40
                  by_cases c44 : (wrap64 ((wrap64 ((wrap64 (rd ((l0.drop (a1 : Int).toNat).drop 2) 0)) * 256)) + (wrap64 (rd ((l0.drop (a1 : Int).toNat).drop 2) 1)))) ≤ ((((l0.drop (a1 : Int).toNat).drop 2).drop 2).length : Int)
                  ·rw [if_pos c44] at H
                   have c44b0 : decide ((wrap64 ((wrap64 ((wrap64 (rd ((l0.drop (a1 : Int).toNat).drop 2) 0)) * 256)) + (wrap64 (rd ((l0.drop (a1 : Int).toNat).drop 2) 1)))) ≤ ((((l0.drop (a1 : Int).toNat).drop 2).drop 2).length : Int)) = true := decide_eq_true c44
                   have c44b0d := c44b0
                   (try simp only [List.length_drop, List.drop_drop] at c44b0d)
                   clear c44
                   by_cases c45 : a1 < (l0.length : Int)
                   ·rw [if_pos c45] at H
                    have c45b0 : decide (a1 < (l0.length : Int)) = true := decide_eq_true c45
                    clear c45
                    simp only [Option.some.injEq, Prod.mk.injEq] at H
                    obtain ⟨rfl, rfl, rfl, rfl⟩ := H
                    obtain ⟨i046, hi046, _, hsz46, _⟩ := info_parts info5
                    obtain ⟨A46, hcut46, hA46, hC46⟩ := print_drop_of (P := Tryd.prog) (Value.int .u8) 0 24 5 .i64 Tryd.underlying24 hi046 hsz46 A0 c0 l0 a1 (of_decide_eq_true (by first | (with_reducible assumption) | assumption)) (of_decide_eq_true (by first | (with_reducible assumption) | assumption)) HC0.out
                    have HR101 := Aside0.mk (Kd.C_of_reads (h1 := fun _ => rfl) (hA46 _ (Kd.reads_of_C HR0.out)))
                    have HC101 := Aside0.mk hC46
                    clear hA46 hC46 hi046 hsz46
                    have p102 : 0 ≤ (0 : Int) := (by omega)
                    have q102 : 0 < ((l0.drop (a1 : Int).toNat).length : Int) := of_decide_eq_true (by first | (with_reducible assumption) | assumption)
                    obtain ⟨ad102, e102, hx102_0⟩ := Kd.at_int HR101.out 0 p102 q102
                    cases e102
                    have qi102 : (0 < (l0.drop (a1 : Int).toNat).length) = True := eq_true (by omega)
                    have qi102d := qi102
                    (try simp only [List.length_drop, List.drop_drop] at qi102d)
                    (try rw [show ((0 : Int)).toNat = 0 from rfl] at hx102_0)
                    (try rw [Addr.add_zero'] at hx102_0)
                    replace p102 := eq_true p102
                    replace q102 := eq_true q102
                    have q102d := q102
                    (try simp only [List.length_drop, List.drop_drop] at q102d)
                    have p103 : 0 ≤ (1 : Int) := (by omega)
                    have q103 : 1 < ((l0.drop (a1 : Int).toNat).length : Int) := of_decide_eq_true (by first | (with_reducible assumption) | assumption)
                    obtain ⟨ad103, e103, hx103_0⟩ := Kd.at_int HR101.out 1 p103 q103
                    obtain rfl : ad102 = ad103 := (by injection e103)
                    (try simp only [show (1 : Int).toNat = 1 from rfl, Nat.reduceMul, Nat.reduceEqDiff, Go.Addr.add, ↓reduceIte] at hx103_0)
                    have qi103 : (1 < (l0.drop (a1 : Int).toNat).length) = True := eq_true (by omega)
                    have qi103d := qi103
                    (try simp only [List.length_drop, List.drop_drop] at qi103d)
                    (try rw [show ((1 : Int)).toNat = 1 from rfl] at hx103_0)
                    replace p103 := eq_true p103
                    replace q103 := eq_true q103
                    have q103d := q103
                    (try simp only [List.length_drop, List.drop_drop] at q103d)
                    obtain ⟨i047, hi047, _, hsz47, _⟩ := info_parts info5
                    obtain ⟨A47, hcut47, hA47, hC47⟩ := print_drop_of (P := Tryd.prog) (Value.int .u8) 0 24 5 .i64 Tryd.underlying24 hi047 hsz47 (some ad102) (c0 - a1.toNat) (l0.drop (a1 : Int).toNat) 2 (by omega) (of_decide_eq_true (by first | (with_reducible assumption) | assumption)) HC101.out
                    have hcut47d := hcut47
                    (try simp only [List.length_drop, List.drop_drop] at hcut47d)
                    have HR104 := Aside0.mk (Kd.C_of_reads (h1 := fun _ => rfl) (hA47 _ (Kd.reads_of_C HR101.out)))
                    have HC104 := Aside0.mk hC47
                    clear hA47 hC47 hi047 hsz47
                    have p108 : 0 ≤ (0 : Int) := (by omega)
                    have q108 : 0 < (((l0.drop (a1 : Int).toNat).drop 2).length : Int) := of_decide_eq_true (by first | (with_reducible assumption) | assumption)
                    obtain ⟨ad108, e108, hx108_0⟩ := Kd.at_int HR104.out 0 p108 q108
                    cases e108
                    have qi108 : (0 < ((l0.drop (a1 : Int).toNat).drop 2).length) = True := eq_true (by omega)
                    have qi108d := qi108
                    (try simp only [List.length_drop, List.drop_drop] at qi108d)
                    (try rw [show ((0 : Int)).toNat = 0 from rfl] at hx108_0)
                    (try rw [Addr.add_zero'] at hx108_0)
                    replace p108 := eq_true p108
                    replace q108 := eq_true q108
                    have q108d := q108
                    (try simp only [List.length_drop, List.drop_drop] at q108d)
                    have p109 : 0 ≤ (1 : Int) := (by omega)
                    have q109 : 1 < (((l0.drop (a1 : Int).toNat).drop 2).length : Int) := of_decide_eq_true (by first | (with_reducible assumption) | assumption)
                    obtain ⟨ad109, e109, hx109_0⟩ := Kd.at_int HR104.out 1 p109 q109
                    obtain rfl : ad108 = ad109 := (by injection e109)
                    (try simp only [show (1 : Int).toNat = 1 from rfl, Nat.reduceMul, Nat.reduceEqDiff, Go.Addr.add, ↓reduceIte] at hx109_0)
                    have qi109 : (1 < ((l0.drop (a1 : Int).toNat).drop 2).length) = True := eq_true (by omega)
                    have qi109d := qi109
                    (try simp only [List.length_drop, List.drop_drop] at qi109d)
                    (try rw [show ((1 : Int)).toNat = 1 from rfl] at hx109_0)
                    replace p109 := eq_true p109
                    replace q109 := eq_true q109
                    have q109d := q109
                    (try simp only [List.length_drop, List.drop_drop] at q109d)
                    obtain ⟨i048, hi048, _, hsz48, _⟩ := info_parts info5
                    obtain ⟨A48, hcut48, hA48, hC48⟩ := print_drop_of (P := Tryd.prog) (Value.int .u8) 0 24 5 .i64 Tryd.underlying24 hi048 hsz48 (some ad108) ((c0 - a1.toNat) - 2) ((l0.drop (a1 : Int).toNat).drop 2) 2 (by omega) (of_decide_eq_true (by first | (with_reducible assumption) | assumption)) HC104.out
                    have hcut48d := hcut48
                    (try simp only [List.length_drop, List.drop_drop] at hcut48d)
                    have HR110 := Aside0.mk (Kd.C_of_reads (h1 := fun _ => rfl) (hA48 _ (Kd.reads_of_C HR104.out)))
                    have HC110 := Aside0.mk hC48
                    clear hA48 hC48 hi048 hsz48
                    have p111 : 0 ≤ (a1 : Int) := of_decide_eq_true (by first | (with_reducible assumption) | assumption)
                    have q111 : a1 < (l0.length : Int) := of_decide_eq_true (by first | (with_reducible assumption) | assumption)
                    obtain ⟨ad111, e111, hx111_0⟩ := Kd.at_int HR0.out a1 p111 q111
                    cases e111
                    replace p111 := eq_true p111
                    replace q111 := eq_true q111
                    go_enter Tryd.func51, Tryd.ntmps51
                    go_wp2
                    refine wp_scope_fwd 0 (by rfl) ?_
                    go_wp2
                    repeat (go_quiet (fail); try go_wp2)
                    (try (apply wp_goto; refine And.intro (rfl : (0 : Nat) = 0) ?_; go_wp2))
                    (try (go_step3; go_wp2))
                    (try simp only [Exit.then, Exit.inBlock, Exit.jump])
                    refine bodyPost_ret (results_list (rs := [.tmp 4, .tmp 5, .tmp 6, .tmp 7]) rfl (by simp) (.tmp (.tmp (.tmp (.tmp .nil))))) rfl ?_
                    exact ⟨by first | rfl | (simp; done) | (simp [*]; done) | (simp [Nat.sub_sub]; done) | (simp only [List.length_drop, Nat.sub_sub]; done), by repeat (first | exact Drawn0.refl _ | apply Drawn0.step)⟩
                   ·rw [if_neg c45] at H
                    exact absurd H (by simp)
                  ·rw [if_neg c44] at H
                   have c44b0 : decide ((wrap64 ((wrap64 ((wrap64 (rd ((l0.drop (a1 : Int).toNat).drop 2) 0)) * 256)) + (wrap64 (rd ((l0.drop (a1 : Int).toNat).drop 2) 1)))) ≤ ((((l0.drop (a1 : Int).toNat).drop 2).drop 2).length : Int)) = false := decide_eq_false c44
                   have c44b0d := c44b0
                   (try simp only [List.length_drop, List.drop_drop] at c44b0d)
                   clear c44
                   simp only [Option.some.injEq, Prod.mk.injEq] at H
                   obtain ⟨rfl, rfl, rfl, rfl⟩ := H
                   obtain ⟨i049, hi049, _, hsz49, _⟩ := info_parts info5
                   obtain ⟨A49, hcut49, hA49, hC49⟩ := print_drop_of (P := Tryd.prog) (Value.int .u8) 0 24 5 .i64 Tryd.underlying24 hi049 hsz49 A0 c0 l0 a1 (of_decide_eq_true (by first | (with_reducible assumption) | assumption)) (of_decide_eq_true (by first | (with_reducible assumption) | assumption)) HC0.out
                   have HR101 := Aside0.mk (Kd.C_of_reads (h1 := fun _ => rfl) (hA49 _ (Kd.reads_of_C HR0.out)))
                   have HC101 := Aside0.mk hC49
                   clear hA49 hC49 hi049 hsz49
                   have p102 : 0 ≤ (0 : Int) := (by omega)
                   have q102 : 0 < ((l0.drop (a1 : Int).toNat).length : Int) := of_decide_eq_true (by first | (with_reducible assumption) | assumption)
                   obtain ⟨ad102, e102, hx102_0⟩ := Kd.at_int HR101.out 0 p102 q102
                   cases e102
                   have qi102 : (0 < (l0.drop (a1 : Int).toNat).length) = True := eq_true (by omega)
                   have qi102d := qi102
                   (try simp only [List.length_drop, List.drop_drop] at qi102d)
                   (try rw [show ((0 : Int)).toNat = 0 from rfl] at hx102_0)
                   (try rw [Addr.add_zero'] at hx102_0)
                   replace p102 := eq_true p102
                   replace q102 := eq_true q102
                   have q102d := q102
                   (try simp only [List.length_drop, List.drop_drop] at q102d)
                   have p103 : 0 ≤ (1 : Int) := (by omega)
                   have q103 : 1 < ((l0.drop (a1 : Int).toNat).length : Int) := of_decide_eq_true (by first | (with_reducible assumption) | assumption)
                   obtain ⟨ad103, e103, hx103_0⟩ := Kd.at_int HR101.out 1 p103 q103
                   obtain rfl : ad102 = ad103 := (by injection e103)
                   (try simp only [show (1 : Int).toNat = 1 from rfl, Nat.reduceMul, Nat.reduceEqDiff, Go.Addr.add, ↓reduceIte] at hx103_0)
                   have qi103 : (1 < (l0.drop (a1 : Int).toNat).length) = True := eq_true (by omega)
                   have qi103d := qi103
                   (try simp only [List.length_drop, List.drop_drop] at qi103d)
                   (try rw [show ((1 : Int)).toNat = 1 from rfl] at hx103_0)
                   replace p103 := eq_true p103
                   replace q103 := eq_true q103
                   have q103d := q103
                   (try simp only [List.length_drop, List.drop_drop] at q103d)
                   obtain ⟨i050, hi050, _, hsz50, _⟩ := info_parts info5
                   obtain ⟨A50, hcut50, hA50, hC50⟩ := print_drop_of (P := Tryd.prog) (Value.int .u8) 0 24 5 .i64 Tryd.underlying24 hi050 hsz50 (some ad102) (c0 - a1.toNat) (l0.drop (a1 : Int).toNat) 2 (by omega) (of_decide_eq_true (by first | (with_reducible assumption) | assumption)) HC101.out
                   have hcut50d := hcut50
                   (try simp only [List.length_drop, List.drop_drop] at hcut50d)
                   have HR104 := Aside0.mk (Kd.C_of_reads (h1 := fun _ => rfl) (hA50 _ (Kd.reads_of_C HR101.out)))
                   have HC104 := Aside0.mk hC50
                   clear hA50 hC50 hi050 hsz50
                   have p108 : 0 ≤ (0 : Int) := (by omega)
                   have q108 : 0 < (((l0.drop (a1 : Int).toNat).drop 2).length : Int) := of_decide_eq_true (by first | (with_reducible assumption) | assumption)
                   obtain ⟨ad108, e108, hx108_0⟩ := Kd.at_int HR104.out 0 p108 q108
                   cases e108
                   have qi108 : (0 < ((l0.drop (a1 : Int).toNat).drop 2).length) = True := eq_true (by omega)
                   have qi108d := qi108
                   (try simp only [List.length_drop, List.drop_drop] at qi108d)
                   (try rw [show ((0 : Int)).toNat = 0 from rfl] at hx108_0)
                   (try rw [Addr.add_zero'] at hx108_0)
                   replace p108 := eq_true p108
                   replace q108 := eq_true q108
                   have q108d := q108
                   (try simp only [List.length_drop, List.drop_drop] at q108d)
                   have p109 : 0 ≤ (1 : Int) := (by omega)
                   have q109 : 1 < (((l0.drop (a1 : Int).toNat).drop 2).length : Int) := of_decide_eq_true (by first | (with_reducible assumption) | assumption)
                   obtain ⟨ad109, e109, hx109_0⟩ := Kd.at_int HR104.out 1 p109 q109
                   obtain rfl : ad108 = ad109 := (by injection e109)
                   (try simp only [show (1 : Int).toNat = 1 from rfl, Nat.reduceMul, Nat.reduceEqDiff, Go.Addr.add, ↓reduceIte] at hx109_0)
                   have qi109 : (1 < ((l0.drop (a1 : Int).toNat).drop 2).length) = True := eq_true (by omega)
                   have qi109d := qi109
                   (try simp only [List.length_drop, List.drop_drop] at qi109d)
                   (try rw [show ((1 : Int)).toNat = 1 from rfl] at hx109_0)
                   replace p109 := eq_true p109
                   replace q109 := eq_true q109
                   have q109d := q109
                   (try simp only [List.length_drop, List.drop_drop] at q109d)
                   obtain ⟨i051, hi051, _, hsz51, _⟩ := info_parts info5
                   obtain ⟨A51, hcut51, hA51, hC51⟩ := print_drop_of (P := Tryd.prog) (Value.int .u8) 0 24 5 .i64 Tryd.underlying24 hi051 hsz51 (some ad108) ((c0 - a1.toNat) - 2) ((l0.drop (a1 : Int).toNat).drop 2) 2 (by omega) (of_decide_eq_true (by first | (with_reducible assumption) | assumption)) HC104.out
                   have hcut51d := hcut51
                   (try simp only [List.length_drop, List.drop_drop] at hcut51d)
                   have HR110 := Aside0.mk (Kd.C_of_reads (h1 := fun _ => rfl) (hA51 _ (Kd.reads_of_C HR104.out)))
                   have HC110 := Aside0.mk hC51
                   clear hA51 hC51 hi051 hsz51
                   go_enter Tryd.func51, Tryd.ntmps51
                   go_wp2
                   refine wp_scope_fwd 0 (by rfl) ?_
                   go_wp2
                   repeat (go_quiet (fail); try go_wp2)
                   (try (apply wp_goto; refine And.intro (rfl : (0 : Nat) = 0) ?_; go_wp2))
                   (try (go_step3; go_wp2))
                   (try simp only [Exit.then, Exit.inBlock, Exit.jump])
                   refine bodyPost_ret (results_list (rs := [.tmp 4, .tmp 5, .tmp 6, .tmp 7]) rfl (by simp) (.tmp (.tmp (.tmp (.tmp .nil))))) rfl ?_
                   exact ⟨by first | rfl | (simp; done) | (simp [*]; done) | (simp [Nat.sub_sub]; done) | (simp only [List.length_drop, Nat.sub_sub]; done), by repeat (first | exact Drawn0.refl _ | apply Drawn0.step)⟩
                ·rw [if_neg c39] at H
                 exact absurd H (by simp)
               ·rw [if_neg c38] at H
                exact absurd H (by simp)
              ·rw [if_neg c37] at H
               exact absurd H (by simp)
            ·rw [if_neg c33] at H
             have c33b0 : ((wrap64 (rd (l0.drop (a1 : Int).toNat) 1)) == 130) = false := beq_eq_false_iff_ne.mpr c33
             have c33b1 : ((wrap64 (rd (l0.drop (a1 : Int).toNat) 1)) != 130) = true := bne_iff_ne.mpr c33
             by_cases c52 : (wrap64 (rd (l0.drop (a1 : Int).toNat) 1)) > 127
             ·rw [if_pos c52] at H
              have c52b0 : decide (127 < (wrap64 (rd (l0.drop (a1 : Int).toNat) 1))) = true := decide_eq_true c52
              clear c52
              simp only [Option.some.injEq, Prod.mk.injEq] at H
              obtain ⟨rfl, rfl, rfl, rfl⟩ := H
              obtain ⟨i053, hi053, _, hsz53, _⟩ := info_parts info5
              obtain ⟨A53, hcut53, hA53, hC53⟩ := print_drop_of (P := Tryd.prog) (Value.int .u8) 0 24 5 .i64 Tryd.underlying24 hi053 hsz53 A0 c0 l0 a1 (of_decide_eq_true (by first | (with_reducible assumption) | assumption)) (of_decide_eq_true (by first | (with_reducible assumption) | assumption)) HC0.out
              have HR101 := Aside0.mk (Kd.C_of_reads (h1 := fun _ => rfl) (hA53 _ (Kd.reads_of_C HR0.out)))
              have HC101 := Aside0.mk hC53
              clear hA53 hC53 hi053 hsz53
              have p102 : 0 ≤ (0 : Int) := (by omega)
              have q102 : 0 < ((l0.drop (a1 : Int).toNat).length : Int) := of_decide_eq_true (by first | (with_reducible assumption) | assumption)
              obtain ⟨ad102, e102, hx102_0⟩ := Kd.at_int HR101.out 0 p102 q102
              cases e102
              have qi102 : (0 < (l0.drop (a1 : Int).toNat).length) = True := eq_true (by omega)
              have qi102d := qi102
              (try simp only [List.length_drop, List.drop_drop] at qi102d)
              (try rw [show ((0 : Int)).toNat = 0 from rfl] at hx102_0)
              (try rw [Addr.add_zero'] at hx102_0)
              replace p102 := eq_true p102
              replace q102 := eq_true q102
              have q102d := q102
              (try simp only [List.length_drop, List.drop_drop] at q102d)
              have p103 : 0 ≤ (1 : Int) := (by omega)
              have q103 : 1 < ((l0.drop (a1 : Int).toNat).length : Int) := of_decide_eq_true (by first | (with_reducible assumption) | assumption)
              obtain ⟨ad103, e103, hx103_0⟩ := Kd.at_int HR101.out 1 p103 q103
              obtain rfl : ad102 = ad103 := (by injection e103)
              (try simp only [show (1 : Int).toNat = 1 from rfl, Nat.reduceMul, Nat.reduceEqDiff, Go.Addr.add, ↓reduceIte] at hx103_0)
              have qi103 : (1 < (l0.drop (a1 : Int).toNat).length) = True := eq_true (by omega)
              have qi103d := qi103
              (try simp only [List.length_drop, List.drop_drop] at qi103d)
              (try rw [show ((1 : Int)).toNat = 1 from rfl] at hx103_0)
              replace p103 := eq_true p103
              replace q103 := eq_true q103
              have q103d := q103
              (try simp only [List.length_drop, List.drop_drop] at q103d)
              obtain ⟨i054, hi054, _, hsz54, _⟩ := info_parts info5
              obtain ⟨A54, hcut54, hA54, hC54⟩ := print_drop_of (P := Tryd.prog) (Value.int .u8) 0 24 5 .i64 Tryd.underlying24 hi054 hsz54 (some ad102) (c0 - a1.toNat) (l0.drop (a1 : Int).toNat) 2 (by omega) (of_decide_eq_true (by first | (with_reducible assumption) | assumption)) HC101.out
              have hcut54d := hcut54
              (try simp only [List.length_drop, List.drop_drop] at hcut54d)
              have HR104 := Aside0.mk (Kd.C_of_reads (h1 := fun _ => rfl) (hA54 _ (Kd.reads_of_C HR101.out)))
              have HC104 := Aside0.mk hC54
              clear hA54 hC54 hi054 hsz54
              go_enter Tryd.func51, Tryd.ntmps51
              go_wp2
              refine wp_scope_fwd 0 (by rfl) ?_
              go_wp2
              repeat (go_quiet (fail); try go_wp2)
              (try (apply wp_goto; refine And.intro (rfl : (0 : Nat) = 0) ?_; go_wp2))
              (try (go_step3; go_wp2))
              (try simp only [Exit.then, Exit.inBlock, Exit.jump])
              refine bodyPost_ret (results_list (rs := [.tmp 4, .tmp 5, .tmp 6, .tmp 7]) rfl (by simp) (.tmp (.tmp (.tmp (.tmp .nil))))) rfl ?_
              exact ⟨by first | rfl | (simp; done) | (simp [*]; done) | (simp [Nat.sub_sub]; done) | (simp only [List.length_drop, Nat.sub_sub]; done), by repeat (first | exact Drawn0.refl _ | apply Drawn0.step)⟩
             ·rw [if_neg c52] at H
              have c52b0 : decide (127 < (wrap64 (rd (l0.drop (a1 : Int).toNat) 1))) = false := decide_eq_false c52
              clear c52
              by_cases c55 : (wrap64 (rd (l0.drop (a1 : Int).toNat) 1)) < 0
              ·rw [if_pos c55] at H
               have c55b0 : decide ((wrap64 (rd (l0.drop (a1 : Int).toNat) 1)) < 0) = true := decide_eq_true c55
               clear c55
               simp only [Option.some.injEq, Prod.mk.injEq] at H
               obtain ⟨rfl, rfl, rfl, rfl⟩ := H
               obtain ⟨i056, hi056, _, hsz56, _⟩ := info_parts info5
               obtain ⟨A56, hcut56, hA56, hC56⟩ := print_drop_of (P := Tryd.prog) (Value.int .u8) 0 24 5 .i64 Tryd.underlying24 hi056 hsz56 A0 c0 l0 a1 (of_decide_eq_true (by first | (with_reducible assumption) | assumption)) (of_decide_eq_true (by first | (with_reducible assumption) | assumption)) HC0.out
               have HR101 := Aside0.mk (Kd.C_of_reads (h1 := fun _ => rfl) (hA56 _ (Kd.reads_of_C HR0.out)))
               have HC101 := Aside0.mk hC56
               clear hA56 hC56 hi056 hsz56
               have p102 : 0 ≤ (0 : Int) := (by omega)
               have q102 : 0 < ((l0.drop (a1 : Int).toNat).length : Int) := of_decide_eq_true (by first | (with_reducible assumption) | assumption)
               obtain ⟨ad102, e102, hx102_0⟩ := Kd.at_int HR101.out 0 p102 q102
               cases e102
               have qi102 : (0 < (l0.drop (a1 : Int).toNat).length) = True := eq_true (by omega)
               have qi102d := qi102
               (try simp only [List.length_drop, List.drop_drop] at qi102d)
               (try rw [show ((0 : Int)).toNat = 0 from rfl] at hx102_0)
               (try rw [Addr.add_zero'] at hx102_0)
               replace p102 := eq_true p102
               replace q102 := eq_true q102
               have q102d := q102
               (try simp only [List.length_drop, List.drop_drop] at q102d)
               have p103 : 0 ≤ (1 : Int) := (by omega)
               have q103 : 1 < ((l0.drop (a1 : Int).toNat).length : Int) := of_decide_eq_true (by first | (with_reducible assumption) | assumption)
               obtain ⟨ad103, e103, hx103_0⟩ := Kd.at_int HR101.out 1 p103 q103
               obtain rfl : ad102 = ad103 := (by injection e103)
               (try simp only [show (1 : Int).toNat = 1 from rfl, Nat.reduceMul, Nat.reduceEqDiff, Go.Addr.add, ↓reduceIte] at hx103_0)
               have qi103 : (1 < (l0.drop (a1 : Int).toNat).length) = True := eq_true (by omega)
               have qi103d := qi103
               (try simp only [List.length_drop, List.drop_drop] at qi103d)
               (try rw [show ((1 : Int)).toNat = 1 from rfl] at hx103_0)
               replace p103 := eq_true p103
               replace q103 := eq_true q103
               have q103d := q103
               (try simp only [List.length_drop, List.drop_drop] at q103d)
               obtain ⟨i057, hi057, _, hsz57, _⟩ := info_parts info5
               obtain ⟨A57, hcut57, hA57, hC57⟩ := print_drop_of (P := Tryd.prog) (Value.int .u8) 0 24 5 .i64 Tryd.underlying24 hi057 hsz57 (some ad102) (c0 - a1.toNat) (l0.drop (a1 : Int).toNat) 2 (by omega) (of_decide_eq_true (by first | (with_reducible assumption) | assumption)) HC101.out
               have hcut57d := hcut57
               (try simp only [List.length_drop, List.drop_drop] at hcut57d)
               have HR104 := Aside0.mk (Kd.C_of_reads (h1 := fun _ => rfl) (hA57 _ (Kd.reads_of_C HR101.out)))
               have HC104 := Aside0.mk hC57
               clear hA57 hC57 hi057 hsz57
               go_enter Tryd.func51, Tryd.ntmps51
               go_wp2
               refine wp_scope_fwd 0 (by rfl) ?_
               go_wp2
               repeat (go_quiet (fail); try go_wp2)
               (try (apply wp_goto; refine And.intro (rfl : (0 : Nat) = 0) ?_; go_wp2))
               (try (go_step3; go_wp2))
               (try simp only [Exit.then, Exit.inBlock, Exit.jump])
               refine bodyPost_ret (results_list (rs := [.tmp 4, .tmp 5, .tmp 6, .tmp 7]) rfl (by simp) (.tmp (.tmp (.tmp (.tmp .nil))))) rfl ?_
               exact ⟨by first | rfl | (simp; done) | (simp [*]; done) | (simp [Nat.sub_sub]; done) | (simp only [List.length_drop, Nat.sub_sub]; done), by repeat (first | exact Drawn0.refl _ | apply Drawn0.step)⟩
              ·rw [if_neg c55] at H
               have c55b0 : decide ((wrap64 (rd (l0.drop (a1 : Int).toNat) 1)) < 0) = false := decide_eq_false c55
               clear c55
               by_cases c58 : (wrap64 (rd (l0.drop (a1 : Int).toNat) 1)) ≤ (((l0.drop (a1 : Int).toNat).drop 2).length : Int)
               ·rw [if_pos c58] at H
                have c58b0 : decide ((wrap64 (rd (l0.drop (a1 : Int).toNat) 1)) ≤ (((l0.drop (a1 : Int).toNat).drop 2).length : Int)) = true := decide_eq_true c58
                have c58b0d := c58b0
                (try simp only [List.length_drop, List.drop_drop] at c58b0d)
                clear c58
                by_cases c59 : a1 < (l0.length : Int)
                ·rw [if_pos c59] at H
                 have c59b0 : decide (a1 < (l0.length : Int)) = true := decide_eq_true c59
                 clear c59
                 simp only [Option.some.injEq, Prod.mk.injEq] at H
                 obtain ⟨rfl, rfl, rfl, rfl⟩ := H
                 obtain ⟨i060, hi060, _, hsz60, _⟩ := info_parts info5
                 obtain ⟨A60, hcut60, hA60, hC60⟩ := print_drop_of (P := Tryd.prog) (Value.int .u8) 0 24 5 .i64 Tryd.underlying24 hi060 hsz60 A0 c0 l0 a1 (of_decide_eq_true (by first | (with_reducible assumption) | assumption)) (of_decide_eq_true (by first | (with_reducible assumption) | assumption)) HC0.out
                 have HR101 := Aside0.mk (Kd.C_of_reads (h1 := fun _ => rfl) (hA60 _ (Kd.reads_of_C HR0.out)))
                 have HC101 := Aside0.mk hC60
                 clear hA60 hC60 hi060 hsz60
                 have p102 : 0 ≤ (0 : Int) := (by omega)
                 have q102 : 0 < ((l0.drop (a1 : Int).toNat).length : Int) := of_decide_eq_true (by first | (with_reducible assumption) | assumption)
                 obtain ⟨ad102, e102, hx102_0⟩ := Kd.at_int HR101.out 0 p102 q102
                 cases e102
                 have qi102 : (0 < (l0.drop (a1 : Int).toNat).length) = True := eq_true (by omega)
                 have qi102d := qi102
                 (try simp only [List.length_drop, List.drop_drop] at qi102d)
                 (try rw [show ((0 : Int)).toNat = 0 from rfl] at hx102_0)
                 (try rw [Addr.add_zero'] at hx102_0)
                 replace p102 := eq_true p102
                 replace q102 := eq_true q102
                 have q102d := q102
                 (try simp only [List.length_drop, List.drop_drop] at q102d)
                 have p103 : 0 ≤ (1 : Int) := (by omega)
                 have q103 : 1 < ((l0.drop (a1 : Int).toNat).length : Int) := of_decide_eq_true (by first | (with_reducible assumption) | assumption)
                 obtain ⟨ad103, e103, hx103_0⟩ := Kd.at_int HR101.out 1 p103 q103
                 obtain rfl : ad102 = ad103 := (by injection e103)
                 (try simp only [show (1 : Int).toNat = 1 from rfl, Nat.reduceMul, Nat.reduceEqDiff, Go.Addr.add, ↓reduceIte] at hx103_0)
                 have qi103 : (1 < (l0.drop (a1 : Int).toNat).length) = True := eq_true (by omega)
                 have qi103d := qi103
                 (try simp only [List.length_drop, List.drop_drop] at qi103d)
                 (try rw [show ((1 : Int)).toNat = 1 from rfl] at hx103_0)
                 replace p103 := eq_true p103
                 replace q103 := eq_true q103
                 have q103d := q103
                 (try simp only [List.length_drop, List.drop_drop] at q103d)
                 obtain ⟨i061, hi061, _, hsz61, _⟩ := info_parts info5
                 obtain ⟨A61, hcut61, hA61, hC61⟩ := print_drop_of (P := Tryd.prog) (Value.int .u8) 0 24 5 .i64 Tryd.underlying24 hi061 hsz61 (some ad102) (c0 - a1.toNat) (l0.drop (a1 : Int).toNat) 2 (by omega) (of_decide_eq_true (by first | (with_reducible assumption) | assumption)) HC101.out
                 have hcut61d := hcut61
                 (try simp only [List.length_drop, List.drop_drop] at hcut61d)
                 have HR104 := Aside0.mk (Kd.C_of_reads (h1 := fun _ => rfl) (hA61 _ (Kd.reads_of_C HR101.out)))
                 have HC104 := Aside0.mk hC61
                 clear hA61 hC61 hi061 hsz61
                 have p112 : 0 ≤ (a1 : Int) := of_decide_eq_true (by first | (with_reducible assumption) | assumption)
                 have q112 : a1 < (l0.length : Int) := of_decide_eq_true (by first | (with_reducible assumption) | assumption)
                 obtain ⟨ad112, e112, hx112_0⟩ := Kd.at_int HR0.out a1 p112 q112
                 cases e112
                 replace p112 := eq_true p112
                 replace q112 := eq_true q112
                 go_enter Tryd.func51, Tryd.ntmps51
                 go_wp2
                 refine wp_scope_fwd 0 (by rfl) ?_
                 go_wp2
                 repeat (go_quiet (fail); try go_wp2)
                 (try (apply wp_goto; refine And.intro (rfl : (0 : Nat) = 0) ?_; go_wp2))
                 (try (go_step3; go_wp2))
                 (try simp only [Exit.then, Exit.inBlock, Exit.jump])
                 refine bodyPost_ret (results_list (rs := [.tmp 4, .tmp 5, .tmp 6, .tmp 7]) rfl (by simp) (.tmp (.tmp (.tmp (.tmp .nil))))) rfl ?_
                 exact ⟨by first | rfl | (simp; done) | (simp [*]; done) | (simp [Nat.sub_sub]; done) | (simp only [List.length_drop, Nat.sub_sub]; done), by repeat (first | exact Drawn0.refl _ | apply Drawn0.step)⟩
                ·rw [if_neg c59] at H
                 exact absurd H (by simp)
               ·rw [if_neg c58] at H
                have c58b0 : decide ((wrap64 (rd (l0.drop (a1 : Int).toNat) 1)) ≤ (((l0.drop (a1 : Int).toNat).drop 2).length : Int)) = false := decide_eq_false c58
                have c58b0d := c58b0
                (try simp only [List.length_drop, List.drop_drop] at c58b0d)
                clear c58
                simp only [Option.some.injEq, Prod.mk.injEq] at H
                obtain ⟨rfl, rfl, rfl, rfl⟩ := H
                obtain ⟨i062, hi062, _, hsz62, _⟩ := info_parts info5
                obtain ⟨A62, hcut62, hA62, hC62⟩ := print_drop_of (P := Tryd.prog) (Value.int .u8) 0 24 5 .i64 Tryd.underlying24 hi062 hsz62 A0 c0 l0 a1 (of_decide_eq_true (by first | (with_reducible assumption) | assumption)) (of_decide_eq_true (by first | (with_reducible assumption) | assumption)) HC0.out
                have HR101 := Aside0.mk (Kd.C_of_reads (h1 := fun _ => rfl) (hA62 _ (Kd.reads_of_C HR0.out)))
                have HC101 := Aside0.mk hC62
                clear hA62 hC62 hi062 hsz62
                have p102 : 0 ≤ (0 : Int) := (by omega)
                have q102 : 0 < ((l0.drop (a1 : Int).toNat).length : Int) := of_decide_eq_true (by first | (with_reducible assumption) | assumption)
                obtain ⟨ad102, e102, hx102_0⟩ := Kd.at_int HR101.out 0 p102 q102
                cases e102
                have qi102 : (0 < (l0.drop (a1 : Int).toNat).length) = True := eq_true (by omega)
                have qi102d := qi102
                (try simp only [List.length_drop, List.drop_drop] at qi102d)
                (try rw [show ((0 : Int)).toNat = 0 from rfl] at hx102_0)
                (try rw [Addr.add_zero'] at hx102_0)
                replace p102 := eq_true p102
                replace q102 := eq_true q102
                have q102d := q102
                (try simp only [List.length_drop, List.drop_drop] at q102d)
                have p103 : 0 ≤ (1 : Int) := (by omega)
                have q103 : 1 < ((l0.drop (a1 : Int).toNat).length : Int) := of_decide_eq_true (by first | (with_reducible assumption) | assumption)
                obtain ⟨ad103, e103, hx103_0⟩ := Kd.at_int HR101.out 1 p103 q103
                obtain rfl : ad102 = ad103 := (by injection e103)
                (try simp only [show (1 : Int).toNat = 1 from rfl, Nat.reduceMul, Nat.reduceEqDiff, Go.Addr.add, ↓reduceIte] at hx103_0)
                have qi103 : (1 < (l0.drop (a1 : Int).toNat).length) = True := eq_true (by omega)
                have qi103d := qi103
                (try simp only [List.length_drop, List.drop_drop] at qi103d)
                (try rw [show ((1 : Int)).toNat = 1 from rfl] at hx103_0)
                replace p103 := eq_true p103
                replace q103 := eq_true q103
                have q103d := q103
                (try simp only [List.length_drop, List.drop_drop] at q103d)
                obtain ⟨i063, hi063, _, hsz63, _⟩ := info_parts info5
                obtain ⟨A63, hcut63, hA63, hC63⟩ := print_drop_of (P := Tryd.prog) (Value.int .u8) 0 24 5 .i64 Tryd.underlying24 hi063 hsz63 (some ad102) (c0 - a1.toNat) (l0.drop (a1 : Int).toNat) 2 (by omega) (of_decide_eq_true (by first | (with_reducible assumption) | assumption)) HC101.out
                have hcut63d := hcut63
                (try simp only [List.length_drop, List.drop_drop] at hcut63d)
                have HR104 := Aside0.mk (Kd.C_of_reads (h1 := fun _ => rfl) (hA63 _ (Kd.reads_of_C HR101.out)))
                have HC104 := Aside0.mk hC63
                clear hA63 hC63 hi063 hsz63
                go_enter Tryd.func51, Tryd.ntmps51
                go_wp2
                refine wp_scope_fwd 0 (by rfl) ?_
                go_wp2
                repeat (go_quiet (fail); try go_wp2)
                (try (apply wp_goto; refine And.intro (rfl : (0 : Nat) = 0) ?_; go_wp2))
                (try (go_step3; go_wp2))
                (try simp only [Exit.then, Exit.inBlock, Exit.jump])
                refine bodyPost_ret (results_list (rs := [.tmp 4, .tmp 5, .tmp 6, .tmp 7]) rfl (by simp) (.tmp (.tmp (.tmp (.tmp .nil))))) rfl ?_
                exact ⟨by first | rfl | (simp; done) | (simp [*]; done) | (simp [Nat.sub_sub]; done) | (simp only [List.length_drop, Nat.sub_sub]; done), by repeat (first | exact Drawn0.refl _ | apply Drawn0.step)⟩
          ·rw [if_neg c14] at H
           exact absurd H (by simp)
         ·rw [if_neg c13] at H
          exact absurd H (by simp)
      ·rw [if_neg c8] at H
       exact absurd H (by simp)
     ·rw [if_neg c7] at H
      have c7b0 : decide (0 < ((l0.drop (a1 : Int).toNat).length : Int)) = false := decide_eq_false c7
      have c7b0d := c7b0
      (try simp only [List.length_drop, List.drop_drop] at c7b0d)
      have c7b1 : decide (0 < (l0.drop (a1 : Int).toNat).length) = false := decide_eq_false (by omega)
      have c7b1d := c7b1
      (try simp only [List.length_drop, List.drop_drop] at c7b1d)
      clear c7
      by_cases c64 : ((l0.drop (a1 : Int).toNat).length : Int) < 2
      ·rw [if_pos c64] at H
       have c64b0 : decide (((l0.drop (a1 : Int).toNat).length : Int) < 2) = true := decide_eq_true c64
       have c64b0d := c64b0
       (try simp only [List.length_drop, List.drop_drop] at c64b0d)
       have c64b1 : decide ((l0.drop (a1 : Int).toNat).length < 2) = true := decide_eq_true (by omega)
       have c64b1d := c64b1
       (try simp only [List.length_drop, List.drop_drop] at c64b1d)
       clear c64
       simp only [Option.some.injEq, Prod.mk.injEq] at H
       obtain ⟨rfl, rfl, rfl, rfl⟩ := H
       obtain ⟨i065, hi065, _, hsz65, _⟩ := info_parts info5
       obtain ⟨A65, hcut65, hA65, hC65⟩ := print_drop_of (P := Tryd.prog) (Value.int .u8) 0 24 5 .i64 Tryd.underlying24 hi065 hsz65 A0 c0 l0 a1 (of_decide_eq_true (by first | (with_reducible assumption) | assumption)) (of_decide_eq_true (by first | (with_reducible assumption) | assumption)) HC0.out
       have HR101 := Aside0.mk (Kd.C_of_reads (h1 := fun _ => rfl) (hA65 _ (Kd.reads_of_C HR0.out)))
       have HC101 := Aside0.mk hC65
       clear hA65 hC65 hi065 hsz65
       go_enter Tryd.func51, Tryd.ntmps51
       go_wp2
       refine wp_scope_fwd 0 (by rfl) ?_
       go_wp2
       repeat (go_quiet (fail); try go_wp2)
       (try (apply wp_goto; refine And.intro (rfl : (0 : Nat) = 0) ?_; go_wp2))
       (try (go_step3; go_wp2))
       (try simp only [Exit.then, Exit.inBlock, Exit.jump])
       refine bodyPost_ret (results_list (rs := [.tmp 4, .tmp 5, .tmp 6, .tmp 7]) rfl (by simp) (.tmp (.tmp (.tmp (.tmp .nil))))) rfl ?_
       exact ⟨by first | rfl | (simp; done) | (simp [*]; done) | (simp [Nat.sub_sub]; done) | (simp only [List.length_drop, Nat.sub_sub]; done), by repeat (first | exact Drawn0.refl _ | apply Drawn0.step)⟩
      ·rw [if_neg c64] at H
       have c64b0 : decide (((l0.drop (a1 : Int).toNat).length : Int) < 2) = false := decide_eq_false c64
       have c64b0d := c64b0
       (try simp only [List.length_drop, List.drop_drop] at c64b0d)
       have c64b1 : decide ((l0.drop (a1 : Int).toNat).length < 2) = false := decide_eq_false (by omega)
       have c64b1d := c64b1
       (try simp only [List.length_drop, List.drop_drop] at c64b1d)
       clear c64
       by_cases c66 : 1 < ((l0.drop (a1 : Int).toNat).length : Int)
       ·rw [if_pos c66] at H
        have c66b0 : decide (1 < ((l0.drop (a1 : Int).toNat).length : Int)) = true := decide_eq_true c66
        have c66b0d := c66b0
        (try simp only [List.length_drop, List.drop_drop] at c66b0d)
        have c66b1 : decide (1 < (l0.drop (a1 : Int).toNat).length) = true := decide_eq_true (by omega)
        have c66b1d := c66b1
        (try simp only [List.length_drop, List.drop_drop] at c66b1d)
        clear c66
        by_cases c67 : 2 ≤ ((l0.drop (a1 : Int).toNat).length : Int)
        ·rw [if_pos c67] at H
         have c67b0 := eq_true c67
         have c67b0d := c67b0
         (try simp only [List.length_drop, List.drop_drop] at c67b0d)
         have c67b1 : decide (2 ≤ ((l0.drop (a1 : Int).toNat).length : Int)) = true := decide_eq_true c67
         have c67b1d := c67b1
         (try simp only [List.length_drop, List.drop_drop] at c67b1d)
         clear c67
         by_cases c68 : (wrap64 (rd (l0.drop (a1 : Int).toNat) 1)) = 129
         ·rw [if_pos c68] at H
          have c68b0 : ((wrap64 (rd (l0.drop (a1 : Int).toNat) 1)) == 129) = true := beq_iff_eq.mpr c68
          have c68b1 : ((wrap64 (rd (l0.drop (a1 : Int).toNat) 1)) != 129) = false := bne_eq_false_iff_eq.mpr c68
          clear c68
          by_cases c69 : (((l0.drop (a1 : Int).toNat).drop 2).length : Int) < 1
          ·rw [if_pos c69] at H
           have c69b0 : decide ((((l0.drop (a1 : Int).toNat).drop 2).length : Int) < 1) = true := decide_eq_true c69
           have c69b0d := c69b0
           (try simp only [List.length_drop, List.drop_drop] at c69b0d)
           have c69b1 : decide (((l0.drop (a1 : Int).toNat).drop 2).length < 1) = true := decide_eq_true (by omega)
           have c69b1d := c69b1
           (try simp only [List.length_drop, List.drop_drop] at c69b1d)
           clear c69
           simp only [Option.some.injEq, Prod.mk.injEq] at H
           obtain ⟨rfl, rfl, rfl, rfl⟩ := H
           obtain ⟨i070, hi070, _, hsz70, _⟩ := info_parts info5
           obtain ⟨A70, hcut70, hA70, hC70⟩ := print_drop_of (P := Tryd.prog) (Value.int .u8) 0 24 5 .i64 Tryd.underlying24 hi070 hsz70 A0 c0 l0 a1 (of_decide_eq_true (by first | (with_reducible assumption) | assumption)) (of_decide_eq_true (by first | (with_reducible assumption) | assumption)) HC0.out
           have HR101 := Aside0.mk (Kd.C_of_reads (h1 := fun _ => rfl) (hA70 _ (Kd.reads_of_C HR0.out)))
           have HC101 := Aside0.mk hC70
           clear hA70 hC70 hi070 hsz70
           have p113 : 0 ≤ (1 : Int) := (by omega)
           have q113 : 1 < ((l0.drop (a1 : Int).toNat).length : Int) := of_decide_eq_true (by first | (with_reducible assumption) | assumption)
           obtain ⟨ad113, e113, hx113_0⟩ := Kd.at_int HR101.out 1 p113 q113
           cases e113
           (try simp only [show (1 : Int).toNat = 1 from rfl, Nat.reduceMul, Nat.reduceEqDiff, Go.Addr.add, ↓reduceIte] at hx113_0)
           have qi113 : (1 < (l0.drop (a1 : Int).toNat).length) = True := eq_true (by omega)
           have qi113d := qi113
           (try simp only [List.length_drop, List.drop_drop] at qi113d)
           (try rw [show ((1 : Int)).toNat = 1 from rfl] at hx113_0)
           replace p113 := eq_true p113
           replace q113 := eq_true q113
           have q113d := q113
           (try simp only [List.length_drop, List.drop_drop] at q113d)
           obtain ⟨i071, hi071, _, hsz71, _⟩ := info_parts info5
           obtain ⟨A71, hcut71, hA71, hC71⟩ := print_drop_of (P := Tryd.prog) (Value.int .u8) 0 24 5 .i64 Tryd.underlying24 hi071 hsz71 (some ad113) (c0 - a1.toNat) (l0.drop (a1 : Int).toNat) 2 (by omega) (of_decide_eq_true (by first | (with_reducible assumption) | assumption)) HC101.out
           have hcut71d := hcut71
           (try simp only [List.length_drop, List.drop_drop] at hcut71d)
           have HR114 := Aside0.mk (Kd.C_of_reads (h1 := fun _ => rfl) (hA71 _ (Kd.reads_of_C HR101.out)))
           have HC114 := Aside0.mk hC71
           clear hA71 hC71 hi071 hsz71
           go_enter Tryd.func51, Tryd.ntmps51
           go_wp2
           refine wp_scope_fwd 0 (by rfl) ?_
           go_wp2
           repeat (go_quiet (fail); try go_wp2)
           (try (apply wp_goto; refine And.intro (rfl : (0 : Nat) = 0) ?_; go_wp2))
           (try (go_step3; go_wp2))
           (try simp only [Exit.then, Exit.inBlock, Exit.jump])
           refine bodyPost_ret (results_list (rs := [.tmp 4, .tmp 5, .tmp 6, .tmp 7]) rfl (by simp) (.tmp (.tmp (.tmp (.tmp .nil))))) rfl ?_
           exact ⟨by first | rfl | (simp; done) | (simp [*]; done) | (simp [Nat.sub_sub]; done) | (simp only [List.length_drop, Nat.sub_sub]; done), by repeat (first | exact Drawn0.refl _ | apply Drawn0.step)⟩
          ·rw [if_neg c69] at H
           have c69b0 : decide ((((l0.drop (a1 : Int).toNat).drop 2).length : Int) < 1) = false := decide_eq_false c69
           have c69b0d := c69b0
           (try simp only [List.length_drop, List.drop_drop] at c69b0d)
           have c69b1 : decide (((l0.drop (a1 : Int).toNat).drop 2).length < 1) = false := decide_eq_false (by omega)
           have c69b1d := c69b1
           (try simp only [List.length_drop, List.drop_drop] at c69b1d)
           clear c69
           by_cases c72 : 0 < (((l0.drop (a1 : Int).toNat).drop 2).length : Int)
           ·rw [if_pos c72] at H
            have c72b0 : decide (0 < (((l0.drop (a1 : Int).toNat).drop 2).length : Int)) = true := decide_eq_true c72
            have c72b0d := c72b0
            (try simp only [List.length_drop, List.drop_drop] at c72b0d)
            have c72b1 : decide (0 < ((l0.drop (a1 : Int).toNat).drop 2).length) = true := decide_eq_true (by omega)
            have c72b1d := c72b1
            (try simp only [List.length_drop, List.drop_drop] at c72b1d)
            clear c72
            by_cases c73 : 1 ≤ (((l0.drop (a1 : Int).toNat).drop 2).length : Int)
            ·rw [if_pos c73] at H
             have c73b0 := eq_true c73
             have c73b0d := c73b0
             (try simp only [List.length_drop, List.drop_drop] at c73b0d)
             have c73b1 : decide (1 ≤ (((l0.drop (a1 : Int).toNat).drop 2).length : Int)) = true := decide_eq_true c73
             have c73b1d := c73b1
             (try simp only [List.length_drop, List.drop_drop] at c73b1d)
             clear c73
             by_cases c74 : (wrap64 (rd ((l0.drop (a1 : Int).toNat).drop 2) 0)) < 128
             ·rw [if_pos c74] at H
              have c74b0 : decide ((wrap64 (rd ((l0.drop (a1 : Int).toNat).drop 2) 0)) < 128) = true := decide_eq_true c74
              have c74b0d := c74b0
              (try simp only [List.length_drop, List.drop_drop] at c74b0d)
              clear c74
              simp only [Option.some.injEq, Prod.mk.injEq] at H
              obtain ⟨rfl, rfl, rfl, rfl⟩ := H
              obtain ⟨i075, hi075, _, hsz75, _⟩ := info_parts info5
              obtain ⟨A75, hcut75, hA75, hC75⟩ := print_drop_of (P := Tryd.prog) (Value.int .u8) 0 24 5 .i64 Tryd.underlying24 hi075 hsz75 A0 c0 l0 a1 (of_decide_eq_true (by first | (with_reducible assumption) | assumption)) (of_decide_eq_true (by first | (with_reducible assumption) | assumption)) HC0.out
              have HR101 := Aside0.mk (Kd.C_of_reads (h1 := fun _ => rfl) (hA75 _ (Kd.reads_of_C HR0.out)))
              have HC101 := Aside0.mk hC75
              clear hA75 hC75 hi075 hsz75
              have p113 : 0 ≤ (1 : Int) := (by omega)
              have q113 : 1 < ((l0.drop (a1 : Int).toNat).length : Int) := of_decide_eq_true (by first | (with_reducible assumption) | assumption)
              obtain ⟨ad113, e113, hx113_0⟩ := Kd.at_int HR101.out 1 p113 q113
              cases e113
              (try simp only [show (1 : Int).toNat = 1 from rfl, Nat.reduceMul, Nat.reduceEqDiff, Go.Addr.add, ↓reduceIte] at hx113_0)
              have qi113 : (1 < (l0.drop (a1 : Int).toNat).length) = True := eq_true (by omega)
              have qi113d := qi113
              (try simp only [List.length_drop, List.drop_drop] at qi113d)
              (try rw [show ((1 : Int)).toNat = 1 from rfl] at hx113_0)
              replace p113 := eq_true p113
              replace q113 := eq_true q113
              have q113d := q113
              (try simp only [List.length_drop, List.drop_drop] at q113d)
              obtain ⟨i076, hi076, _, hsz76, _⟩ := info_parts info5
              obtain ⟨A76, hcut76, hA76, hC76⟩ := print_drop_of (P := Tryd.prog) (Value.int .u8) 0 24 5 .i64 Tryd.underlying24 hi076 hsz76 (some ad113) (c0 - a1.toNat) (l0.drop (a1 : Int).toNat) 2 (by omega) (of_decide_eq_true (by first | (with_reducible assumption) | assumption)) HC101.out
              have hcut76d := hcut76
              (try simp only [List.length_drop, List.drop_drop] at hcut76d)
              have HR114 := Aside0.mk (Kd.C_of_reads (h1 := fun _ => rfl) (hA76 _ (Kd.reads_of_C HR101.out)))
              have HC114 := Aside0.mk hC76
              clear hA76 hC76 hi076 hsz76
              have p115 : 0 ≤ (0 : Int) := (by omega)
              have q115 : 0 < (((l0.drop (a1 : Int).toNat).drop 2).length : Int) := of_decide_eq_true (by first | (with_reducible assumption) | assumption)
              obtain ⟨ad115, e115, hx115_0⟩ := Kd.at_int HR114.out 0 p115 q115
              cases e115
              have qi115 : (0 < ((l0.drop (a1 : Int).toNat).drop 2).length) = True := eq_true (by omega)
              have qi115d := qi115
              (try simp only [List.length_drop, List.drop_drop] at qi115d)
              (try rw [show ((0 : Int)).toNat = 0 from rfl] at hx115_0)
              (try rw [Addr.add_zero'] at hx115_0)
              replace p115 := eq_true p115
              replace q115 := eq_true q115
              have q115d := q115
              (try simp only [List.length_drop, List.drop_drop] at q115d)
              obtain ⟨i077, hi077, _, hsz77, _⟩ := info_parts info5
              obtain ⟨A77, hcut77, hA77, hC77⟩ := print_drop_of (P := Tryd.prog) (Value.int .u8) 0 24 5 .i64 Tryd.underlying24 hi077 hsz77 (some ad115) ((c0 - a1.toNat) - 2) ((l0.drop (a1 : Int).toNat).drop 2) 1 (by omega) (of_decide_eq_true (by first | (with_reducible assumption) | assumption)) HC114.out
              have hcut77d := hcut77
              (try simp only [List.length_drop, List.drop_drop] at hcut77d)
              have HR116 := Aside0.mk (Kd.C_of_reads (h1 := fun _ => rfl) (hA77 _ (Kd.reads_of_C HR114.out)))
              have HC116 := Aside0.mk hC77
              clear hA77 hC77 hi077 hsz77
              go_enter Tryd.func51, Tryd.ntmps51
              go_wp2
              refine wp_scope_fwd 0 (by rfl) ?_
              go_wp2
              repeat (go_quiet (fail); try go_wp2)
              (try (apply wp_goto; refine And.intro (rfl : (0 : Nat) = 0) ?_; go_wp2))
              (try (go_step3; go_wp2))
              (try simp only [Exit.then, Exit.inBlock, Exit.jump])
              refine bodyPost_ret (results_list (rs := [.tmp 4, .tmp 5, .tmp 6, .tmp 7]) rfl (by simp) (.tmp (.tmp (.tmp (.tmp .nil))))) rfl ?_
              exact ⟨by first | rfl | (simp; done) | (simp [*]; done) | (simp [Nat.sub_sub]; done) | (simp only [List.length_drop, Nat.sub_sub]; done), by repeat (first | exact Drawn0.refl _ | apply Drawn0.step)⟩
             ·rw [if_neg c74] at H
              have c74b0 : decide ((wrap64 (rd ((l0.drop (a1 : Int).toNat).drop 2) 0)) < 128) = false := decide_eq_false c74
              have c74b0d := c74b0
              (try simp only [List.length_drop, List.drop_drop] at c74b0d)
              clear c74
              by_cases c78 : (wrap64 (rd ((l0.drop (a1 : Int).toNat).drop 2) 0)) ≤ ((((l0.drop (a1 : Int).toNat).drop 2).drop 1).length : Int)
              ·rw [if_pos c78] at H
               have c78b0 : decide ((wrap64 (rd ((l0.drop (a1 : Int).toNat).drop 2) 0)) ≤ ((((l0.drop (a1 : Int).toNat).drop 2).drop 1).length : Int)) = true := decide_eq_true c78
               have c78b0d := c78b0
               (try simp only [List.length_drop, List.drop_drop] at c78b0d)
               clear c78
               by_cases c79 : a1 < (l0.length : Int)
               ·rw [if_pos c79] at H
                have c79b0 : decide (a1 < (l0.length : Int)) = true := decide_eq_true c79
                clear c79
                simp only [Option.some.injEq, Prod.mk.injEq] at H
                obtain ⟨rfl, rfl, rfl, rfl⟩ := H
                obtain ⟨i080, hi080, _, hsz80, _⟩ := info_parts info5
                obtain ⟨A80, hcut80, hA80, hC80⟩ := print_drop_of (P := Tryd.prog) (Value.int .u8) 0 24 5 .i64 Tryd.underlying24 hi080 hsz80 A0 c0 l0 a1 (of_decide_eq_true (by first | (with_reducible assumption) | assumption)) (of_decide_eq_true (by first | (with_reducible assumption) | assumption)) HC0.out
                have HR101 := Aside0.mk (Kd.C_of_reads (h1 := fun _ => rfl) (hA80 _ (Kd.reads_of_C HR0.out)))
                have HC101 := Aside0.mk hC80
                clear hA80 hC80 hi080 hsz80
                have p113 : 0 ≤ (1 : Int) := (by omega)
                have q113 : 1 < ((l0.drop (a1 : Int).toNat).length : Int) := of_decide_eq_true (by first | (with_reducible assumption) | assumption)
                obtain ⟨ad113, e113, hx113_0⟩ := Kd.at_int HR101.out 1 p113 q113
                cases e113
                (try simp only [show (1 : Int).toNat = 1 from rfl, Nat.reduceMul, Nat.reduceEqDiff, Go.Addr.add, ↓reduceIte] at hx113_0)
                have qi113 : (1 < (l0.drop (a1 : Int).toNat).length) = True := eq_true (by omega)
                have qi113d := qi113
                (try simp only [List.length_drop, List.drop_drop] at qi113d)
                (try rw [show ((1 : Int)).toNat = 1 from rfl] at hx113_0)
                replace p113 := eq_true p113
                replace q113 := eq_true q113
                have q113d := q113
                (try simp only [List.length_drop, List.drop_drop] at q113d)
                obtain ⟨i081, hi081, _, hsz81, _⟩ := info_parts info5
                obtain ⟨A81, hcut81, hA81, hC81⟩ := print_drop_of (P := Tryd.prog) (Value.int .u8) 0 24 5 .i64 Tryd.underlying24 hi081 hsz81 (some ad113) (c0 - a1.toNat) (l0.drop (a1 : Int).toNat) 2 (by omega) (of_decide_eq_true (by first | (with_reducible assumption) | assumption)) HC101.out
                have hcut81d := hcut81
                (try simp only [List.length_drop, List.drop_drop] at hcut81d)
                have HR114 := Aside0.mk (Kd.C_of_reads (h1 := fun _ => rfl) (hA81 _ (Kd.reads_of_C HR101.out)))
                have HC114 := Aside0.mk hC81
                clear hA81 hC81 hi081 hsz81
                have p115 : 0 ≤ (0 : Int) := (by omega)
                have q115 : 0 < (((l0.drop (a1 : Int).toNat).drop 2).length : Int) := of_decide_eq_true (by first | (with_reducible assumption) | assumption)
                obtain ⟨ad115, e115, hx115_0⟩ := Kd.at_int HR114.out 0 p115 q115
                cases e115
                have qi115 : (0 < ((l0.drop (a1 : Int).toNat).drop 2).length) = True := eq_true (by omega)
                have qi115d := qi115
                (try simp only [List.length_drop, List.drop_drop] at qi115d)
                (try rw [show ((0 : Int)).toNat = 0 from rfl] at hx115_0)
                (try rw [Addr.add_zero'] at hx115_0)
                replace p115 := eq_true p115
                replace q115 := eq_true q115
                have q115d := q115
                (try simp only [List.length_drop, List.drop_drop] at q115d)
                obtain ⟨i082, hi082, _, hsz82, _⟩ := info_parts info5
                obtain ⟨A82, hcut82, hA82, hC82⟩ := print_drop_of (P := Tryd.prog) (Value.int .u8) 0 24 5 .i64 Tryd.underlying24 hi082 hsz82 (some ad115) ((c0 - a1.toNat) - 2) ((l0.drop (a1 : Int).toNat).drop 2) 1 (by omega) (of_decide_eq_true (by first | (with_reducible assumption) | assumption)) HC114.out
                have hcut82d := hcut82
                (try simp only [List.length_drop, List.drop_drop] at hcut82d)
                have HR116 := Aside0.mk (Kd.C_of_reads (h1 := fun _ => rfl) (hA82 _ (Kd.reads_of_C HR114.out)))
                have HC116 := Aside0.mk hC82
                clear hA82 hC82 hi082 hsz82
                have p117 : 0 ≤ (a1 : Int) := of_decide_eq_true (by first | (with_reducible assumption) | assumption)
                have q117 : a1 < (l0.length : Int) := of_decide_eq_true (by first | (with_reducible assumption) | assumption)
                obtain ⟨ad117, e117, hx117_0⟩ := Kd.at_int HR0.out a1 p117 q117
                cases e117
                replace p117 := eq_true p117
                replace q117 := eq_true q117
                go_enter Tryd.func51, Tryd.ntmps51
                go_wp2
                refine wp_scope_fwd 0 (by rfl) ?_
                go_wp2
                repeat (go_quiet (fail); try go_wp2)
                (try (apply wp_goto; refine And.intro (rfl : (0 : Nat) = 0) ?_; go_wp2))
                (try (go_step3; go_wp2))
                (try simp only [Exit.then, Exit.inBlock, Exit.jump])
                refine bodyPost_ret (results_list (rs := [.tmp 4, .tmp 5, .tmp 6, .tmp 7]) rfl (by simp) (.tmp (.tmp (.tmp (.tmp .nil))))) rfl ?_
                exact ⟨by first | rfl | (simp; done) | (simp [*]; done) | (simp [Nat.sub_sub]; done) | (simp only [List.length_drop, Nat.sub_sub]; done), by repeat (first | exact Drawn0.refl _ | apply Drawn0.step)⟩
               ·rw [if_neg c79] at H
                exact absurd H (by simp)
              ·rw [if_neg c78] at H
               have c78b0 : decide ((wrap64 (rd ((l0.drop (a1 : Int).toNat).drop 2) 0)) ≤ ((((l0.drop (a1 : Int).toNat).drop 2).drop 1).length : Int)) = false := decide_eq_false c78
               have c78b0d := c78b0
               (try simp only [List.length_drop, List.drop_drop] at c78b0d)
               clear c78
               simp only [Option.some.injEq, Prod.mk.injEq] at H
               obtain ⟨rfl, rfl, rfl, rfl⟩ := H
               obtain ⟨i083, hi083, _, hsz83, _⟩ := info_parts info5
               obtain ⟨A83, hcut83, hA83, hC83⟩ := print_drop_of (P := Tryd.prog) (Value.int .u8) 0 24 5 .i64 Tryd.underlying24 hi083 hsz83 A0 c0 l0 a1 (of_decide_eq_true (by first | (with_reducible assumption) | assumption)) (of_decide_eq_true (by first | (with_reducible assumption) | assumption)) HC0.out
               have HR101 := Aside0.mk (Kd.C_of_reads (h1 := fun _ => rfl) (hA83 _ (Kd.reads_of_C HR0.out)))
               have HC101 := Aside0.mk hC83
               clear hA83 hC83 hi083 hsz83
               have p113 : 0 ≤ (1 : Int) := (by omega)
               have q113 : 1 < ((l0.drop (a1 : Int).toNat).length : Int) := of_decide_eq_true (by first | (with_reducible assumption) | assumption)
               obtain ⟨ad113, e113, hx113_0⟩ := Kd.at_int HR101.out 1 p113 q113
               cases e113
               (try simp only [show (1 : Int).toNat = 1 from rfl, Nat.reduceMul, Nat.reduceEqDiff, Go.Addr.add, ↓reduceIte] at hx113_0)
               have qi113 : (1 < (l0.drop (a1 : Int).toNat).length) = True := eq_true (by omega)
               have qi113d := qi113
               (try simp only [List.length_drop, List.drop_drop] at qi113d)
               (try rw [show ((1 : Int)).toNat = 1 from rfl] at hx113_0)
               replace p113 := eq_true p113
               replace q113 := eq_true q113
               have q113d := q113
               (try simp only [List.length_drop, List.drop_drop] at q113d)
               obtain ⟨i084, hi084, _, hsz84, _⟩ := info_parts info5
               obtain ⟨A84, hcut84, hA84, hC84⟩ := print_drop_of (P := Tryd.prog) (Value.int .u8) 0 24 5 .i64 Tryd.underlying24 hi084 hsz84 (some ad113) (c0 - a1.toNat) (l0.drop (a1 : Int).toNat) 2 (by omega) (of_decide_eq_true (by first | (with_reducible assumption) | assumption)) HC101.out
               have hcut84d := hcut84
               (try simp only [List.length_drop, List.drop_drop] at hcut84d)
               have HR114 := Aside0.mk (Kd.C_of_reads (h1 := fun _ => rfl) (hA84 _ (Kd.reads_of_C HR101.out)))
               have HC114 := Aside0.mk hC84
               clear hA84 hC84 hi084 hsz84
               have p115 : 0 ≤ (0 : Int) := (by omega)
               have q115 : 0 < (((l0.drop (a1 : Int).toNat).drop 2).length : Int) := of_decide_eq_true (by first | (with_reducible assumption) | assumption)
               obtain ⟨ad115, e115, hx115_0⟩ := Kd.at_int HR114.out 0 p115 q115
               cases e115
               have qi115 : (0 < ((l0.drop (a1 : Int).toNat).drop 2).length) = True := eq_true (by omega)
               have qi115d := qi115
               (try simp only [List.length_drop, List.drop_drop] at qi115d)
               (try rw [show ((0 : Int)).toNat = 0 from rfl] at hx115_0)
               (try rw [Addr.add_zero'] at hx115_0)
               replace p115 := eq_true p115
               replace q115 := eq_true q115
               have q115d := q115
               (try simp only [List.length_drop, List.drop_drop] at q115d)
               obtain ⟨i085, hi085, _, hsz85, _⟩ := info_parts info5
               obtain ⟨A85, hcut85, hA85, hC85⟩ := print_drop_of (P := Tryd.prog) (Value.int .u8) 0 24 5 .i64 Tryd.underlying24 hi085 hsz85 (some ad115) ((c0 - a1.toNat) - 2) ((l0.drop (a1 : Int).toNat).drop 2) 1 (by omega) (of_decide_eq_true (by first | (with_reducible assumption) | assumption)) HC114.out
               have hcut85d := hcut85
               (try simp only [List.length_drop, List.drop_drop] at hcut85d)
               have HR116 := Aside0.mk (Kd.C_of_reads (h1 := fun _ => rfl) (hA85 _ (Kd.reads_of_C HR114.out)))
               have HC116 := Aside0.mk hC85
               clear hA85 hC85 hi085 hsz85
               go_enter Tryd.func51, Tryd.ntmps51
               go_wp2
               refine wp_scope_fwd 0 (by rfl) ?_
               go_wp2
               repeat (go_quiet (fail); try go_wp2)
               (try (apply wp_goto; refine And.intro (rfl : (0 : Nat) = 0) ?_; go_wp2))
               (try (go_step3; go_wp2))
               (try simp only [Exit.then, Exit.inBlock, Exit.jump])
               refine bodyPost_ret (results_list (rs := [.tmp 4, .tmp 5, .tmp 6, .tmp 7]) rfl (by simp) (.tmp (.tmp (.tmp (.tmp .nil))))) rfl ?_
               exact ⟨by first | rfl | (simp; done) | (simp [*]; done) | (simp [Nat.sub_sub]; done) | (simp only [List.length_drop, Nat.sub_sub]; done), by repeat (first | exact Drawn0.refl _ | apply Drawn0.step)⟩
            ·rw [if_neg c73] at H
             exact absurd H (by simp)
           ·rw [if_neg c72] at H
            exact absurd H (by simp)
         ·rw [if_neg c68] at H
          have c68b0 : ((wrap64 (rd (l0.drop (a1 : Int).toNat) 1)) == 129) = false := beq_eq_false_iff_ne.mpr c68
          have c68b1 : ((wrap64 (rd (l0.drop (a1 : Int).toNat) 1)) != 129) = true := bne_iff_ne.mpr c68
          by_cases c86 : (wrap64 (rd (l0.drop (a1 : Int).toNat) 1)) = 130
          ·rw [if_pos c86] at H
           have c86b0 : ((wrap64 (rd (l0.drop (a1 : Int).toNat) 1)) == 130) = true := beq_iff_eq.mpr c86
           have c86b1 : ((wrap64 (rd (l0.drop (a1 : Int).toNat) 1)) != 130) = false := bne_eq_false_iff_eq.mpr c86
           clear c86
           by_cases c87 : (((l0.drop (a1 : Int).toNat).drop 2).length : Int) < 2
           ·rw [if_pos c87] at H
            have c87b0 : decide ((((l0.drop (a1 : Int).toNat).drop 2).length : Int) < 2) = true := decide_eq_true c87
            have c87b0d := c87b0
            (try simp only [List.length_drop, List.drop_drop] at c87b0d)
            have c87b1 : decide (((l0.drop (a1 : Int).toNat).drop 2).length < 2) = true := decide_eq_true (by omega)
            have c87b1d := c87b1
            (try simp only [List.length_drop, List.drop_drop] at c87b1d)
            clear c87
            simp only [Option.some.injEq, Prod.mk.injEq] at H
            obtain ⟨rfl, rfl, rfl, rfl⟩ := H
            obtain ⟨i088, hi088, _, hsz88, _⟩ := info_parts info5
            obtain ⟨A88, hcut88, hA88, hC88⟩ := print_drop_of (P := Tryd.prog) (Value.int .u8) 0 24 5 .i64 Tryd.underlying24 hi088 hsz88 A0 c0 l0 a1 (of_decide_eq_true (by first | (with_reducible assumption) | assumption)) (of_decide_eq_true (by first | (with_reducible assumption) | assumption)) HC0.out
            have HR101 := Aside0.mk (Kd.C_of_reads (h1 := fun _ => rfl) (hA88 _ (Kd.reads_of_C HR0.out)))
            have HC101 := Aside0.mk hC88
            clear hA88 hC88 hi088 hsz88
            have p113 : 0 ≤ (1 : Int) := (by omega)
            have q113 : 1 < ((l0.drop (a1 : Int).toNat).length : Int) := of_decide_eq_true (by first | (with_reducible assumption) | assumption)
            obtain ⟨ad113, e113, hx113_0⟩ := Kd.at_int HR101.out 1 p113 q113
            cases e113
            (try simp only [show (1 : Int).toNat = 1 from rfl, Nat.reduceMul, Nat.reduceEqDiff, Go.Addr.add, ↓reduceIte] at hx113_0)
            have qi113 : (1 < (l0.drop (a1 : Int).toNat).length) = True := eq_true (by omega)
            have qi113d := qi113
            (try simp only [List.length_drop, List.drop_drop] at qi113d)
            (try rw [show ((1 : Int)).toNat = 1 from rfl] at hx113_0)
            replace p113 := eq_true p113
            replace q113 := eq_true q113
            have q113d := q113
            (try simp only [List.length_drop, List.drop_drop] at q113d)
            obtain ⟨i089, hi089, _, hsz89, _⟩ := info_parts info5
            obtain ⟨A89, hcut89, hA89, hC89⟩ := print_drop_of (P := Tryd.prog) (Value.int .u8) 0 24 5 .i64 Tryd.underlying24 hi089 hsz89 (some ad113) (c0 - a1.toNat) (l0.drop (a1 : Int).toNat) 2 (by omega) (of_decide_eq_true (by first | (with_reducible assumption) | assumption)) HC101.out
            have hcut89d := hcut89
            (try simp only [List.length_drop, List.drop_drop] at hcut89d)
            have HR114 := Aside0.mk (Kd.C_of_reads (h1 := fun _ => rfl) (hA89 _ (Kd.reads_of_C HR101.out)))
            have HC114 := Aside0.mk hC89
            clear hA89 hC89 hi089 hsz89
            go_enter Tryd.func51, Tryd.ntmps51
            go_wp2
            refine wp_scope_fwd 0 (by rfl) ?_
            go_wp2
            repeat (go_quiet (fail); try go_wp2)
            (try (apply wp_goto; refine And.intro (rfl : (0 : Nat) = 0) ?_; go_wp2))
            (try (go_step3; go_wp2))
            (try simp only [Exit.then, Exit.inBlock, Exit.jump])
            refine bodyPost_ret (results_list (rs := [.tmp 4, .tmp 5, .tmp 6, .tmp 7]) rfl (by simp) (.tmp (.tmp (.tmp (.tmp .nil))))) rfl ?_
            exact ⟨by first | rfl | (simp; done) | (simp [*]; done) | (simp [Nat.sub_sub]; done) | (simp only [List.length_drop, Nat.sub_sub]; done), by repeat (first | exact Drawn0.refl _ | apply Drawn0.step)⟩
           ·rw [if_neg c87] at H
            have c87b0 : decide ((((l0.drop (a1 : Int).toNat).drop 2).length : Int) < 2) = false := decide_eq_false c87
            have c87b0d := c87b0
            (try simp only [List.length_drop, List.drop_drop] at c87b0d)
            have c87b1 : decide (((l0.drop (a1 : Int).toNat).drop 2).length < 2) = false := decide_eq_false (by omega)
            have c87b1d := c87b1
            (try simp only [List.length_drop, List.drop_drop] at c87b1d)
            clear c87
            by_cases c90 : 0 < (((l0.drop (a1 : Int).toNat).drop 2).length : Int)
            ·rw [if_pos c90] at H
             have c90b0 : decide (0 < (((l0.drop (a1 : Int).toNat).drop 2).length : Int)) = true := decide_eq_true c90
             have c90b0d := c90b0
             (try simp only [List.length_drop, List.drop_drop] at c90b0d)
             have c90b1 : decide (0 < ((l0.drop (a1 : Int).toNat).drop 2).length) = true := decide_eq_true (by omega)
             have c90b1d := c90b1
             (try simp only [List.length_drop, List.drop_drop] at c90b1d)
             clear c90
             by_cases c91 : 1 < (((l0.drop (a1 : Int).toNat).drop 2).length : Int)
             ·rw [if_pos c91] at H
              have c91b0 : decide (1 < (((l0.drop (a1 : Int).toNat).drop 2).length : Int)) = true := decide_eq_true c91
              have c91b0d := c91b0
              (try simp only [List.length_drop, List.drop_drop] at c91b0d)
              have c91b1 : decide (1 < ((l0.drop (a1 : Int).toNat).drop 2).length) = true := decide_eq_true (by omega)
              have c91b1d := c91b1
              (try simp only [List.length_drop, List.drop_drop] at c91b1d)
              clear c91
              by_cases c92 : 2 ≤ (((l0.drop (a1 : Int).toNat).drop 2).length : Int)
              ·rw [if_pos c92] at H
               have c92b0 := eq_true c92
               have c92b0d := c92b0
               (try simp only [List.length_drop, List.drop_drop] at c92b0d)
               have c92b1 : decide (2 ≤ (((l0.drop (a1 : Int).toNat).drop 2).length : Int)) = true := decide_eq_true c92
               have c92b1d := c92b1
               (try simp only [List.length_drop, List.drop_drop] at c92b1d)
               clear c92
               by_cases c93 : (wrap64 ((wrap64 ((wrap64 (rd ((l0.drop (a1 : Int).toNat).drop 2) 0)) * 256)) + (wrap64 (rd ((l0.drop (a1 : Int).toNat).drop 2) 1)))) < 256
               ·rw [if_pos c93] at H
                have c93b0 : decide ((wrap64 ((wrap64 ((wrap64 (rd ((l0.drop (a1 : Int).toNat).drop 2) 0)) * 256)) + (wrap64 (rd ((l0.drop (a1 : Int).toNat).drop 2) 1)))) < 256) = true := decide_eq_true c93
                have c93b0d := c93b0
                (try simp only [List.length_drop, List.drop_drop] at c93b0d)
                clear c93
                simp only [Option.some.injEq, Prod.mk.injEq] at H
                obtain ⟨rfl, rfl, rfl, rfl⟩ := H
                obtain ⟨i094, hi094, _, hsz94, _⟩ := info_parts info5
                obtain ⟨A94, hcut94, hA94, hC94⟩ := print_drop_of (P := Tryd.prog) (Value.int .u8) 0 24 5 .i64 Tryd.underlying24 hi094 hsz94 A0 c0 l0 a1 (of_decide_eq_true (by first | (with_reducible assumption) | assumption)) (of_decide_eq_true (by first | (with_reducible assumption) | assumption)) HC0.out
                have HR101 := Aside0.mk (Kd.C_of_reads (h1 := fun _ => rfl) (hA94 _ (Kd.reads_of_C HR0.out)))
                have HC101 := Aside0.mk hC94
                clear hA94 hC94 hi094 hsz94
                have p113 : 0 ≤ (1 : Int) := (by omega)
                have q113 : 1 < ((l0.drop (a1 : Int).toNat).length : Int) := of_decide_eq_true (by first | (with_reducible assumption) | assumption)
                obtain ⟨ad113, e113, hx113_0⟩ := Kd.at_int HR101.out 1 p113 q113
                cases e113
                (try simp only [show (1 : Int).toNat = 1 from rfl, Nat.reduceMul, Nat.reduceEqDiff, Go.Addr.add, ↓reduceIte] at hx113_0)
                have qi113 : (1 < (l0.drop (a1 : Int).toNat).length) = True := eq_true (by omega)
                have qi113d := qi113
                (try simp only [List.length_drop, List.drop_drop] at qi113d)
                (try rw [show ((1 : Int)).toNat = 1 from rfl] at hx113_0)
                replace p113 := eq_true p113
                replace q113 := eq_true q113
                have q113d := q113
                (try simp only [List.length_drop, List.drop_drop] at q113d)
                obtain ⟨i095, hi095, _, hsz95, _⟩ := info_parts info5
                obtain ⟨A95, hcut95, hA95, hC95⟩ := print_drop_of (P := Tryd.prog) (Value.int .u8) 0 24 5 .i64 Tryd.underlying24 hi095 hsz95 (some ad113) (c0 - a1.toNat) (l0.drop (a1 : Int).toNat) 2 (by omega) (of_decide_eq_true (by first | (with_reducible assumption) | assumption)) HC101.out
                have hcut95d := hcut95
                (try simp only [List.length_drop, List.drop_drop] at hcut95d)
                have HR114 := Aside0.mk (Kd.C_of_reads (h1 := fun _ => rfl) (hA95 _ (Kd.reads_of_C HR101.out)))
                have HC114 := Aside0.mk hC95
                clear hA95 hC95 hi095 hsz95
                have p118 : 0 ≤ (0 : Int) := (by omega)
                have q118 : 0 < (((l0.drop (a1 : Int).toNat).drop 2).length : Int) := of_decide_eq_true (by first | (with_reducible assumption) | assumption)
                obtain ⟨ad118, e118, hx118_0⟩ := Kd.at_int HR114.out 0 p118 q118
                cases e118
                have qi118 : (0 < ((l0.drop (a1 : Int).toNat).drop 2).length) = True := eq_true (by omega)
                have qi118d := qi118
                (try simp only [List.length_drop, List.drop_drop] at qi118d)
                (try rw [show ((0 : Int)).toNat = 0 from rfl] at hx118_0)
                (try rw [Addr.add_zero'] at hx118_0)
                replace p118 := eq_true p118
                replace q118 := eq_true q118
                have q118d := q118
                (try simp only [List.length_drop, List.drop_drop] at q118d)
                have p119 : 0 ≤ (1 : Int) := (by omega)
                have q119 : 1 < (((l0.drop (a1 : Int).toNat).drop 2).length : Int) := of_decide_eq_true (by first | (with_reducible assumption) | assumption)
                obtain ⟨ad119, e119, hx119_0⟩ := Kd.at_int HR114.out 1 p119 q119
                obtain rfl : ad118 = ad119 := (by injection e119)
                (try simp only [show (1 : Int).toNat = 1 from rfl, Nat.reduceMul, Nat.reduceEqDiff, Go.Addr.add, ↓reduceIte] at hx119_0)
                have qi119 : (1 < ((l0.drop (a1 : Int).toNat).drop 2).length) = True := eq_true (by omega)
                have qi119d := qi119
                (try simp only [List.length_drop, List.drop_drop] at qi119d)
                (try rw [show ((1 : Int)).toNat = 1 from rfl] at hx119_0)
                replace p119 := eq_true p119
                replace q119 := eq_true q119
                have q119d := q119
                (try simp only [List.length_drop, List.drop_drop] at q119d)
                obtain ⟨i096, hi096, _, hsz96, _⟩ := info_parts info5
                obtain ⟨A96, hcut96, hA96, hC96⟩ := print_drop_of (P := Tryd.prog) (Value.int .u8) 0 24 5 .i64 Tryd.underlying24 hi096 hsz96 (some ad118) ((c0 - a1.toNat) - 2) ((l0.drop (a1 : Int).toNat).drop 2) 2 (by omega) (of_decide_eq_true (by first | (with_reducible assumption) | assumption)) HC114.out
                have hcut96d := hcut96
                (try simp only [List.length_drop, List.drop_drop] at hcut96d)
                have HR120 := Aside0.mk (Kd.C_of_reads (h1 := fun _ => rfl) (hA96 _ (Kd.reads_of_C HR114.out)))
                have HC120 := Aside0.mk hC96
                clear hA96 hC96 hi096 hsz96
                go_enter Tryd.func51, Tryd.ntmps51
                go_wp2
                refine wp_scope_fwd 0 (by rfl) ?_
                go_wp2
                repeat (go_quiet (fail); try go_wp2)
                (try (apply wp_goto; refine And.intro (rfl : (0 : Nat) = 0) ?_; go_wp2))
                (try (go_step3; go_wp2))
                (try simp only [Exit.then, Exit.inBlock, Exit.jump])
                refine bodyPost_ret (results_list (rs := [.tmp 4, .tmp 5, .tmp 6, .tmp 7]) rfl (by simp) (.tmp (.tmp (.tmp (.tmp .nil))))) rfl ?_
                exact ⟨by first | rfl | (simp; done) | (simp [*]; done) | (simp [Nat.sub_sub]; done) | (simp only [List.length_drop, Nat.sub_sub]; done), by repeat (first | exact Drawn0.refl _ | apply Drawn0.step)⟩
               ·rw [if_neg c93] at H
                have c93b0 : decide ((wrap64 ((wrap64 ((wrap64 (rd ((l0.drop (a1 : Int).toNat).drop 2) 0)) * 256)) + (wrap64 (rd ((l0.drop (a1 : Int).toNat).drop 2) 1)))) < 256) = false := decide_eq_false c93
                have c93b0d := c93b0
                (try simp only [List.length_drop, List.drop_drop] at c93b0d)
                clear c93
                by_cases c97 : (wrap64 ((wrap64 ((wrap64 (rd ((l0.drop (a1 : Int).toNat).drop 2) 0)) * 256)) + (wrap64 (rd ((l0.drop (a1 : Int).toNat).drop 2) 1)))) ≤ ((((l0.drop (a1 : Int).toNat).drop 2).drop 2).length : Int)
                ·rw [if_pos c97] at H
                 have c97b0 : decide ((wrap64 ((wrap64 ((wrap64 (rd ((l0.drop (a1 : Int).toNat).drop 2) 0)) * 256)) + (wrap64 (rd ((l0.drop (a1 : Int).toNat).drop 2) 1)))) ≤ ((((l0.drop (a1 : Int).toNat).drop 2).drop 2).length : Int)) = true := decide_eq_true c97
                 have c97b0d := c97b0
                 (try simp only [List.length_drop, List.drop_drop] at c97b0d)
                 clear c97
                 by_cases c98 : a1 < (l0.length : Int)
                 ·rw [if_pos c98] at H
                  have c98b0 : decide (a1 < (l0.length : Int)) = true := decide_eq_true c98
                  clear c98
                  simp only [Option.some.injEq, Prod.mk.injEq] at H
                  obtain ⟨rfl, rfl, rfl, rfl⟩ := H
                  obtain ⟨i099, hi099, _, hsz99, _⟩ := info_parts info5
                  obtain ⟨A99, hcut99, hA99, hC99⟩ := print_drop_of (P := Tryd.prog) (Value.int .u8) 0 24 5 .i64 Tryd.underlying24 hi099 hsz99 A0 c0 l0 a1 (of_decide_eq_true (by first | (with_reducible assumption) | assumption)) (of_decide_eq_true (by first | (with_reducible assumption) | assumption)) HC0.out
                  have HR101 := Aside0.mk (Kd.C_of_reads (h1 := fun _ => rfl) (hA99 _ (Kd.reads_of_C HR0.out)))
                  have HC101 := Aside0.mk hC99
                  clear hA99 hC99 hi099 hsz99
                  have p113 : 0 ≤ (1 : Int) := (by omega)
                  have q113 : 1 < ((l0.drop (a1 : Int).toNat).length : Int) := of_decide_eq_true (by first | (with_reducible assumption) | assumption)
                  obtain ⟨ad113, e113, hx113_0⟩ := Kd.at_int HR101.out 1 p113 q113
                  cases e113
                  (try simp only [show (1 : Int).toNat = 1 from rfl, Nat.reduceMul, Nat.reduceEqDiff, Go.Addr.add, ↓reduceIte] at hx113_0)
                  have qi113 : (1 < (l0.drop (a1 : Int).toNat).length) = True := eq_true (by omega)
                  have qi113d := qi113
                  (try simp only [List.length_drop, List.drop_drop] at qi113d)
                  (try rw [show ((1 : Int)).toNat = 1 from rfl] at hx113_0)
                  replace p113 := eq_true p113
                  replace q113 := eq_true q113
                  have q113d := q113
                  (try simp only [List.length_drop, List.drop_drop] at q113d)
                  obtain ⟨i0100, hi0100, _, hsz100, _⟩ := info_parts info5
                  obtain ⟨A100, hcut100, hA100, hC100⟩ := print_drop_of (P := Tryd.prog) (Value.int .u8) 0 24 5 .i64 Tryd.underlying24 hi0100 hsz100 (some ad113) (c0 - a1.toNat) (l0.drop (a1 : Int).toNat) 2 (by omega) (of_decide_eq_true (by first | (with_reducible assumption) | assumption)) HC101.out
                  have hcut100d := hcut100
                  (try simp only [List.length_drop, List.drop_drop] at hcut100d)
                  have HR114 := Aside0.mk (Kd.C_of_reads (h1 := fun _ => rfl) (hA100 _ (Kd.reads_of_C HR101.out)))
                  have HC114 := Aside0.mk hC100
                  clear hA100 hC100 hi0100 hsz100
                  have p118 : 0 ≤ (0 : Int) := (by omega)
                  have q118 : 0 < (((l0.drop (a1 : Int).toNat).drop 2).length : Int) := of_decide_eq_true (by first | (with_reducible assumption) | assumption)
                  obtain ⟨ad118, e118, hx118_0⟩ := Kd.at_int HR114.out 0 p118 q118
                  cases e118
                  have qi118 : (0 < ((l0.drop (a1 : Int).toNat).drop 2).length) = True := eq_true (by omega)
                  have qi118d := qi118
                  (try simp only [List.length_drop, List.drop_drop] at qi118d)
                  (try rw [show ((0 : Int)).toNat = 0 from rfl] at hx118_0)
                  (try rw [Addr.add_zero'] at hx118_0)
                  replace p118 := eq_true p118
                  replace q118 := eq_true q118
                  have q118d := q118
                  (try simp only [List.length_drop, List.drop_drop] at q118d)
                  have p119 : 0 ≤ (1 : Int) := (by omega)
                  have q119 : 1 < (((l0.drop (a1 : Int).toNat).drop 2).length : Int) := of_decide_eq_true (by first | (with_reducible assumption) | assumption)
                  obtain ⟨ad119, e119, hx119_0⟩ := Kd.at_int HR114.out 1 p119 q119
                  obtain rfl : ad118 = ad119 := (by injection e119)
                  (try simp only [show (1 : Int).toNat = 1 from rfl, Nat.reduceMul, Nat.reduceEqDiff, Go.Addr.add, ↓reduceIte] at hx119_0)
                  have qi119 : (1 < ((l0.drop (a1 : Int).toNat).drop 2).length) = True := eq_true (by omega)
                  have qi119d := qi119
                  (try simp only [List.length_drop, List.drop_drop] at qi119d)
                  (try rw [show ((1 : Int)).toNat = 1 from rfl] at hx119_0)
                  replace p119 := eq_true p119
                  replace q119 := eq_true q119
                  have q119d := q119
                  (try simp only [List.length_drop, List.drop_drop] at q119d)
                  obtain ⟨i0101, hi0101, _, hsz101, _⟩ := info_parts info5
                  obtain ⟨A101, hcut101, hA101, hC101⟩ := print_drop_of (P := Tryd.prog) (Value.int .u8) 0 24 5 .i64 Tryd.underlying24 hi0101 hsz101 (some ad118) ((c0 - a1.toNat) - 2) ((l0.drop (a1 : Int).toNat).drop 2) 2 (by omega) (of_decide_eq_true (by first | (with_reducible assumption) | assumption)) HC114.out
                  have hcut101d := hcut101
                  (try simp only [List.length_drop, List.drop_drop] at hcut101d)
                  have HR120 := Aside0.mk (Kd.C_of_reads (h1 := fun _ => rfl) (hA101 _ (Kd.reads_of_C HR114.out)))
                  have HC120 := Aside0.mk hC101
                  clear hA101 hC101 hi0101 hsz101
                  have p121 : 0 ≤ (a1 : Int) := of_decide_eq_true (by first | (with_reducible assumption) | assumption)
                  have q121 : a1 < (l0.length : Int) := of_decide_eq_true (by first | (with_reducible assumption) | assumption)
                  obtain ⟨ad121, e121, hx121_0⟩ := Kd.at_int HR0.out a1 p121 q121
                  cases e121
                  replace p121 := eq_true p121
                  replace q121 := eq_true q121
                  go_enter Tryd.func51, Tryd.ntmps51
                  go_wp2
                  refine wp_scope_fwd 0 (by rfl) ?_
                  go_wp2
                  repeat (go_quiet (fail); try go_wp2)
                  (try (apply wp_goto; refine And.intro (rfl : (0 : Nat) = 0) ?_; go_wp2))
                  (try (go_step3; go_wp2))
                  (try simp only [Exit.then, Exit.inBlock, Exit.jump])
                  refine bodyPost_ret (results_list (rs := [.tmp 4, .tmp 5, .tmp 6, .tmp 7]) rfl (by simp) (.tmp (.tmp (.tmp (.tmp .nil))))) rfl ?_
                  exact ⟨by first | rfl | (simp; done) | (simp [*]; done) | (simp [Nat.sub_sub]; done) | (simp only [List.length_drop, Nat.sub_sub]; done), by repeat (first | exact Drawn0.refl _ | apply Drawn0.step)⟩
                 ·rw [if_neg c98] at H
                  exact absurd H (by simp)
                ·rw [if_neg c97] at H
                 have c97b0 : decide ((wrap64 ((wrap64 ((wrap64 (rd ((l0.drop (a1 : Int).toNat).drop 2) 0)) * 256)) + (wrap64 (rd ((l0.drop (a1 : Int).toNat).drop 2) 1)))) ≤ ((((l0.drop (a1 : Int).toNat).drop 2).drop 2).length : Int)) = false := decide_eq_false c97
                 have c97b0d := c97b0
                 (try simp only [List.length_drop, List.drop_drop] at c97b0d)
                 clear c97
                 simp only [Option.some.injEq, Prod.mk.injEq] at H
                 obtain ⟨rfl, rfl, rfl, rfl⟩ := H
                 obtain ⟨i0102, hi0102, _, hsz102, _⟩ := info_parts info5
                 obtain ⟨A102, hcut102, hA102, hC102⟩ := print_drop_of (P := Tryd.prog) (Value.int .u8) 0 24 5 .i64 Tryd.underlying24 hi0102 hsz102 A0 c0 l0 a1 (of_decide_eq_true (by first | (with_reducible assumption) | assumption)) (of_decide_eq_true (by first | (with_reducible assumption) | assumption)) HC0.out
                 have HR101 := Aside0.mk (Kd.C_of_reads (h1 := fun _ => rfl) (hA102 _ (Kd.reads_of_C HR0.out)))
                 have HC101 := Aside0.mk hC102
                 clear hA102 hC102 hi0102 hsz102
                 have p113 : 0 ≤ (1 : Int) := (by omega)
                 have q113 : 1 < ((l0.drop (a1 : Int).toNat).length : Int) := of_decide_eq_true (by first | (with_reducible assumption) | assumption)
                 obtain ⟨ad113, e113, hx113_0⟩ := Kd.at_int HR101.out 1 p113 q113
                 cases e113
                 (try simp only [show (1 : Int).toNat = 1 from rfl, Nat.reduceMul, Nat.reduceEqDiff, Go.Addr.add, ↓reduceIte] at hx113_0)
                 have qi113 : (1 < (l0.drop (a1 : Int).toNat).length) = True := eq_true (by omega)
                 have qi113d := qi113
                 (try simp only [List.length_drop, List.drop_drop] at qi113d)
                 (try rw [show ((1 : Int)).toNat = 1 from rfl] at hx113_0)
                 replace p113 := eq_true p113
                 replace q113 := eq_true q113
                 have q113d := q113
                 (try simp only [List.length_drop, List.drop_drop] at q113d)
                 obtain ⟨i0103, hi0103, _, hsz103, _⟩ := info_parts info5
                 obtain ⟨A103, hcut103, hA103, hC103⟩ := print_drop_of (P := Tryd.prog) (Value.int .u8) 0 24 5 .i64 Tryd.underlying24 hi0103 hsz103 (some ad113) (c0 - a1.toNat) (l0.drop (a1 : Int).toNat) 2 (by omega) (of_decide_eq_true (by first | (with_reducible assumption) | assumption)) HC101.out
                 have hcut103d := hcut103
                 (try simp only [List.length_drop, List.drop_drop] at hcut103d)
                 have HR114 := Aside0.mk (Kd.C_of_reads (h1 := fun _ => rfl) (hA103 _ (Kd.reads_of_C HR101.out)))
                 have HC114 := Aside0.mk hC103
                 clear hA103 hC103 hi0103 hsz103
                 have p118 : 0 ≤ (0 : Int) := (by omega)
                 have q118 : 0 < (((l0.drop (a1 : Int).toNat).drop 2).length : Int) := of_decide_eq_true (by first | (with_reducible assumption) | assumption)
                 obtain ⟨ad118, e118, hx118_0⟩ := Kd.at_int HR114.out 0 p118 q118
                 cases e118
                 have qi118 : (0 < ((l0.drop (a1 : Int).toNat).drop 2).length) = True := eq_true (by omega)
                 have qi118d := qi118
                 (try simp only [List.length_drop, List.drop_drop] at qi118d)
                 (try rw [show ((0 : Int)).toNat = 0 from rfl] at hx118_0)
                 (try rw [Addr.add_zero'] at hx118_0)
                 replace p118 := eq_true p118
                 replace q118 := eq_true q118
                 have q118d := q118
                 (try simp only [List.length_drop, List.drop_drop] at q118d)
                 have p119 : 0 ≤ (1 : Int) := (by omega)
                 have q119 : 1 < (((l0.drop (a1 : Int).toNat).drop 2).length : Int) := of_decide_eq_true (by first | (with_reducible assumption) | assumption)
                 obtain ⟨ad119, e119, hx119_0⟩ := Kd.at_int HR114.out 1 p119 q119
                 obtain rfl : ad118 = ad119 := (by injection e119)
                 (try simp only [show (1 : Int).toNat = 1 from rfl, Nat.reduceMul, Nat.reduceEqDiff, Go.Addr.add, ↓reduceIte] at hx119_0)
                 have qi119 : (1 < ((l0.drop (a1 : Int).toNat).drop 2).length) = True := eq_true (by omega)
                 have qi119d := qi119
                 (try simp only [List.length_drop, List.drop_drop] at qi119d)
                 (try rw [show ((1 : Int)).toNat = 1 from rfl] at hx119_0)
                 replace p119 := eq_true p119
                 replace q119 := eq_true q119
                 have q119d := q119
                 (try simp only [List.length_drop, List.drop_drop] at q119d)
                 obtain ⟨i0104, hi0104, _, hsz104, _⟩ := info_parts info5
                 obtain ⟨A104, hcut104, hA104, hC104⟩ := print_drop_of (P := Tryd.prog) (Value.int .u8) 0 24 5 .i64 Tryd.underlying24 hi0104 hsz104 (some ad118) ((c0 - a1.toNat) - 2) ((l0.drop (a1 : Int).toNat).drop 2) 2 (by omega) (of_decide_eq_true (by first | (with_reducible assumption) | assumption)) HC114.out
                 have hcut104d := hcut104
                 (try simp only [List.length_drop, List.drop_drop] at hcut104d)
                 have HR120 := Aside0.mk (Kd.C_of_reads (h1 := fun _ => rfl) (hA104 _ (Kd.reads_of_C HR114.out)))
                 have HC120 := Aside0.mk hC104
                 clear hA104 hC104 hi0104 hsz104
                 go_enter Tryd.func51, Tryd.ntmps51
                 go_wp2
                 refine wp_scope_fwd 0 (by rfl) ?_
                 go_wp2
                 repeat (go_quiet (fail); try go_wp2)
                 (try (apply wp_goto; refine And.intro (rfl : (0 : Nat) = 0) ?_; go_wp2))
                 (try (go_step3; go_wp2))
                 (try simp only [Exit.then, Exit.inBlock, Exit.jump])
                 refine bodyPost_ret (results_list (rs := [.tmp 4, .tmp 5, .tmp 6, .tmp 7]) rfl (by simp) (.tmp (.tmp (.tmp (.tmp .nil))))) rfl ?_
                 exact ⟨by first | rfl | (simp; done) | (simp [*]; done) | (simp [Nat.sub_sub]; done) | (simp only [List.length_drop, Nat.sub_sub]; done), by repeat (first | exact Drawn0.refl _ | apply Drawn0.step)⟩
              ·rw [if_neg c92] at H
               exact absurd H (by simp)
             ·rw [if_neg c91] at H
              exact absurd H (by simp)
            ·rw [if_neg c90] at H
             exact absurd H (by simp)
          ·rw [if_neg c86] at H
           have c86b0 : ((wrap64 (rd (l0.drop (a1 : Int).toNat) 1)) == 130) = false := beq_eq_false_iff_ne.mpr c86
           have c86b1 : ((wrap64 (rd (l0.drop (a1 : Int).toNat) 1)) != 130) = true := bne_iff_ne.mpr c86
           by_cases c105 : (wrap64 (rd (l0.drop (a1 : Int).toNat) 1)) > 127
           ·rw [if_pos c105] at H
            have c105b0 : decide (127 < (wrap64 (rd (l0.drop (a1 : Int).toNat) 1))) = true := decide_eq_true c105
            clear c105
            simp only [Option.some.injEq, Prod.mk.injEq] at H
            obtain ⟨rfl, rfl, rfl, rfl⟩ := H
            obtain ⟨i0106, hi0106, _, hsz106, _⟩ := info_parts info5
            obtain ⟨A106, hcut106, hA106, hC106⟩ := print_drop_of (P := Tryd.prog) (Value.int .u8) 0 24 5 .i64 Tryd.underlying24 hi0106 hsz106 A0 c0 l0 a1 (of_decide_eq_true (by first | (with_reducible assumption) | assumption)) (of_decide_eq_true (by first | (with_reducible assumption) | assumption)) HC0.out
            have HR101 := Aside0.mk (Kd.C_of_reads (h1 := fun _ => rfl) (hA106 _ (Kd.reads_of_C HR0.out)))
            have HC101 := Aside0.mk hC106
            clear hA106 hC106 hi0106 hsz106
            have p113 : 0 ≤ (1 : Int) := (by omega)
            have q113 : 1 < ((l0.drop (a1 : Int).toNat).length : Int) := of_decide_eq_true (by first | (with_reducible assumption) | assumption)
            obtain ⟨ad113, e113, hx113_0⟩ := Kd.at_int HR101.out 1 p113 q113
            cases e113
            (try simp only [show (1 : Int).toNat = 1 from rfl, Nat.reduceMul, Nat.reduceEqDiff, Go.Addr.add, ↓reduceIte] at hx113_0)
            have qi113 : (1 < (l0.drop (a1 : Int).toNat).length) = True := eq_true (by omega)
            have qi113d := qi113
            (try simp only [List.length_drop, List.drop_drop] at qi113d)
            (try rw [show ((1 : Int)).toNat = 1 from rfl] at hx113_0)
            replace p113 := eq_true p113
            replace q113 := eq_true q113
            have q113d := q113
            (try simp only [List.length_drop, List.drop_drop] at q113d)
            obtain ⟨i0107, hi0107, _, hsz107, _⟩ := info_parts info5
            obtain ⟨A107, hcut107, hA107, hC107⟩ := print_drop_of (P := Tryd.prog) (Value.int .u8) 0 24 5 .i64 Tryd.underlying24 hi0107 hsz107 (some ad113) (c0 - a1.toNat) (l0.drop (a1 : Int).toNat) 2 (by omega) (of_decide_eq_true (by first | (with_reducible assumption) | assumption)) HC101.out
            have hcut107d := hcut107
            (try simp only [List.length_drop, List.drop_drop] at hcut107d)
            have HR114 := Aside0.mk (Kd.C_of_reads (h1 := fun _ => rfl) (hA107 _ (Kd.reads_of_C HR101.out)))
            have HC114 := Aside0.mk hC107
            clear hA107 hC107 hi0107 hsz107
            go_enter Tryd.func51, Tryd.ntmps51
            go_wp2
            refine wp_scope_fwd 0 (by rfl) ?_
            go_wp2
            repeat (go_quiet (fail); try go_wp2)
            (try (apply wp_goto; refine And.intro (rfl : (0 : Nat) = 0) ?_; go_wp2))
            (try (go_step3; go_wp2))
            (try simp only [Exit.then, Exit.inBlock, Exit.jump])
            refine bodyPost_ret (results_list (rs := [.tmp 4, .tmp 5, .tmp 6, .tmp 7]) rfl (by simp) (.tmp (.tmp (.tmp (.tmp .nil))))) rfl ?_
            exact ⟨by first | rfl | (simp; done) | (simp [*]; done) | (simp [Nat.sub_sub]; done) | (simp only [List.length_drop, Nat.sub_sub]; done), by repeat (first | exact Drawn0.refl _ | apply Drawn0.step)⟩
           ·rw [if_neg c105] at H
            have c105b0 : decide (127 < (wrap64 (rd (l0.drop (a1 : Int).toNat) 1))) = false := decide_eq_false c105
            clear c105
            by_cases c108 : (wrap64 (rd (l0.drop (a1 : Int).toNat) 1)) < 0
            ·rw [if_pos c108] at H
             have c108b0 : decide ((wrap64 (rd (l0.drop (a1 : Int).toNat) 1)) < 0) = true := decide_eq_true c108
             clear c108
             simp only [Option.some.injEq, Prod.mk.injEq] at H
             obtain ⟨rfl, rfl, rfl, rfl⟩ := H
             obtain ⟨i0109, hi0109, _, hsz109, _⟩ := info_parts info5
             obtain ⟨A109, hcut109, hA109, hC109⟩ := print_drop_of (P := Tryd.prog) (Value.int .u8) 0 24 5 .i64 Tryd.underlying24 hi0109 hsz109 A0 c0 l0 a1 (of_decide_eq_true (by first | (with_reducible assumption) | assumption)) (of_decide_eq_true (by first | (with_reducible assumption) | assumption)) HC0.out
             have HR101 := Aside0.mk (Kd.C_of_reads (h1 := fun _ => rfl) (hA109 _ (Kd.reads_of_C HR0.out)))
             have HC101 := Aside0.mk hC109
             clear hA109 hC109 hi0109 hsz109
             have p113 : 0 ≤ (1 : Int) := (by omega)
             have q113 : 1 < ((l0.drop (a1 : Int).toNat).length : Int) := of_decide_eq_true (by first | (with_reducible assumption) | assumption)
             obtain ⟨ad113, e113, hx113_0⟩ := Kd.at_int HR101.out 1 p113 q113
             cases e113
             (try simp only [show (1 : Int).toNat = 1 from rfl, Nat.reduceMul, Nat.reduceEqDiff, Go.Addr.add, ↓reduceIte] at hx113_0)
             have qi113 : (1 < (l0.drop (a1 : Int).toNat).length) = True := eq_true (by omega)
             have qi113d := qi113
             (try simp only [List.length_drop, List.drop_drop] at qi113d)
             (try rw [show ((1 : Int)).toNat = 1 from rfl] at hx113_0)
             replace p113 := eq_true p113
             replace q113 := eq_true q113
             have q113d := q113
             (try simp only [List.length_drop, List.drop_drop] at q113d)
             obtain ⟨i0110, hi0110, _, hsz110, _⟩ := info_parts info5
             obtain ⟨A110, hcut110, hA110, hC110⟩ := print_drop_of (P := Tryd.prog) (Value.int .u8) 0 24 5 .i64 Tryd.underlying24 hi0110 hsz110 (some ad113) (c0 - a1.toNat) (l0.drop (a1 : Int).toNat) 2 (by omega) (of_decide_eq_true (by first | (with_reducible assumption) | assumption)) HC101.out
             have hcut110d := hcut110
             (try simp only [List.length_drop, List.drop_drop] at hcut110d)
             have HR114 := Aside0.mk (Kd.C_of_reads (h1 := fun _ => rfl) (hA110 _ (Kd.reads_of_C HR101.out)))
             have HC114 := Aside0.mk hC110
             clear hA110 hC110 hi0110 hsz110
             go_enter Tryd.func51, Tryd.ntmps51
             go_wp2
             refine wp_scope_fwd 0 (by rfl) ?_
             go_wp2
             repeat (go_quiet (fail); try go_wp2)
             (try (apply wp_goto; refine And.intro (rfl : (0 : Nat) = 0) ?_; go_wp2))
             (try (go_step3; go_wp2))
             (try simp only [Exit.then, Exit.inBlock, Exit.jump])
             refine bodyPost_ret (results_list (rs := [.tmp 4, .tmp 5, .tmp 6, .tmp 7]) rfl (by simp) (.tmp (.tmp (.tmp (.tmp .nil))))) rfl ?_
             exact ⟨by first | rfl | (simp; done) | (simp [*]; done) | (simp [Nat.sub_sub]; done) | (simp only [List.length_drop, Nat.sub_sub]; done), by repeat (first | exact Drawn0.refl _ | apply Drawn0.step)⟩
            ·rw [if_neg c108] at H
             have c108b0 : decide ((wrap64 (rd (l0.drop (a1 : Int).toNat) 1)) < 0) = false := decide_eq_false c108
             clear c108
             by_cases c111 : (wrap64 (rd (l0.drop (a1 : Int).toNat) 1)) ≤ (((l0.drop (a1 : Int).toNat).drop 2).length : Int)
             ·rw [if_pos c111] at H
              have c111b0 : decide ((wrap64 (rd (l0.drop (a1 : Int).toNat) 1)) ≤ (((l0.drop (a1 : Int).toNat).drop 2).length : Int)) = true := decide_eq_true c111
              have c111b0d := c111b0
              (try simp only [List.length_drop, List.drop_drop] at c111b0d)
              clear c111
              by_cases c112 : a1 < (l0.length : Int)
              ·rw [if_pos c112] at H
               have c112b0 : decide (a1 < (l0.length : Int)) = true := decide_eq_true c112
               clear c112
               simp only [Option.some.injEq, Prod.mk.injEq] at H
               obtain ⟨rfl, rfl, rfl, rfl⟩ := H
               obtain ⟨i0113, hi0113, _, hsz113, _⟩ := info_parts info5
               obtain ⟨A113, hcut113, hA113, hC113⟩ := print_drop_of (P := Tryd.prog) (Value.int .u8) 0 24 5 .i64 Tryd.underlying24 hi0113 hsz113 A0 c0 l0 a1 (of_decide_eq_true (by first | (with_reducible assumption) | assumption)) (of_decide_eq_true (by first | (with_reducible assumption) | assumption)) HC0.out
               have HR101 := Aside0.mk (Kd.C_of_reads (h1 := fun _ => rfl) (hA113 _ (Kd.reads_of_C HR0.out)))
               have HC101 := Aside0.mk hC113
               clear hA113 hC113 hi0113 hsz113
               have p113 : 0 ≤ (1 : Int) := (by omega)
               have q113 : 1 < ((l0.drop (a1 : Int).toNat).length : Int) := of_decide_eq_true (by first | (with_reducible assumption) | assumption)
               obtain ⟨ad113, e113, hx113_0⟩ := Kd.at_int HR101.out 1 p113 q113
               cases e113
               (try simp only [show (1 : Int).toNat = 1 from rfl, Nat.reduceMul, Nat.reduceEqDiff, Go.Addr.add, ↓reduceIte] at hx113_0)
               have qi113 : (1 < (l0.drop (a1 : Int).toNat).length) = True := eq_true (by omega)
               have qi113d := qi113
               (try simp only [List.length_drop, List.drop_drop] at qi113d)
               (try rw [show ((1 : Int)).toNat = 1 from rfl] at hx113_0)
               replace p113 := eq_true p113
               replace q113 := eq_true q113
               have q113d := q113
               (try simp only [List.length_drop, List.drop_drop] at q113d)
               obtain ⟨i0114, hi0114, _, hsz114, _⟩ := info_parts info5
               obtain ⟨A114, hcut114, hA114, hC114⟩ := print_drop_of (P := Tryd.prog) (Value.int .u8) 0 24 5 .i64 Tryd.underlying24 hi0114 hsz114 (some ad113) (c0 - a1.toNat) (l0.drop (a1 : Int).toNat) 2 (by omega) (of_decide_eq_true (by first | (with_reducible assumption) | assumption)) HC101.out
               have hcut114d := hcut114
               (try simp only [List.length_drop, List.drop_drop] at hcut114d)
               have HR114 := Aside0.mk (Kd.C_of_reads (h1 := fun _ => rfl) (hA114 _ (Kd.reads_of_C HR101.out)))
               have HC114 := Aside0.mk hC114
               clear hA114 hC114 hi0114 hsz114
               have p122 : 0 ≤ (a1 : Int) := of_decide_eq_true (by first | (with_reducible assumption) | assumption)
               have q122 : a1 < (l0.length : Int) := of_decide_eq_true (by first | (with_reducible assumption) | assumption)
               obtain ⟨ad122, e122, hx122_0⟩ := Kd.at_int HR0.out a1 p122 q122
               cases e122
               replace p122 := eq_true p122
               replace q122 := eq_true q122
               go_enter Tryd.func51, Tryd.ntmps51
               go_wp2
               refine wp_scope_fwd 0 (by rfl) ?_
               go_wp2
               repeat (go_quiet (fail); try go_wp2)
               (try (apply wp_goto; refine And.intro (rfl : (0 : Nat) = 0) ?_; go_wp2))
               (try (go_step3; go_wp2))
               (try simp only [Exit.then, Exit.inBlock, Exit.jump])
               refine bodyPost_ret (results_list (rs := [.tmp 4, .tmp 5, .tmp 6, .tmp 7]) rfl (by simp) (.tmp (.tmp (.tmp (.tmp .nil))))) rfl ?_
               exact ⟨by first | rfl | (simp; done) | (simp [*]; done) | (simp [Nat.sub_sub]; done) | (simp only [List.length_drop, Nat.sub_sub]; done), by repeat (first | exact Drawn0.refl _ | apply Drawn0.step)⟩
              ·rw [if_neg c112] at H
               exact absurd H (by simp)
             ·rw [if_neg c111] at H
              have c111b0 : decide ((wrap64 (rd (l0.drop (a1 : Int).toNat) 1)) ≤ (((l0.drop (a1 : Int).toNat).drop 2).length : Int)) = false := decide_eq_false c111
              have c111b0d := c111b0
              (try simp only [List.length_drop, List.drop_drop] at c111b0d)
              clear c111
              simp only [Option.some.injEq, Prod.mk.injEq] at H
              obtain ⟨rfl, rfl, rfl, rfl⟩ := H
              obtain ⟨i0115, hi0115, _, hsz115, _⟩ := info_parts info5
              obtain ⟨A115, hcut115, hA115, hC115⟩ := print_drop_of (P := Tryd.prog) (Value.int .u8) 0 24 5 .i64 Tryd.underlying24 hi0115 hsz115 A0 c0 l0 a1 (of_decide_eq_true (by first | (with_reducible assumption) | assumption)) (of_decide_eq_true (by first | (with_reducible assumption) | assumption)) HC0.out
              have HR101 := Aside0.mk (Kd.C_of_reads (h1 := fun _ => rfl) (hA115 _ (Kd.reads_of_C HR0.out)))
              have HC101 := Aside0.mk hC115
              clear hA115 hC115 hi0115 hsz115
              have p113 : 0 ≤ (1 : Int) := (by omega)
              have q113 : 1 < ((l0.drop (a1 : Int).toNat).length : Int) := of_decide_eq_true (by first | (with_reducible assumption) | assumption)
              obtain ⟨ad113, e113, hx113_0⟩ := Kd.at_int HR101.out 1 p113 q113
              cases e113
              (try simp only [show (1 : Int).toNat = 1 from rfl, Nat.reduceMul, Nat.reduceEqDiff, Go.Addr.add, ↓reduceIte] at hx113_0)
              have qi113 : (1 < (l0.drop (a1 : Int).toNat).length) = True := eq_true (by omega)
              have qi113d := qi113
              (try simp only [List.length_drop, List.drop_drop] at qi113d)
              (try rw [show ((1 : Int)).toNat = 1 from rfl] at hx113_0)
              replace p113 := eq_true p113
              replace q113 := eq_true q113
              have q113d := q113
              (try simp only [List.length_drop, List.drop_drop] at q113d)
              obtain ⟨i0116, hi0116, _, hsz116, _⟩ := info_parts info5
              obtain ⟨A116, hcut116, hA116, hC116⟩ := print_drop_of (P := Tryd.prog) (Value.int .u8) 0 24 5 .i64 Tryd.underlying24 hi0116 hsz116 (some ad113) (c0 - a1.toNat) (l0.drop (a1 : Int).toNat) 2 (by omega) (of_decide_eq_true (by first | (with_reducible assumption) | assumption)) HC101.out
              have hcut116d := hcut116
              (try simp only [List.length_drop, List.drop_drop] at hcut116d)
              have HR114 := Aside0.mk (Kd.C_of_reads (h1 := fun _ => rfl) (hA116 _ (Kd.reads_of_C HR101.out)))
              have HC114 := Aside0.mk hC116
              clear hA116 hC116 hi0116 hsz116
              go_enter Tryd.func51, Tryd.ntmps51
              go_wp2
              refine wp_scope_fwd 0 (by rfl) ?_
              go_wp2
              repeat (go_quiet (fail); try go_wp2)
              (try (apply wp_goto; refine And.intro (rfl : (0 : Nat) = 0) ?_; go_wp2))
              (try (go_step3; go_wp2))
              (try simp only [Exit.then, Exit.inBlock, Exit.jump])
              refine bodyPost_ret (results_list (rs := [.tmp 4, .tmp 5, .tmp 6, .tmp 7]) rfl (by simp) (.tmp (.tmp (.tmp (.tmp .nil))))) rfl ?_
              exact ⟨by first | rfl | (simp; done) | (simp [*]; done) | (simp [Nat.sub_sub]; done) | (simp only [List.length_drop, Nat.sub_sub]; done), by repeat (first | exact Drawn0.refl _ | apply Drawn0.step)⟩
        ·rw [if_neg c67] at H
         exact absurd H (by simp)
       ·rw [if_neg c66] at H
        exact absurd H (by simp)
    ·rw [if_neg c6] at H
     exact absurd H (by simp)
   ·rw [if_neg c5] at H
    exact absurd H (by simp)

end Go.Proofs.YtkceebgncfggjaaDoor.PD
