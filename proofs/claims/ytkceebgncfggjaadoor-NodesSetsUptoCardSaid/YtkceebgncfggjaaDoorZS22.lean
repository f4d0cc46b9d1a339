/- NodesSets: words, printed functions and plain laws that the claim uses, laid by a program of this session's. No condition beside those in each theorem's own line. -/
import Derived.Test.YtkceebgncfggjaaDoorZS21
import Derived.Test.YtkceebgncfggjaaDoorZS6
set_option linter.unusedVariables false
set_option linter.unusedSimpArgs false
namespace Go.Proofs.YtkceebgncfggjaaDoor.PQ
open Go.RowKit Go.Proofs.YtkceebgncfggjaaDoorW.PrintWords Go.Proofs.YtkceebgncfggjaaDoorW.PrintLast Go.Proofs.YtkceebgncfggjaaDoorW.PrintMore Go.Proofs.YtkceebgncfggjaaDoorX
set_option maxHeartbeats 8000000
set_option maxRecDepth 100000
attribute [local go_sem] max2_int min2_int max_two min_two
def tlv_Head.f (l0 : List Int) (a1 : Int) : Option (Int × Int × Int × Int) := if a1 < 0 then (some (0, 0, 0, 1)) else (if a1 > (l0.length : Int) then (some (0, 0, 0, 1)) else (if 0 ≤ a1 then (if a1 ≤ (l0.length : Int) then (if ((l0.drop (a1 : Int).toNat).length : Int) > 0 then (if 0 < ((l0.drop (a1 : Int).toNat).length : Int) then (if (Go.bits .and .u8 (rd (l0.drop (a1 : Int).toNat) 0) 31) = 31 then (some (0, 0, 0, 11)) else (if ((l0.drop (a1 : Int).toNat).length : Int) < 2 then (some (0, 0, 0, 12)) else (if 1 < ((l0.drop (a1 : Int).toNat).length : Int) then (if 2 ≤ ((l0.drop (a1 : Int).toNat).length : Int) then (if (wrap64 (rd (l0.drop (a1 : Int).toNat) 1)) = 129 then (if (((l0.drop (a1 : Int).toNat).drop 2).length : Int) < 1 then (some (0, 0, 0, 12)) else (if 0 < (((l0.drop (a1 : Int).toNat).drop 2).length : Int) then (if 1 ≤ (((l0.drop (a1 : Int).toNat).drop 2).length : Int) then (if (wrap64 (rd ((l0.drop (a1 : Int).toNat).drop 2) 0)) < 128 then (some (0, 0, 0, 13)) else (if (wrap64 (rd ((l0.drop (a1 : Int).toNat).drop 2) 0)) ≤ ((((l0.drop (a1 : Int).toNat).drop 2).drop 1).length : Int) then (if a1 < (l0.length : Int) then (some (rd l0 a1, wrap64 ((l0.length : Int) - ((((l0.drop (a1 : Int).toNat).drop 2).drop 1).length : Int)), wrap64 ((wrap64 ((l0.length : Int) - ((((l0.drop (a1 : Int).toNat).drop 2).drop 1).length : Int))) + (wrap64 (rd ((l0.drop (a1 : Int).toNat).drop 2) 0))), 0)) else (none)) else (some (0, 0, 0, 12)))) else (none)) else (none))) else (if (wrap64 (rd (l0.drop (a1 : Int).toNat) 1)) = 130 then (if (((l0.drop (a1 : Int).toNat).drop 2).length : Int) < 2 then (some (0, 0, 0, 12)) else (if 0 < (((l0.drop (a1 : Int).toNat).drop 2).length : Int) then (if 1 < (((l0.drop (a1 : Int).toNat).drop 2).length : Int) then (if 2 ≤ (((l0.drop (a1 : Int).toNat).drop 2).length : Int) then (if (wrap64 ((wrap64 ((wrap64 (rd ((l0.drop (a1 : Int).toNat).drop 2) 0)) * 256)) + (wrap64 (rd ((l0.drop (a1 : Int).toNat).drop 2) 1)))) < 256 then (some (0, 0, 0, 13)) else (if (wrap64 ((wrap64 ((wrap64 (rd ((l0.drop (a1 : Int).toNat).drop 2) 0)) * 256)) + (wrap64 (rd ((l0.drop (a1 : Int).toNat).drop 2) 1)))) ≤ ((((l0.drop (a1 : Int).toNat).drop 2).drop 2).length : Int) then (if a1 < (l0.length : Int) then (some (rd l0 a1, wrap64 ((l0.length : Int) - ((((l0.drop (a1 : Int).toNat).drop 2).drop 2).length : Int)), wrap64 ((wrap64 ((l0.length : Int) - ((((l0.drop (a1 : Int).toNat).drop 2).drop 2).length : Int))) + (wrap64 ((wrap64 ((wrap64 (rd ((l0.drop (a1 : Int).toNat).drop 2) 0)) * 256)) + (wrap64 (rd ((l0.drop (a1 : Int).toNat).drop 2) 1))))), 0)) else (none)) else (some (0, 0, 0, 12)))) else (none)) else (none)) else (none))) else (if (wrap64 (rd (l0.drop (a1 : Int).toNat) 1)) > 127 then (some (0, 0, 0, 13)) else (if (wrap64 (rd (l0.drop (a1 : Int).toNat) 1)) < 0 then (some (0, 0, 0, 13)) else (if (wrap64 (rd (l0.drop (a1 : Int).toNat) 1)) ≤ (((l0.drop (a1 : Int).toNat).drop 2).length : Int) then (if a1 < (l0.length : Int) then (some (rd l0 a1, wrap64 ((l0.length : Int) - (((l0.drop (a1 : Int).toNat).drop 2).length : Int)), wrap64 ((wrap64 ((l0.length : Int) - (((l0.drop (a1 : Int).toNat).drop 2).length : Int))) + (wrap64 (rd (l0.drop (a1 : Int).toNat) 1))), 0)) else (none)) else (some (0, 0, 0, 12))))))) else (none)) else (none)))) else (none)) else (if ((l0.drop (a1 : Int).toNat).length : Int) < 2 then (some (0, 0, 0, 12)) else (if 1 < ((l0.drop (a1 : Int).toNat).length : Int) then (if 2 ≤ ((l0.drop (a1 : Int).toNat).length : Int) then (if (wrap64 (rd (l0.drop (a1 : Int).toNat) 1)) = 129 then (if (((l0.drop (a1 : Int).toNat).drop 2).length : Int) < 1 then (some (0, 0, 0, 12)) else (if 0 < (((l0.drop (a1 : Int).toNat).drop 2).length : Int) then (if 1 ≤ (((l0.drop (a1 : Int).toNat).drop 2).length : Int) then (if (wrap64 (rd ((l0.drop (a1 : Int).toNat).drop 2) 0)) < 128 then (some (0, 0, 0, 13)) else (if (wrap64 (rd ((l0.drop (a1 : Int).toNat).drop 2) 0)) ≤ ((((l0.drop (a1 : Int).toNat).drop 2).drop 1).length : Int) then (if a1 < (l0.length : Int) then (some (rd l0 a1, wrap64 ((l0.length : Int) - ((((l0.drop (a1 : Int).toNat).drop 2).drop 1).length : Int)), wrap64 ((wrap64 ((l0.length : Int) - ((((l0.drop (a1 : Int).toNat).drop 2).drop 1).length : Int))) + (wrap64 (rd ((l0.drop (a1 : Int).toNat).drop 2) 0))), 0)) else (none)) else (some (0, 0, 0, 12)))) else (none)) else (none))) else (if (wrap64 (rd (l0.drop (a1 : Int).toNat) 1)) = 130 then (if (((l0.drop (a1 : Int).toNat).drop 2).length : Int) < 2 then (some (0, 0, 0, 12)) else (if 0 < (((l0.drop (a1 : Int).toNat).drop 2).length : Int) then (if 1 < (((l0.drop (a1 : Int).toNat).drop 2).length : Int) then (if 2 ≤ (((l0.drop (a1 : Int).toNat).drop 2).length : Int) then (if (wrap64 ((wrap64 ((wrap64 (rd ((l0.drop (a1 : Int).toNat).drop 2) 0)) * 256)) + (wrap64 (rd ((l0.drop (a1 : Int).toNat).drop 2) 1)))) < 256 then (some (0, 0, 0, 13)) else (if (wrap64 ((wrap64 ((wrap64 (rd ((l0.drop (a1 : Int).toNat).drop 2) 0)) * 256)) + (wrap64 (rd ((l0.drop (a1 : Int).toNat).drop 2) 1)))) ≤ ((((l0.drop (a1 : Int).toNat).drop 2).drop 2).length : Int) then (if a1 < (l0.length : Int) then (some (rd l0 a1, wrap64 ((l0.length : Int) - ((((l0.drop (a1 : Int).toNat).drop 2).drop 2).length : Int)), wrap64 ((wrap64 ((l0.length : Int) - ((((l0.drop (a1 : Int).toNat).drop 2).drop 2).length : Int))) + (wrap64 ((wrap64 ((wrap64 (rd ((l0.drop (a1 : Int).toNat).drop 2) 0)) * 256)) + (wrap64 (rd ((l0.drop (a1 : Int).toNat).drop 2) 1))))), 0)) else (none)) else (some (0, 0, 0, 12)))) else (none)) else (none)) else (none))) else (if (wrap64 (rd (l0.drop (a1 : Int).toNat) 1)) > 127 then (some (0, 0, 0, 13)) else (if (wrap64 (rd (l0.drop (a1 : Int).toNat) 1)) < 0 then (some (0, 0, 0, 13)) else (if (wrap64 (rd (l0.drop (a1 : Int).toNat) 1)) ≤ (((l0.drop (a1 : Int).toNat).drop 2).length : Int) then (if a1 < (l0.length : Int) then (some (rd l0 a1, wrap64 ((l0.length : Int) - (((l0.drop (a1 : Int).toNat).drop 2).length : Int)), wrap64 ((wrap64 ((l0.length : Int) - (((l0.drop (a1 : Int).toNat).drop 2).length : Int))) + (wrap64 (rd (l0.drop (a1 : Int).toNat) 1))), 0)) else (none)) else (some (0, 0, 0, 12))))))) else (none)) else (none)))) else (none)) else (none)))
theorem tlv_Head.calls (A0 : Option Addr) (c0 : Nat) (l0 : List Int) (a1 : Int) (r1 : Int) (r2 : Int) (r3 : Int) (r4 : Int) (w : World) (hr0 : Kd.C (Kd.int .u8) w A0 l0.length l0) (hc0 : l0.length ≤ c0) (h : tlv_Head.f l0 a1 = some (r1, r2, r3, r4)) :
  Calls Tryd.prog 51 #[.slice A0 l0.length c0, .int .i64 a1] w fun e w' => e = .returned (.tuple #[.int .u8 r1, .int .i64 r2, .int .i64 r3, .int .i64 r4]) ∧ Drawn0 w w' := by
 have HR0 := aZ hr0
 have HC0 := aZ hc0
 clear hr0 hc0
 have H := h
 clear h
 unfold tlv_Head.f at H
 by_cases c3 : a1 < 0
 ·rw [if_pos c3] at H
  have c3b0 : decide (a1 < 0) = true := decide_eq_true c3
  clear c3
  simp only [Option.some.injEq, Prod.mk.injEq] at H
  obtain ⟨rfl, rfl, rfl, rfl⟩ := H
  go_enter Tryd.func51, Tryd.ntmps51
  go_wp2
  refine wp_scope_fwd 0 (by rfl) ?_
  go_wp2
  repeat (go_quiet (fail); try go_wp2)
  (try (apply wp_goto; refine And.intro (rfl : (0 : Nat) = 0) ?_; go_wp2))
  (try (go_step3; go_wp2))
  (try simp only [Exit.then, Exit.inBlock, Exit.jump])
  refine bodyPost_ret (results_list (rs := [.tmp 4, .tmp 5, .tmp 6, .tmp 7]) rfl (by simp) (.tmp (.tmp (.tmp (.tmp .nil))))) rfl ?_
  exact ⟨by first | rfl | (simp; done) | (simp [*]; done) | (simp [Nat.sub_sub]; done) | (simp only [List.length_drop, Nat.sub_sub]; done), d0⟩
 ·rw [if_neg c3] at H
  have c3b0 : decide (a1 < 0) = false := decide_eq_false c3
  clear c3
  by_cases c4 : a1 > (l0.length : Int)
  ·rw [if_pos c4] at H
   have c4b0 : decide ((l0.length : Int) < a1) = true := decide_eq_true c4
   clear c4
   simp only [Option.some.injEq, Prod.mk.injEq] at H
   obtain ⟨rfl, rfl, rfl, rfl⟩ := H
   go_enter Tryd.func51, Tryd.ntmps51
   go_wp2
   refine wp_scope_fwd 0 (by rfl) ?_
   go_wp2
   repeat (go_quiet (fail); try go_wp2)
   (try (apply wp_goto; refine And.intro (rfl : (0 : Nat) = 0) ?_; go_wp2))
   (try (go_step3; go_wp2))
   (try simp only [Exit.then, Exit.inBlock, Exit.jump])
   refine bodyPost_ret (results_list (rs := [.tmp 4, .tmp 5, .tmp 6, .tmp 7]) rfl (by simp) (.tmp (.tmp (.tmp (.tmp .nil))))) rfl ?_
   exact ⟨by first | rfl | (simp; done) | (simp [*]; done) | (simp [Nat.sub_sub]; done) | (simp only [List.length_drop, Nat.sub_sub]; done), d0⟩
  ·rw [if_neg c4] at H
   have c4b0 : decide ((l0.length : Int) < a1) = false := decide_eq_false c4
   clear c4
   by_cases c5 : 0 ≤ a1
   ·rw [if_pos c5] at H
    have c5b0 := eq_true c5
    have c5b1 : decide (0 ≤ a1) = true := decide_eq_true c5
    clear c5
    by_cases c6 : a1 ≤ (l0.length : Int)
    ·rw [if_pos c6] at H
     have c6b0 := eq_true c6
     have c6b1 : decide (a1 ≤ (l0.length : Int)) = true := decide_eq_true c6
     clear c6
     by_cases c7 : ((l0.drop (a1 : Int).toNat).length : Int) > 0
     ·rw [if_pos c7] at H
      have c7b0 : decide (0 < ((l0.drop (a1 : Int).toNat).length : Int)) = true := decide_eq_true c7
      have c7b0d := c7b0
      (try simp only [List.length_drop, List.drop_drop] at c7b0d)
      have c7b1 : decide (0 < (l0.drop (a1 : Int).toNat).length) = true := decide_eq_true (by omega)
      have c7b1d := c7b1
      (try simp only [List.length_drop, List.drop_drop] at c7b1d)
      clear c7
      by_cases c8 : 0 < ((l0.drop (a1 : Int).toNat).length : Int)
      ·rw [if_pos c8] at H
       have c8b0 : decide (0 < ((l0.drop (a1 : Int).toNat).length : Int)) = true := decide_eq_true c8
       have c8b0d := c8b0
       (try simp only [List.length_drop, List.drop_drop] at c8b0d)
       have c8b1 : decide (0 < (l0.drop (a1 : Int).toNat).length) = true := decide_eq_true (by omega)
       have c8b1d := c8b1
       (try simp only [List.length_drop, List.drop_drop] at c8b1d)
       clear c8
       by_cases c9 : (Go.bits .and .u8 (rd (l0.drop (a1 : Int).toNat) 0) 31) = 31
       ·rw [if_pos c9] at H
        have c9b0 : ((Go.bits .and .u8 (rd (l0.drop (a1 : Int).toNat) 0) 31) == 31) = true := beq_iff_eq.mpr c9
        have c9b1 : ((Go.bits .and .u8 (rd (l0.drop (a1 : Int).toNat) 0) 31) != 31) = false := bne_eq_false_iff_eq.mpr c9
        clear c9
        simp only [Option.some.injEq, Prod.mk.injEq] at H
        obtain ⟨rfl, rfl, rfl, rfl⟩ := H
        obtain ⟨i010, hi010, _, hsz10, _⟩ := info_parts info5
        obtain ⟨A10, hcut10, hA10, hC10⟩ := print_drop_of (P := Tryd.prog) (Value.int .u8) 0 24 5 .i64 Tryd.underlying24 hi010 hsz10 A0 c0 l0 a1 (oD) (oD) HC0.out
        have HR101 := aZ (Kd.C_of_reads (h1 := fun _ => rfl) (hA10 _ (Kd.reads_of_C HR0.out)))
        have HC101 := aZ hC10
        clear hA10 hC10 hi010 hsz10
        have p102 : 0 ≤ (0 : Int) := (by omega)
        have q102 : 0 < ((l0.drop (a1 : Int).toNat).length : Int) := oD
        obtain ⟨ad102, e102, hx102_0⟩ := Kd.at_int HR101.out 0 p102 q102
        cases e102
        have qi102 : (0 < (l0.drop (a1 : Int).toNat).length) = True := eq_true (by omega)
        have qi102d := qi102
        (try simp only [List.length_drop, List.drop_drop] at qi102d)
        (try rw [show ((0 : Int)).toNat = 0 from rfl] at hx102_0)
        (try rw [Addr.add_zero'] at hx102_0)
        replace p102 := eq_true p102
        replace q102 := eq_true q102
        have q102d := q102
        (try simp only [List.length_drop, List.drop_drop] at q102d)
        go_enter Tryd.func51, Tryd.ntmps51
        go_wp2
        refine wp_scope_fwd 0 (by rfl) ?_
        go_wp2
        repeat (go_quiet (fail); try go_wp2)
        (try (apply wp_goto; refine And.intro (rfl : (0 : Nat) = 0) ?_; go_wp2))
        (try (go_step3; go_wp2))
        (try simp only [Exit.then, Exit.inBlock, Exit.jump])
        refine bodyPost_ret (results_list (rs := [.tmp 4, .tmp 5, .tmp 6, .tmp 7]) rfl (by simp) (.tmp (.tmp (.tmp (.tmp .nil))))) rfl ?_
        exact ⟨by first | rfl | (simp; done) | (simp [*]; done) | (simp [Nat.sub_sub]; done) | (simp only [List.length_drop, Nat.sub_sub]; done), d0⟩
       ·rw [if_neg c9] at H
        have c9b0 : ((Go.bits .and .u8 (rd (l0.drop (a1 : Int).toNat) 0) 31) == 31) = false := beq_eq_false_iff_ne.mpr c9
        have c9b1 : ((Go.bits .and .u8 (rd (l0.drop (a1 : Int).toNat) 0) 31) != 31) = true := bne_iff_ne.mpr c9
        by_cases c11 : ((l0.drop (a1 : Int).toNat).length : Int) < 2
        ·rw [if_pos c11] at H
         have c11b0 : decide (((l0.drop (a1 : Int).toNat).length : Int) < 2) = true := decide_eq_true c11
         have c11b0d := c11b0
         (try simp only [List.length_drop, List.drop_drop] at c11b0d)
         have c11b1 : decide ((l0.drop (a1 : Int).toNat).length < 2) = true := decide_eq_true (by omega)
         have c11b1d := c11b1
         (try simp only [List.length_drop, List.drop_drop] at c11b1d)
         clear c11
         simp only [Option.some.injEq, Prod.mk.injEq] at H
         obtain ⟨rfl, rfl, rfl, rfl⟩ := H
         obtain ⟨i012, hi012, _, hsz12, _⟩ := info_parts info5
         obtain ⟨A12, hcut12, hA12, hC12⟩ := print_drop_of (P := Tryd.prog) (Value.int .u8) 0 24 5 .i64 Tryd.underlying24 hi012 hsz12 A0 c0 l0 a1 (oD) (oD) HC0.out
         have HR101 := aZ (Kd.C_of_reads (h1 := fun _ => rfl) (hA12 _ (Kd.reads_of_C HR0.out)))
         have HC101 := aZ hC12
         clear hA12 hC12 hi012 hsz12
         have p102 : 0 ≤ (0 : Int) := (by omega)
         have q102 : 0 < ((l0.drop (a1 : Int).toNat).length : Int) := oD
         obtain ⟨ad102, e102, hx102_0⟩ := Kd.at_int HR101.out 0 p102 q102
         cases e102
         have qi102 : (0 < (l0.drop (a1 : Int).toNat).length) = True := eq_true (by omega)
         have qi102d := qi102
         (try simp only [List.length_drop, List.drop_drop] at qi102d)
         (try rw [show ((0 : Int)).toNat = 0 from rfl] at hx102_0)
         (try rw [Addr.add_zero'] at hx102_0)
         replace p102 := eq_true p102
         replace q102 := eq_true q102
         have q102d := q102
         (try simp only [List.length_drop, List.drop_drop] at q102d)
         go_enter Tryd.func51, Tryd.ntmps51
         go_wp2
         refine wp_scope_fwd 0 (by rfl) ?_
         go_wp2
         repeat (go_quiet (fail); try go_wp2)
         (try (apply wp_goto; refine And.intro (rfl : (0 : Nat) = 0) ?_; go_wp2))
         (try (go_step3; go_wp2))
         (try simp only [Exit.then, Exit.inBlock, Exit.jump])
         refine bodyPost_ret (results_list (rs := [.tmp 4, .tmp 5, .tmp 6, .tmp 7]) rfl (by simp) (.tmp (.tmp (.tmp (.tmp .nil))))) rfl ?_
         exact ⟨by first | rfl | (simp; done) | (simp [*]; done) | (simp [Nat.sub_sub]; done) | (simp only [List.length_drop, Nat.sub_sub]; done), d0⟩
        ·rw [if_neg c11] at H
         have c11b0 : decide (((l0.drop (a1 : Int).toNat).length : Int) < 2) = false := decide_eq_false c11
         have c11b0d := c11b0
         (try simp only [List.length_drop, List.drop_drop] at c11b0d)
         have c11b1 : decide ((l0.drop (a1 : Int).toNat).length < 2) = false := decide_eq_false (by omega)
         have c11b1d := c11b1
         (try simp only [List.length_drop, List.drop_drop] at c11b1d)
         clear c11
         by_cases c13 : 1 < ((l0.drop (a1 : Int).toNat).length : Int)
         ·rw [if_pos c13] at H
          have c13b0 : decide (1 < ((l0.drop (a1 : Int).toNat).length : Int)) = true := decide_eq_true c13
          have c13b0d := c13b0
          (try simp only [List.length_drop, List.drop_drop] at c13b0d)
          have c13b1 : decide (1 < (l0.drop (a1 : Int).toNat).length) = true := decide_eq_true (by omega)
          have c13b1d := c13b1
          (try simp only [List.length_drop, List.drop_drop] at c13b1d)
          clear c13
          by_cases c14 : 2 ≤ ((l0.drop (a1 : Int).toNat).length : Int)
          ·rw [if_pos c14] at H
           have c14b0 := eq_true c14
           have c14b0d := c14b0
           (try simp only [List.length_drop, List.drop_drop] at c14b0d)
           have c14b1 : decide (2 ≤ ((l0.drop (a1 : Int).toNat).length : Int)) = true := decide_eq_true c14
           have c14b1d := c14b1
           (try simp only [List.length_drop, List.drop_drop] at c14b1d)
           clear c14
           by_cases c15 : (wrap64 (rd (l0.drop (a1 : Int).toNat) 1)) = 129
           ·rw [if_pos c15] at H
            have c15b0 : ((wrap64 (rd (l0.drop (a1 : Int).toNat) 1)) == 129) = true := beq_iff_eq.mpr c15
            have c15b1 : ((wrap64 (rd (l0.drop (a1 : Int).toNat) 1)) != 129) = false := bne_eq_false_iff_eq.mpr c15
            clear c15
            by_cases c16 : (((l0.drop (a1 : Int).toNat).drop 2).length : Int) < 1
            ·rw [if_pos c16] at H
             have c16b0 : decide ((((l0.drop (a1 : Int).toNat).drop 2).length : Int) < 1) = true := decide_eq_true c16
             have c16b0d := c16b0
             (try simp only [List.length_drop, List.drop_drop] at c16b0d)
             have c16b1 : decide (((l0.drop (a1 : Int).toNat).drop 2).length < 1) = true := decide_eq_true (by omega)
             have c16b1d := c16b1
             (try simp only [List.length_drop, List.drop_drop] at c16b1d)
             clear c16
             simp only [Option.some.injEq, Prod.mk.injEq] at H
             obtain ⟨rfl, rfl, rfl, rfl⟩ := H
             obtain ⟨i017, hi017, _, hsz17, _⟩ := info_parts info5
             obtain ⟨A17, hcut17, hA17, hC17⟩ := print_drop_of (P := Tryd.prog) (Value.int .u8) 0 24 5 .i64 Tryd.underlying24 hi017 hsz17 A0 c0 l0 a1 (oD) (oD) HC0.out
             have HR101 := aZ (Kd.C_of_reads (h1 := fun _ => rfl) (hA17 _ (Kd.reads_of_C HR0.out)))
             have HC101 := aZ hC17
             clear hA17 hC17 hi017 hsz17
             have p102 : 0 ≤ (0 : Int) := (by omega)
             have q102 : 0 < ((l0.drop (a1 : Int).toNat).length : Int) := oD
             obtain ⟨ad102, e102, hx102_0⟩ := Kd.at_int HR101.out 0 p102 q102
             cases e102
             have qi102 : (0 < (l0.drop (a1 : Int).toNat).length) = True := eq_true (by omega)
             have qi102d := qi102
             (try simp only [List.length_drop, List.drop_drop] at qi102d)
             (try rw [show ((0 : Int)).toNat = 0 from rfl] at hx102_0)
             (try rw [Addr.add_zero'] at hx102_0)
             replace p102 := eq_true p102
             replace q102 := eq_true q102
             have q102d := q102
             (try simp only [List.length_drop, List.drop_drop] at q102d)
             have p103 : 0 ≤ (1 : Int) := (by omega)
             have q103 : 1 < ((l0.drop (a1 : Int).toNat).length : Int) := oD
             obtain ⟨ad103, e103, hx103_0⟩ := Kd.at_int HR101.out 1 p103 q103
             obtain rfl : ad102 = ad103 := (by injection e103)
             (try simp only [show (1 : Int).toNat = 1 from rfl, Nat.reduceMul, Nat.reduceEqDiff, Go.Addr.add, ↓reduceIte] at hx103_0)
             have qi103 : (1 < (l0.drop (a1 : Int).toNat).length) = True := eq_true (by omega)
             have qi103d := qi103
             (try simp only [List.length_drop, List.drop_drop] at qi103d)
             (try rw [show ((1 : Int)).toNat = 1 from rfl] at hx103_0)
             replace p103 := eq_true p103
             replace q103 := eq_true q103
             have q103d := q103
             (try simp only [List.length_drop, List.drop_drop] at q103d)
             obtain ⟨i018, hi018, _, hsz18, _⟩ := info_parts info5
             obtain ⟨A18, hcut18, hA18, hC18⟩ := print_drop_of (P := Tryd.prog) (Value.int .u8) 0 24 5 .i64 Tryd.underlying24 hi018 hsz18 (some ad102) (c0 - a1.toNat) (l0.drop (a1 : Int).toNat) 2 (by omega) (oD) HC101.out
             have hcut18d := hcut18
             (try simp only [List.length_drop, List.drop_drop] at hcut18d)
             have HR104 := aZ (Kd.C_of_reads (h1 := fun _ => rfl) (hA18 _ (Kd.reads_of_C HR101.out)))
             have HC104 := aZ hC18
             clear hA18 hC18 hi018 hsz18
             go_enter Tryd.func51, Tryd.ntmps51
             go_wp2
             refine wp_scope_fwd 0 (by rfl) ?_
             go_wp2
             repeat (go_quiet (fail); try go_wp2)
             (try (apply wp_goto; refine And.intro (rfl : (0 : Nat) = 0) ?_; go_wp2))
             (try (go_step3; go_wp2))
             (try simp only [Exit.then, Exit.inBlock, Exit.jump])
             refine bodyPost_ret (results_list (rs := [.tmp 4, .tmp 5, .tmp 6, .tmp 7]) rfl (by simp) (.tmp (.tmp (.tmp (.tmp .nil))))) rfl ?_
             exact ⟨by first | rfl | (simp; done) | (simp [*]; done) | (simp [Nat.sub_sub]; done) | (simp only [List.length_drop, Nat.sub_sub]; done), d0⟩
            ·rw [if_neg c16] at H
             have c16b0 : decide ((((l0.drop (a1 : Int).toNat).drop 2).length : Int) < 1) = false := decide_eq_false c16
             have c16b0d := c16b0
             (try simp only [List.length_drop, List.drop_drop] at c16b0d)
             have c16b1 : decide (((l0.drop (a1 : Int).toNat).drop 2).length < 1) = false := decide_eq_false (by omega)
             have c16b1d := c16b1
             (try simp only [List.length_drop, List.drop_drop] at c16b1d)
             clear c16
             by_cases c19 : 0 < (((l0.drop (a1 : Int).toNat).drop 2).length : Int)
             ·rw [if_pos c19] at H
              have c19b0 : decide (0 < (((l0.drop (a1 : Int).toNat).drop 2).length : Int)) = true := decide_eq_true c19
              have c19b0d := c19b0
              (try simp only [List.length_drop, List.drop_drop] at c19b0d)
              have c19b1 : decide (0 < ((l0.drop (a1 : Int).toNat).drop 2).length) = true := decide_eq_true (by omega)
              have c19b1d := c19b1
              (try simp only [List.length_drop, List.drop_drop] at c19b1d)
              clear c19
              by_cases c20 : 1 ≤ (((l0.drop (a1 : Int).toNat).drop 2).length : Int)
              ·rw [if_pos c20] at H
               have c20b0 := eq_true c20
               have c20b0d := c20b0
               (try simp only [List.length_drop, List.drop_drop] at c20b0d)
               have c20b1 : decide (1 ≤ (((l0.drop (a1 : Int).toNat).drop 2).length : Int)) = true := decide_eq_true c20
               have c20b1d := c20b1
               (try simp only [List.length_drop, List.drop_drop] at c20b1d)
               clear c20
               by_cases c21 : (wrap64 (rd ((l0.drop (a1 : Int).toNat).drop 2) 0)) < 128
               ·rw [if_pos c21] at H
                have c21b0 : decide ((wrap64 (rd ((l0.drop (a1 : Int).toNat).drop 2) 0)) < 128) = true := decide_eq_true c21
                have c21b0d := c21b0
                (try simp only [List.length_drop, List.drop_drop] at c21b0d)
                clear c21
                simp only [Option.some.injEq, Prod.mk.injEq] at H
                obtain ⟨rfl, rfl, rfl, rfl⟩ := H
                obtain ⟨i022, hi022, _, hsz22, _⟩ := info_parts info5
                obtain ⟨A22, hcut22, hA22, hC22⟩ := print_drop_of (P := Tryd.prog) (Value.int .u8) 0 24 5 .i64 Tryd.underlying24 hi022 hsz22 A0 c0 l0 a1 (oD) (oD) HC0.out
                have HR101 := aZ (Kd.C_of_reads (h1 := fun _ => rfl) (hA22 _ (Kd.reads_of_C HR0.out)))
                have HC101 := aZ hC22
                clear hA22 hC22 hi022 hsz22
                have p102 : 0 ≤ (0 : Int) := (by omega)
                have q102 : 0 < ((l0.drop (a1 : Int).toNat).length : Int) := oD
                obtain ⟨ad102, e102, hx102_0⟩ := Kd.at_int HR101.out 0 p102 q102
                cases e102
                have qi102 : (0 < (l0.drop (a1 : Int).toNat).length) = True := eq_true (by omega)
                have qi102d := qi102
                (try simp only [List.length_drop, List.drop_drop] at qi102d)
                (try rw [show ((0 : Int)).toNat = 0 from rfl] at hx102_0)
                (try rw [Addr.add_zero'] at hx102_0)
                replace p102 := eq_true p102
                replace q102 := eq_true q102
                have q102d := q102
                (try simp only [List.length_drop, List.drop_drop] at q102d)
                have p103 : 0 ≤ (1 : Int) := (by omega)
                have q103 : 1 < ((l0.drop (a1 : Int).toNat).length : Int) := oD
                obtain ⟨ad103, e103, hx103_0⟩ := Kd.at_int HR101.out 1 p103 q103
                obtain rfl : ad102 = ad103 := (by injection e103)
                (try simp only [show (1 : Int).toNat = 1 from rfl, Nat.reduceMul, Nat.reduceEqDiff, Go.Addr.add, ↓reduceIte] at hx103_0)
                have qi103 : (1 < (l0.drop (a1 : Int).toNat).length) = True := eq_true (by omega)
                have qi103d := qi103
                (try simp only [List.length_drop, List.drop_drop] at qi103d)
                (try rw [show ((1 : Int)).toNat = 1 from rfl] at hx103_0)
                replace p103 := eq_true p103
                replace q103 := eq_true q103
                have q103d := q103
                (try simp only [List.length_drop, List.drop_drop] at q103d)
                obtain ⟨i023, hi023, _, hsz23, _⟩ := info_parts info5
                obtain ⟨A23, hcut23, hA23, hC23⟩ := print_drop_of (P := Tryd.prog) (Value.int .u8) 0 24 5 .i64 Tryd.underlying24 hi023 hsz23 (some ad102) (c0 - a1.toNat) (l0.drop (a1 : Int).toNat) 2 (by omega) (oD) HC101.out
                have hcut23d := hcut23
                (try simp only [List.length_drop, List.drop_drop] at hcut23d)
                have HR104 := aZ (Kd.C_of_reads (h1 := fun _ => rfl) (hA23 _ (Kd.reads_of_C HR101.out)))
                have HC104 := aZ hC23
                clear hA23 hC23 hi023 hsz23
                have p105 : 0 ≤ (0 : Int) := (by omega)
                have q105 : 0 < (((l0.drop (a1 : Int).toNat).drop 2).length : Int) := oD
                obtain ⟨ad105, e105, hx105_0⟩ := Kd.at_int HR104.out 0 p105 q105
                cases e105
                have qi105 : (0 < ((l0.drop (a1 : Int).toNat).drop 2).length) = True := eq_true (by omega)
                have qi105d := qi105
                (try simp only [List.length_drop, List.drop_drop] at qi105d)
                (try rw [show ((0 : Int)).toNat = 0 from rfl] at hx105_0)
                (try rw [Addr.add_zero'] at hx105_0)
                replace p105 := eq_true p105
                replace q105 := eq_true q105
                have q105d := q105
                (try simp only [List.length_drop, List.drop_drop] at q105d)
                obtain ⟨i024, hi024, _, hsz24, _⟩ := info_parts info5
                obtain ⟨A24, hcut24, hA24, hC24⟩ := print_drop_of (P := Tryd.prog) (Value.int .u8) 0 24 5 .i64 Tryd.underlying24 hi024 hsz24 (some ad105) ((c0 - a1.toNat) - 2) ((l0.drop (a1 : Int).toNat).drop 2) 1 (by omega) (oD) HC104.out
                have hcut24d := hcut24
                (try simp only [List.length_drop, List.drop_drop] at hcut24d)
                have HR106 := aZ (Kd.C_of_reads (h1 := fun _ => rfl) (hA24 _ (Kd.reads_of_C HR104.out)))
                have HC106 := aZ hC24
                clear hA24 hC24 hi024 hsz24
                go_enter Tryd.func51, Tryd.ntmps51
                go_wp2
                refine wp_scope_fwd 0 (by rfl) ?_
                go_wp2
                repeat (go_quiet (fail); try go_wp2)
                (try (apply wp_goto; refine And.intro (rfl : (0 : Nat) = 0) ?_; go_wp2))
                (try (go_step3; go_wp2))
                (try simp only [Exit.then, Exit.inBlock, Exit.jump])
                refine bodyPost_ret (results_list (rs := [.tmp 4, .tmp 5, .tmp 6, .tmp 7]) rfl (by simp) (.tmp (.tmp (.tmp (.tmp .nil))))) rfl ?_
                exact ⟨by first | rfl | (simp; done) | (simp [*]; done) | (simp [Nat.sub_sub]; done) | (simp only [List.length_drop, Nat.sub_sub]; done), d0⟩
               ·rw [if_neg c21] at H
                have c21b0 : decide ((wrap64 (rd ((l0.drop (a1 : Int).toNat).drop 2) 0)) < 128) = false := decide_eq_false c21
                have c21b0d := c21b0
                (try simp only [List.length_drop, List.drop_drop] at c21b0d)
                clear c21
                by_cases c25 : (wrap64 (rd ((l0.drop (a1 : Int).toNat).drop 2) 0)) ≤ ((((l0.drop (a1 : Int).toNat).drop 2).drop 1).length : Int)
                ·rw [if_pos c25] at H
                 have c25b0 : decide ((wrap64 (rd ((l0.drop (a1 : Int).toNat).drop 2) 0)) ≤ ((((l0.drop (a1 : Int).toNat).drop 2).drop 1).length : Int)) = true := decide_eq_true c25
                 have c25b0d := c25b0
                 (try simp only [List.length_drop, List.drop_drop] at c25b0d)
                 clear c25
                 by_cases c26 : a1 < (l0.length : Int)
                 ·rw [if_pos c26] at H
                  have c26b0 : decide (a1 < (l0.length : Int)) = true := decide_eq_true c26
                  clear c26
                  simp only [Option.some.injEq, Prod.mk.injEq] at H
                  obtain ⟨rfl, rfl, rfl, rfl⟩ := H
                  obtain ⟨i027, hi027, _, hsz27, _⟩ := info_parts info5
                  obtain ⟨A27, hcut27, hA27, hC27⟩ := print_drop_of (P := Tryd.prog) (Value.int .u8) 0 24 5 .i64 Tryd.underlying24 hi027 hsz27 A0 c0 l0 a1 (oD) (oD) HC0.out
                  have HR101 := aZ (Kd.C_of_reads (h1 := fun _ => rfl) (hA27 _ (Kd.reads_of_C HR0.out)))
                  have HC101 := aZ hC27
                  clear hA27 hC27 hi027 hsz27
                  have p102 : 0 ≤ (0 : Int) := (by omega)
                  have q102 : 0 < ((l0.drop (a1 : Int).toNat).length : Int) := oD
                  obtain ⟨ad102, e102, hx102_0⟩ := Kd.at_int HR101.out 0 p102 q102
                  cases e102
                  have qi102 : (0 < (l0.drop (a1 : Int).toNat).length) = True := eq_true (by omega)
                  have qi102d := qi102
                  (try simp only [List.length_drop, List.drop_drop] at qi102d)
                  (try rw [show ((0 : Int)).toNat = 0 from rfl] at hx102_0)
                  (try rw [Addr.add_zero'] at hx102_0)
                  replace p102 := eq_true p102
                  replace q102 := eq_true q102
                  have q102d := q102
                  (try simp only [List.length_drop, List.drop_drop] at q102d)
                  have p103 : 0 ≤ (1 : Int) := (by omega)
                  have q103 : 1 < ((l0.drop (a1 : Int).toNat).length : Int) := oD
                  obtain ⟨ad103, e103, hx103_0⟩ := Kd.at_int HR101.out 1 p103 q103
                  obtain rfl : ad102 = ad103 := (by injection e103)
                  (try simp only [show (1 : Int).toNat = 1 from rfl, Nat.reduceMul, Nat.reduceEqDiff, Go.Addr.add, ↓reduceIte] at hx103_0)
                  have qi103 : (1 < (l0.drop (a1 : Int).toNat).length) = True := eq_true (by omega)
                  have qi103d := qi103
                  (try simp only [List.length_drop, List.drop_drop] at qi103d)
                  (try rw [show ((1 : Int)).toNat = 1 from rfl] at hx103_0)
                  replace p103 := eq_true p103
                  replace q103 := eq_true q103
                  have q103d := q103
                  (try simp only [List.length_drop, List.drop_drop] at q103d)
                  obtain ⟨i028, hi028, _, hsz28, _⟩ := info_parts info5
                  obtain ⟨A28, hcut28, hA28, hC28⟩ := print_drop_of (P := Tryd.prog) (Value.int .u8) 0 24 5 .i64 Tryd.underlying24 hi028 hsz28 (some ad102) (c0 - a1.toNat) (l0.drop (a1 : Int).toNat) 2 (by omega) (oD) HC101.out
                  have hcut28d := hcut28
                  (try simp only [List.length_drop, List.drop_drop] at hcut28d)
                  have HR104 := aZ (Kd.C_of_reads (h1 := fun _ => rfl) (hA28 _ (Kd.reads_of_C HR101.out)))
                  have HC104 := aZ hC28
                  clear hA28 hC28 hi028 hsz28
                  have p105 : 0 ≤ (0 : Int) := (by omega)
                  have q105 : 0 < (((l0.drop (a1 : Int).toNat).drop 2).length : Int) := oD
                  obtain ⟨ad105, e105, hx105_0⟩ := Kd.at_int HR104.out 0 p105 q105
                  cases e105
                  have qi105 : (0 < ((l0.drop (a1 : Int).toNat).drop 2).length) = True := eq_true (by omega)
                  have qi105d := qi105
                  (try simp only [List.length_drop, List.drop_drop] at qi105d)
                  (try rw [show ((0 : Int)).toNat = 0 from rfl] at hx105_0)
                  (try rw [Addr.add_zero'] at hx105_0)
                  replace p105 := eq_true p105
                  replace q105 := eq_true q105
                  have q105d := q105
                  (try simp only [List.length_drop, List.drop_drop] at q105d)
                  obtain ⟨i029, hi029, _, hsz29, _⟩ := info_parts info5
                  obtain ⟨A29, hcut29, hA29, hC29⟩ := print_drop_of (P := Tryd.prog) (Value.int .u8) 0 24 5 .i64 Tryd.underlying24 hi029 hsz29 (some ad105) ((c0 - a1.toNat) - 2) ((l0.drop (a1 : Int).toNat).drop 2) 1 (by omega) (oD) HC104.out
                  have hcut29d := hcut29
                  (try simp only [List.length_drop, List.drop_drop] at hcut29d)
                  have HR106 := aZ (Kd.C_of_reads (h1 := fun _ => rfl) (hA29 _ (Kd.reads_of_C HR104.out)))
                  have HC106 := aZ hC29
                  clear hA29 hC29 hi029 hsz29
                  have p107 : 0 ≤ (a1 : Int) := oD
                  have q107 : a1 < (l0.length : Int) := oD
                  obtain ⟨ad107, e107, hx107_0⟩ := Kd.at_int HR0.out a1 p107 q107
                  cases e107
                  replace p107 := eq_true p107
                  replace q107 := eq_true q107
                  go_enter Tryd.func51, Tryd.ntmps51
                  go_wp2
                  refine wp_scope_fwd 0 (by rfl) ?_
                  go_wp2
                  repeat (go_quiet (fail); try go_wp2)
                  (try (apply wp_goto; refine And.intro (rfl : (0 : Nat) = 0) ?_; go_wp2))
                  (try (go_step3; go_wp2))
                  (try simp only [Exit.then, Exit.inBlock, Exit.jump])
                  refine bodyPost_ret (results_list (rs := [.tmp 4, .tmp 5, .tmp 6, .tmp 7]) rfl (by simp) (.tmp (.tmp (.tmp (.tmp .nil))))) rfl ?_
                  exact ⟨by first | rfl | (simp; done) | (simp [*]; done) | (simp [Nat.sub_sub]; done) | (simp only [List.length_drop, Nat.sub_sub]; done), d0⟩
                 ·rw [if_neg c26] at H
                  exact absurd H (by simp)
                ·rw [if_neg c25] at H
                 have c25b0 : decide ((wrap64 (rd ((l0.drop (a1 : Int).toNat).drop 2) 0)) ≤ ((((l0.drop (a1 : Int).toNat).drop 2).drop 1).length : Int)) = false := decide_eq_false c25
                 have c25b0d := c25b0
                 (try simp only [List.length_drop, List.drop_drop] at c25b0d)
                 clear c25
                 simp only [Option.some.injEq, Prod.mk.injEq] at H
                 obtain ⟨rfl, rfl, rfl, rfl⟩ := H
                 obtain ⟨i030, hi030, _, hsz30, _⟩ := info_parts info5
                 obtain ⟨A30, hcut30, hA30, hC30⟩ := print_drop_of (P := Tryd.prog) (Value.int .u8) 0 24 5 .i64 Tryd.underlying24 hi030 hsz30 A0 c0 l0 a1 (oD) (oD) HC0.out
                 have HR101 := aZ (Kd.C_of_reads (h1 := fun _ => rfl) (hA30 _ (Kd.reads_of_C HR0.out)))
                 have HC101 := aZ hC30
                 clear hA30 hC30 hi030 hsz30
                 have p102 : 0 ≤ (0 : Int) := (by omega)
                 have q102 : 0 < ((l0.drop (a1 : Int).toNat).length : Int) := oD
                 obtain ⟨ad102, e102, hx102_0⟩ := Kd.at_int HR101.out 0 p102 q102
                 cases e102
                 have qi102 : (0 < (l0.drop (a1 : Int).toNat).length) = True := eq_true (by omega)
                 have qi102d := qi102
                 (try simp only [List.length_drop, List.drop_drop] at qi102d)
                 (try rw [show ((0 : Int)).toNat = 0 from rfl] at hx102_0)
                 (try rw [Addr.add_zero'] at hx102_0)
                 replace p102 := eq_true p102
                 replace q102 := eq_true q102
                 have q102d := q102
                 (try simp only [List.length_drop, List.drop_drop] at q102d)
                 have p103 : 0 ≤ (1 : Int) := (by omega)
                 have q103 : 1 < ((l0.drop (a1 : Int).toNat).length : Int) := oD
                 obtain ⟨ad103, e103, hx103_0⟩ := Kd.at_int HR101.out 1 p103 q103
                 obtain rfl : ad102 = ad103 := (by injection e103)
                 (try simp only [show (1 : Int).toNat = 1 from rfl, Nat.reduceMul, Nat.reduceEqDiff, Go.Addr.add, ↓reduceIte] at hx103_0)
                 have qi103 : (1 < (l0.drop (a1 : Int).toNat).length) = True := eq_true (by omega)
                 have qi103d := qi103
                 (try simp only [List.length_drop, List.drop_drop] at qi103d)
                 (try rw [show ((1 : Int)).toNat = 1 from rfl] at hx103_0)
                 replace p103 := eq_true p103
                 replace q103 := eq_true q103
                 have q103d := q103
                 (try simp only [List.length_drop, List.drop_drop] at q103d)
                 obtain ⟨i031, hi031, _, hsz31, _⟩ := info_parts info5
                 obtain ⟨A31, hcut31, hA31, hC31⟩ := print_drop_of (P := Tryd.prog) (Value.int .u8) 0 24 5 .i64 Tryd.underlying24 hi031 hsz31 (some ad102) (c0 - a1.toNat) (l0.drop (a1 : Int).toNat) 2 (by omega) (oD) HC101.out
                 have hcut31d := hcut31
                 (try simp only [List.length_drop, List.drop_drop] at hcut31d)
                 have HR104 := aZ (Kd.C_of_reads (h1 := fun _ => rfl) (hA31 _ (Kd.reads_of_C HR101.out)))
                 have HC104 := aZ hC31
                 clear hA31 hC31 hi031 hsz31
                 have p105 : 0 ≤ (0 : Int) := (by omega)
                 have q105 : 0 < (((l0.drop (a1 : Int).toNat).drop 2).length : Int) := oD
                 obtain ⟨ad105, e105, hx105_0⟩ := Kd.at_int HR104.out 0 p105 q105
                 cases e105
                 have qi105 : (0 < ((l0.drop (a1 : Int).toNat).drop 2).length) = True := eq_true (by omega)
                 have qi105d := qi105
                 (try simp only [List.length_drop, List.drop_drop] at qi105d)
                 (try rw [show ((0 : Int)).toNat = 0 from rfl] at hx105_0)
                 (try rw [Addr.add_zero'] at hx105_0)
                 replace p105 := eq_true p105
                 replace q105 := eq_true q105
                 have q105d := q105
                 (try simp only [List.length_drop, List.drop_drop] at q105d)
                 obtain ⟨i032, hi032, _, hsz32, _⟩ := info_parts info5
                 obtain ⟨A32, hcut32, hA32, hC32⟩ := print_drop_of (P := Tryd.prog) (Value.int .u8) 0 24 5 .i64 Tryd.underlying24 hi032 hsz32 (some ad105) ((c0 - a1.toNat) - 2) ((l0.drop (a1 : Int).toNat).drop 2) 1 (by omega) (oD) HC104.out
                 have hcut32d := hcut32
                 (try simp only [List.length_drop, List.drop_drop] at hcut32d)
                 have HR106 := aZ (Kd.C_of_reads (h1 := fun _ => rfl) (hA32 _ (Kd.reads_of_C HR104.out)))
                 have HC106 := aZ hC32
                 clear hA32 hC32 hi032 hsz32
                 go_enter Tryd.func51, Tryd.ntmps51
                 go_wp2
                 refine wp_scope_fwd 0 (by rfl) ?_
                 go_wp2
                 repeat (go_quiet (fail); try go_wp2)
                 (try (apply wp_goto; refine And.intro (rfl : (0 : Nat) = 0) ?_; go_wp2))
                 (try (go_step3; go_wp2))
                 (try simp only [Exit.then, Exit.inBlock, Exit.jump])
                 refine bodyPost_ret (results_list (rs := [.tmp 4, .tmp 5, .tmp 6, .tmp 7]) rfl (by simp) (.tmp (.tmp (.tmp (.tmp .nil))))) rfl ?_
                 exact ⟨by first | rfl | (simp; done) | (simp [*]; done) | (simp [Nat.sub_sub]; done) | (simp only [List.length_drop, Nat.sub_sub]; done), d0⟩
              ·rw [if_neg c20] at H
               exact absurd H (by simp)
             ·rw [if_neg c19] at H
              exact absurd H (by simp)
           ·rw [if_neg c15] at H
            have c15b0 : ((wrap64 (rd (l0.drop (a1 : Int).toNat) 1)) == 129) = false := beq_eq_false_iff_ne.mpr c15
            have c15b1 : ((wrap64 (rd (l0.drop (a1 : Int).toNat) 1)) != 129) = true := bne_iff_ne.mpr c15
            by_cases c33 : (wrap64 (rd (l0.drop (a1 : Int).toNat) 1)) = 130
            ·rw [if_pos c33] at H
             have c33b0 : ((wrap64 (rd (l0.drop (a1 : Int).toNat) 1)) == 130) = true := beq_iff_eq.mpr c33
             have c33b1 : ((wrap64 (rd (l0.drop (a1 : Int).toNat) 1)) != 130) = false := bne_eq_false_iff_eq.mpr c33
             clear c33
             by_cases c34 : (((l0.drop (a1 : Int).toNat).drop 2).length : Int) < 2
             ·rw [if_pos c34] at H
              have c34b0 : decide ((((l0.drop (a1 : Int).toNat).drop 2).length : Int) < 2) = true := decide_eq_true c34
              have c34b0d := c34b0
              (try simp only [List.length_drop, List.drop_drop] at c34b0d)
              have c34b1 : decide (((l0.drop (a1 : Int).toNat).drop 2).length < 2) = true := decide_eq_true (by omega)
              have c34b1d := c34b1
              (try simp only [List.length_drop, List.drop_drop] at c34b1d)
              clear c34
              simp only [Option.some.injEq, Prod.mk.injEq] at H
              obtain ⟨rfl, rfl, rfl, rfl⟩ := H
              obtain ⟨i035, hi035, _, hsz35, _⟩ := info_parts info5
              obtain ⟨A35, hcut35, hA35, hC35⟩ := print_drop_of (P := Tryd.prog) (Value.int .u8) 0 24 5 .i64 Tryd.underlying24 hi035 hsz35 A0 c0 l0 a1 (oD) (oD) HC0.out
              have HR101 := aZ (Kd.C_of_reads (h1 := fun _ => rfl) (hA35 _ (Kd.reads_of_C HR0.out)))
              have HC101 := aZ hC35
              clear hA35 hC35 hi035 hsz35
              have p102 : 0 ≤ (0 : Int) := (by omega)
              have q102 : 0 < ((l0.drop (a1 : Int).toNat).length : Int) := oD
              obtain ⟨ad102, e102, hx102_0⟩ := Kd.at_int HR101.out 0 p102 q102
              cases e102
              have qi102 : (0 < (l0.drop (a1 : Int).toNat).length) = True := eq_true (by omega)
              have qi102d := qi102
              (try simp only [List.length_drop, List.drop_drop] at qi102d)
              (try rw [show ((0 : Int)).toNat = 0 from rfl] at hx102_0)
              (try rw [Addr.add_zero'] at hx102_0)
              replace p102 := eq_true p102
              replace q102 := eq_true q102
              have q102d := q102
              (try simp only [List.length_drop, List.drop_drop] at q102d)
              have p103 : 0 ≤ (1 : Int) := (by omega)
              have q103 : 1 < ((l0.drop (a1 : Int).toNat).length : Int) := oD
              obtain ⟨ad103, e103, hx103_0⟩ := Kd.at_int HR101.out 1 p103 q103
              obtain rfl : ad102 = ad103 := (by injection e103)
              (try simp only [show (1 : Int).toNat = 1 from rfl, Nat.reduceMul, Nat.reduceEqDiff, Go.Addr.add, ↓reduceIte] at hx103_0)
              have qi103 : (1 < (l0.drop (a1 : Int).toNat).length) = True := eq_true (by omega)
              have qi103d := qi103
              (try simp only [List.length_drop, List.drop_drop] at qi103d)
              (try rw [show ((1 : Int)).toNat = 1 from rfl] at hx103_0)
              replace p103 := eq_true p103
              replace q103 := eq_true q103
              have q103d := q103
              (try simp only [List.length_drop, List.drop_drop] at q103d)
              obtain ⟨i036, hi036, _, hsz36, _⟩ := info_parts info5
              obtain ⟨A36, hcut36, hA36, hC36⟩ := print_drop_of (P := Tryd.prog) (Value.int .u8) 0 24 5 .i64 Tryd.underlying24 hi036 hsz36 (some ad102) (c0 - a1.toNat) (l0.drop (a1 : Int).toNat) 2 (by omega) (oD) HC101.out
              have hcut36d := hcut36
              (try simp only [List.length_drop, List.drop_drop] at hcut36d)
              have HR104 := aZ (Kd.C_of_reads (h1 := fun _ => rfl) (hA36 _ (Kd.reads_of_C HR101.out)))
              have HC104 := aZ hC36
              clear hA36 hC36 hi036 hsz36
              go_enter Tryd.func51, Tryd.ntmps51
              go_wp2
              refine wp_scope_fwd 0 (by rfl) ?_
              go_wp2
              repeat (go_quiet (fail); try go_wp2)
              (try (apply wp_goto; refine And.intro (rfl : (0 : Nat) = 0) ?_; go_wp2))
              (try (go_step3; go_wp2))
              (try simp only [Exit.then, Exit.inBlock, Exit.jump])
              refine bodyPost_ret (results_list (rs := [.tmp 4, .tmp 5, .tmp 6, .tmp 7]) rfl (by simp) (.tmp (.tmp (.tmp (.tmp .nil))))) rfl ?_
              exact ⟨by first | rfl | (simp; done) | (simp [*]; done) | (simp [Nat.sub_sub]; done) | (simp only [List.length_drop, Nat.sub_sub]; done), d0⟩
             ·rw [if_neg c34] at H
              have c34b0 : decide ((((l0.drop (a1 : Int).toNat).drop 2).length : Int) < 2) = false := decide_eq_false c34
              have c34b0d := c34b0
              (try simp only [List.length_drop, List.drop_drop] at c34b0d)
              have c34b1 : decide (((l0.drop (a1 : Int).toNat).drop 2).length < 2) = false := decide_eq_false (by omega)
              have c34b1d := c34b1
              (try simp only [List.length_drop, List.drop_drop] at c34b1d)
              clear c34
              by_cases c37 : 0 < (((l0.drop (a1 : Int).toNat).drop 2).length : Int)
              ·rw [if_pos c37] at H
               have c37b0 : decide (0 < (((l0.drop (a1 : Int).toNat).drop 2).length : Int)) = true := decide_eq_true c37
               have c37b0d := c37b0
               (try simp only [List.length_drop, List.drop_drop] at c37b0d)
               have c37b1 : decide (0 < ((l0.drop (a1 : Int).toNat).drop 2).length) = true := decide_eq_true (by omega)
               have c37b1d := c37b1
               (try simp only [List.length_drop, List.drop_drop] at c37b1d)
               clear c37
               by_cases c38 : 1 < (((l0.drop (a1 : Int).toNat).drop 2).length : Int)
               ·rw [if_pos c38] at H
                have c38b0 : decide (1 < (((l0.drop (a1 : Int).toNat).drop 2).length : Int)) = true := decide_eq_true c38
                have c38b0d := c38b0
                (try simp only [List.length_drop, List.drop_drop] at c38b0d)
                have c38b1 : decide (1 < ((l0.drop (a1 : Int).toNat).drop 2).length) = true := decide_eq_true (by omega)
                have c38b1d := c38b1
                (try simp only [List.length_drop, List.drop_drop] at c38b1d)
                clear c38
                by_cases c39 : 2 ≤ (((l0.drop (a1 : Int).toNat).drop 2).length : Int)
                ·rw [if_pos c39] at H
                 have c39b0 := eq_true c39
                 have c39b0d := c39b0
                 (try simp only [List.length_drop, List.drop_drop] at c39b0d)
                 have c39b1 : decide (2 ≤ (((l0.drop (a1 : Int).toNat).drop 2).length : Int)) = true := decide_eq_true c39
                 have c39b1d := c39b1
                 (try simp only [List.length_drop, List.drop_drop] at c39b1d)
                 clear c39
                 by_cases c40 : (wrap64 ((wrap64 ((wrap64 (rd ((l0.drop (a1 : Int).toNat).drop 2) 0)) * 256)) + (wrap64 (rd ((l0.drop (a1 : Int).toNat).drop 2) 1)))) < 256
                 ·rw [if_pos c40] at H
                  have c40b0 : decide ((wrap64 ((wrap64 ((wrap64 (rd ((l0.drop (a1 : Int).toNat).drop 2) 0)) * 256)) + (wrap64 (rd ((l0.drop (a1 : Int).toNat).drop 2) 1)))) < 256) = true := decide_eq_true c40
                  have c40b0d := c40b0
                  (try simp only [List.length_drop, List.drop_drop] at c40b0d)
                  clear c40
                  simp only [Option.some.injEq, Prod.mk.injEq] at H
                  obtain ⟨rfl, rfl, rfl, rfl⟩ := H
                  obtain ⟨i041, hi041, _, hsz41, _⟩ := info_parts info5
                  obtain ⟨A41, hcut41, hA41, hC41⟩ := print_drop_of (P := Tryd.prog) (Value.int .u8) 0 24 5 .i64 Tryd.underlying24 hi041 hsz41 A0 c0 l0 a1 (oD) (oD) HC0.out
                  have HR101 := aZ (Kd.C_of_reads (h1 := fun _ => rfl) (hA41 _ (Kd.reads_of_C HR0.out)))
                  have HC101 := aZ hC41
                  clear hA41 hC41 hi041 hsz41
                  have p102 : 0 ≤ (0 : Int) := (by omega)
                  have q102 : 0 < ((l0.drop (a1 : Int).toNat).length : Int) := oD
                  obtain ⟨ad102, e102, hx102_0⟩ := Kd.at_int HR101.out 0 p102 q102
                  cases e102
                  have qi102 : (0 < (l0.drop (a1 : Int).toNat).length) = True := eq_true (by omega)
                  have qi102d := qi102
                  (try simp only [List.length_drop, List.drop_drop] at qi102d)
                  (try rw [show ((0 : Int)).toNat = 0 from rfl] at hx102_0)
                  (try rw [Addr.add_zero'] at hx102_0)
                  replace p102 := eq_true p102
                  replace q102 := eq_true q102
                  have q102d := q102
                  (try simp only [List.length_drop, List.drop_drop] at q102d)
                  have p103 : 0 ≤ (1 : Int) := (by omega)
                  have q103 : 1 < ((l0.drop (a1 : Int).toNat).length : Int) := oD
                  obtain ⟨ad103, e103, hx103_0⟩ := Kd.at_int HR101.out 1 p103 q103
                  obtain rfl : ad102 = ad103 := (by injection e103)
                  (try simp only [show (1 : Int).toNat = 1 from rfl, Nat.reduceMul, Nat.reduceEqDiff, Go.Addr.add, ↓reduceIte] at hx103_0)
                  have qi103 : (1 < (l0.drop (a1 : Int).toNat).length) = True := eq_true (by omega)
                  have qi103d := qi103
                  (try simp only [List.length_drop, List.drop_drop] at qi103d)
                  (try rw [show ((1 : Int)).toNat = 1 from rfl] at hx103_0)
                  replace p103 := eq_true p103
                  replace q103 := eq_true q103
                  have q103d := q103
                  (try simp only [List.length_drop, List.drop_drop] at q103d)
                  obtain ⟨i042, hi042, _, hsz42, _⟩ := info_parts info5
                  obtain ⟨A42, hcut42, hA42, hC42⟩ := print_drop_of (P := Tryd.prog) (Value.int .u8) 0 24 5 .i64 Tryd.underlying24 hi042 hsz42 (some ad102) (c0 - a1.toNat) (l0.drop (a1 : Int).toNat) 2 (by omega) (oD) HC101.out
                  have hcut42d := hcut42
                  (try simp only [List.length_drop, List.drop_drop] at hcut42d)
                  have HR104 := aZ (Kd.C_of_reads (h1 := fun _ => rfl) (hA42 _ (Kd.reads_of_C HR101.out)))
                  have HC104 := aZ hC42
                  clear hA42 hC42 hi042 hsz42
                  have p108 : 0 ≤ (0 : Int) := (by omega)
                  have q108 : 0 < (((l0.drop (a1 : Int).toNat).drop 2).length : Int) := oD
                  obtain ⟨ad108, e108, hx108_0⟩ := Kd.at_int HR104.out 0 p108 q108
                  cases e108
                  have qi108 : (0 < ((l0.drop (a1 : Int).toNat).drop 2).length) = True := eq_true (by omega)
                  have qi108d := qi108
                  (try simp only [List.length_drop, List.drop_drop] at qi108d)
                  (try rw [show ((0 : Int)).toNat = 0 from rfl] at hx108_0)
                  (try rw [Addr.add_zero'] at hx108_0)
                  replace p108 := eq_true p108
                  replace q108 := eq_true q108
                  have q108d := q108
                  (try simp only [List.length_drop, List.drop_drop] at q108d)
                  have p109 : 0 ≤ (1 : Int) := (by omega)
                  have q109 : 1 < (((l0.drop (a1 : Int).toNat).drop 2).length : Int) := oD
                  obtain ⟨ad109, e109, hx109_0⟩ := Kd.at_int HR104.out 1 p109 q109
                  obtain rfl : ad108 = ad109 := (by injection e109)
                  (try simp only [show (1 : Int).toNat = 1 from rfl, Nat.reduceMul, Nat.reduceEqDiff, Go.Addr.add, ↓reduceIte] at hx109_0)
                  have qi109 : (1 < ((l0.drop (a1 : Int).toNat).drop 2).length) = True := eq_true (by omega)
                  have qi109d := qi109
                  (try simp only [List.length_drop, List.drop_drop] at qi109d)
                  (try rw [show ((1 : Int)).toNat = 1 from rfl] at hx109_0)
                  replace p109 := eq_true p109
                  replace q109 := eq_true q109
                  have q109d := q109
                  (try simp only [List.length_drop, List.drop_drop] at q109d)
                  obtain ⟨i043, hi043, _, hsz43, _⟩ := info_parts info5
                  obtain ⟨A43, hcut43, hA43, hC43⟩ := print_drop_of (P := Tryd.prog) (Value.int .u8) 0 24 5 .i64 Tryd.underlying24 hi043 hsz43 (some ad108) ((c0 - a1.toNat) - 2) ((l0.drop (a1 : Int).toNat).drop 2) 2 (by omega) (oD) HC104.out
                  have hcut43d := hcut43
                  (try simp only [List.length_drop, List.drop_drop] at hcut43d)
                  have HR110 := aZ (Kd.C_of_reads (h1 := fun _ => rfl) (hA43 _ (Kd.reads_of_C HR104.out)))
                  have HC110 := aZ hC43
                  clear hA43 hC43 hi043 hsz43
                  go_enter Tryd.func51, Tryd.ntmps51
                  go_wp2
                  refine wp_scope_fwd 0 (by rfl) ?_
                  go_wp2
                  repeat (go_quiet (fail); try go_wp2)
                  (try (apply wp_goto; refine And.intro (rfl : (0 : Nat) = 0) ?_; go_wp2))
                  (try (go_step3; go_wp2))
                  (try simp only [Exit.then, Exit.inBlock, Exit.jump])
                  refine bodyPost_ret (results_list (rs := [.tmp 4, .tmp 5, .tmp 6, .tmp 7]) rfl (by simp) (.tmp (.tmp (.tmp (.tmp .nil))))) rfl ?_
                  exact ⟨by first | rfl | (simp; done) | (simp [*]; done) | (simp [Nat.sub_sub]; done) | (simp only [List.length_drop, Nat.sub_sub]; done), d0⟩
                 ·rw [if_neg c40] at H
                  have c40b0 : decide ((wrap64 ((wrap64 ((wrap64 (rd ((l0.drop (a1 : Int).toNat).drop 2) 0)) * 256)) + (wrap64 (rd ((l0.drop (a1 : Int).toNat).drop 2) 1)))) < 256) = false := decide_eq_false c40
                  have c40b0d := c40b0
                  (try simp only [List.length_drop, List.drop_drop] at c40b0d)
                  clear c40
                  by_cases c44 : (wrap64 ((wrap64 ((wrap64 (rd ((l0.drop (a1 : Int).toNat).drop 2) 0)) * 256)) + (wrap64 (rd ((l0.drop (a1 : Int).toNat).drop 2) 1)))) ≤ ((((l0.drop (a1 : Int).toNat).drop 2).drop 2).length : Int)
                  ·rw [if_pos c44] at H
                   have c44b0 : decide ((wrap64 ((wrap64 ((wrap64 (rd ((l0.drop (a1 : Int).toNat).drop 2) 0)) * 256)) + (wrap64 (rd ((l0.drop (a1 : Int).toNat).drop 2) 1)))) ≤ ((((l0.drop (a1 : Int).toNat).drop 2).drop 2).length : Int)) = true := decide_eq_true c44
                   have c44b0d := c44b0
                   (try simp only [List.length_drop, List.drop_drop] at c44b0d)
                   clear c44
                   by_cases c45 : a1 < (l0.length : Int)
                   ·rw [if_pos c45] at H
                    have c45b0 : decide (a1 < (l0.length : Int)) = true := decide_eq_true c45
                    clear c45
                    simp only [Option.some.injEq, Prod.mk.injEq] at H
                    obtain ⟨rfl, rfl, rfl, rfl⟩ := H
                    obtain ⟨i046, hi046, _, hsz46, _⟩ := info_parts info5
                    obtain ⟨A46, hcut46, hA46, hC46⟩ := print_drop_of (P := Tryd.prog) (Value.int .u8) 0 24 5 .i64 Tryd.underlying24 hi046 hsz46 A0 c0 l0 a1 (oD) (oD) HC0.out
                    have HR101 := aZ (Kd.C_of_reads (h1 := fun _ => rfl) (hA46 _ (Kd.reads_of_C HR0.out)))
                    have HC101 := aZ hC46
                    clear hA46 hC46 hi046 hsz46
                    have p102 : 0 ≤ (0 : Int) := (by omega)
                    have q102 : 0 < ((l0.drop (a1 : Int).toNat).length : Int) := oD
                    obtain ⟨ad102, e102, hx102_0⟩ := Kd.at_int HR101.out 0 p102 q102
                    cases e102
                    have qi102 : (0 < (l0.drop (a1 : Int).toNat).length) = True := eq_true (by omega)
                    have qi102d := qi102
                    (try simp only [List.length_drop, List.drop_drop] at qi102d)
                    (try rw [show ((0 : Int)).toNat = 0 from rfl] at hx102_0)
                    (try rw [Addr.add_zero'] at hx102_0)
                    replace p102 := eq_true p102
                    replace q102 := eq_true q102
                    have q102d := q102
                    (try simp only [List.length_drop, List.drop_drop] at q102d)
                    have p103 : 0 ≤ (1 : Int) := (by omega)
                    have q103 : 1 < ((l0.drop (a1 : Int).toNat).length : Int) := oD
                    obtain ⟨ad103, e103, hx103_0⟩ := Kd.at_int HR101.out 1 p103 q103
                    obtain rfl : ad102 = ad103 := (by injection e103)
                    (try simp only [show (1 : Int).toNat = 1 from rfl, Nat.reduceMul, Nat.reduceEqDiff, Go.Addr.add, ↓reduceIte] at hx103_0)
                    have qi103 : (1 < (l0.drop (a1 : Int).toNat).length) = True := eq_true (by omega)
                    have qi103d := qi103
                    (try simp only [List.length_drop, List.drop_drop] at qi103d)
                    (try rw [show ((1 : Int)).toNat = 1 from rfl] at hx103_0)
                    replace p103 := eq_true p103
                    replace q103 := eq_true q103
                    have q103d := q103
                    (try simp only [List.length_drop, List.drop_drop] at q103d)
                    obtain ⟨i047, hi047, _, hsz47, _⟩ := info_parts info5
                    obtain ⟨A47, hcut47, hA47, hC47⟩ := print_drop_of (P := Tryd.prog) (Value.int .u8) 0 24 5 .i64 Tryd.underlying24 hi047 hsz47 (some ad102) (c0 - a1.toNat) (l0.drop (a1 : Int).toNat) 2 (by omega) (oD) HC101.out
                    have hcut47d := hcut47
                    (try simp only [List.length_drop, List.drop_drop] at hcut47d)
                    have HR104 := aZ (Kd.C_of_reads (h1 := fun _ => rfl) (hA47 _ (Kd.reads_of_C HR101.out)))
                    have HC104 := aZ hC47
                    clear hA47 hC47 hi047 hsz47
                    have p108 : 0 ≤ (0 : Int) := (by omega)
                    have q108 : 0 < (((l0.drop (a1 : Int).toNat).drop 2).length : Int) := oD
                    obtain ⟨ad108, e108, hx108_0⟩ := Kd.at_int HR104.out 0 p108 q108
                    cases e108
                    have qi108 : (0 < ((l0.drop (a1 : Int).toNat).drop 2).length) = True := eq_true (by omega)
                    have qi108d := qi108
                    (try simp only [List.length_drop, List.drop_drop] at qi108d)
                    (try rw [show ((0 : Int)).toNat = 0 from rfl] at hx108_0)
                    (try rw [Addr.add_zero'] at hx108_0)
                    replace p108 := eq_true p108
                    replace q108 := eq_true q108
                    have q108d := q108
                    (try simp only [List.length_drop, List.drop_drop] at q108d)
                    have p109 : 0 ≤ (1 : Int) := (by omega)
                    have q109 : 1 < (((l0.drop (a1 : Int).toNat).drop 2).length : Int) := oD
                    obtain ⟨ad109, e109, hx109_0⟩ := Kd.at_int HR104.out 1 p109 q109
                    obtain rfl : ad108 = ad109 := (by injection e109)
                    (try simp only [show (1 : Int).toNat = 1 from rfl, Nat.reduceMul, Nat.reduceEqDiff, Go.Addr.add, ↓reduceIte] at hx109_0)
                    have qi109 : (1 < ((l0.drop (a1 : Int).toNat).drop 2).length) = True := eq_true (by omega)
                    have qi109d := qi109
                    (try simp only [List.length_drop, List.drop_drop] at qi109d)
                    (try rw [show ((1 : Int)).toNat = 1 from rfl] at hx109_0)
                    replace p109 := eq_true p109
                    replace q109 := eq_true q109
                    have q109d := q109
                    (try simp only [List.length_drop, List.drop_drop] at q109d)
                    obtain ⟨i048, hi048, _, hsz48, _⟩ := info_parts info5
                    obtain ⟨A48, hcut48, hA48, hC48⟩ := print_drop_of (P := Tryd.prog) (Value.int .u8) 0 24 5 .i64 Tryd.underlying24 hi048 hsz48 (some ad108) ((c0 - a1.toNat) - 2) ((l0.drop (a1 : Int).toNat).drop 2) 2 (by omega) (oD) HC104.out
                    have hcut48d := hcut48
                    (try simp only [List.length_drop, List.drop_drop] at hcut48d)
                    have HR110 := aZ (Kd.C_of_reads (h1 := fun _ => rfl) (hA48 _ (Kd.reads_of_C HR104.out)))
                    have HC110 := aZ hC48
                    clear hA48 hC48 hi048 hsz48
                    have p111 : 0 ≤ (a1 : Int) := oD
                    have q111 : a1 < (l0.length : Int) := oD
                    obtain ⟨ad111, e111, hx111_0⟩ := Kd.at_int HR0.out a1 p111 q111
                    cases e111
                    replace p111 := eq_true p111
                    replace q111 := eq_true q111
                    go_enter Tryd.func51, Tryd.ntmps51
                    go_wp2
                    refine wp_scope_fwd 0 (by rfl) ?_
                    go_wp2
                    repeat (go_quiet (fail); try go_wp2)
                    (try (apply wp_goto; refine And.intro (rfl : (0 : Nat) = 0) ?_; go_wp2))
                    (try (go_step3; go_wp2))
                    (try simp only [Exit.then, Exit.inBlock, Exit.jump])
                    refine bodyPost_ret (results_list (rs := [.tmp 4, .tmp 5, .tmp 6, .tmp 7]) rfl (by simp) (.tmp (.tmp (.tmp (.tmp .nil))))) rfl ?_
                    exact ⟨by first | rfl | (simp; done) | (simp [*]; done) | (simp [Nat.sub_sub]; done) | (simp only [List.length_drop, Nat.sub_sub]; done), d0⟩
                   ·rw [if_neg c45] at H
                    exact absurd H (by simp)
                  ·rw [if_neg c44] at H
                   have c44b0 : decide ((wrap64 ((wrap64 ((wrap64 (rd ((l0.drop (a1 : Int).toNat).drop 2) 0)) * 256)) + (wrap64 (rd ((l0.drop (a1 : Int).toNat).drop 2) 1)))) ≤ ((((l0.drop (a1 : Int).toNat).drop 2).drop 2).length : Int)) = false := decide_eq_false c44
                   have c44b0d := c44b0
                   (try simp only [List.length_drop, List.drop_drop] at c44b0d)
                   clear c44
                   simp only [Option.some.injEq, Prod.mk.injEq] at H
                   obtain ⟨rfl, rfl, rfl, rfl⟩ := H
                   obtain ⟨i049, hi049, _, hsz49, _⟩ := info_parts info5
                   obtain ⟨A49, hcut49, hA49, hC49⟩ := print_drop_of (P := Tryd.prog) (Value.int .u8) 0 24 5 .i64 Tryd.underlying24 hi049 hsz49 A0 c0 l0 a1 (oD) (oD) HC0.out
                   have HR101 := aZ (Kd.C_of_reads (h1 := fun _ => rfl) (hA49 _ (Kd.reads_of_C HR0.out)))
                   have HC101 := aZ hC49
                   clear hA49 hC49 hi049 hsz49
                   have p102 : 0 ≤ (0 : Int) := (by omega)
                   have q102 : 0 < ((l0.drop (a1 : Int).toNat).length : Int) := oD
                   obtain ⟨ad102, e102, hx102_0⟩ := Kd.at_int HR101.out 0 p102 q102
                   cases e102
                   have qi102 : (0 < (l0.drop (a1 : Int).toNat).length) = True := eq_true (by omega)
                   have qi102d := qi102
                   (try simp only [List.length_drop, List.drop_drop] at qi102d)
                   (try rw [show ((0 : Int)).toNat = 0 from rfl] at hx102_0)
                   (try rw [Addr.add_zero'] at hx102_0)
                   replace p102 := eq_true p102
                   replace q102 := eq_true q102
                   have q102d := q102
                   (try simp only [List.length_drop, List.drop_drop] at q102d)
                   have p103 : 0 ≤ (1 : Int) := (by omega)
                   have q103 : 1 < ((l0.drop (a1 : Int).toNat).length : Int) := oD
                   obtain ⟨ad103, e103, hx103_0⟩ := Kd.at_int HR101.out 1 p103 q103
                   obtain rfl : ad102 = ad103 := (by injection e103)
                   (try simp only [show (1 : Int).toNat = 1 from rfl, Nat.reduceMul, Nat.reduceEqDiff, Go.Addr.add, ↓reduceIte] at hx103_0)
                   have qi103 : (1 < (l0.drop (a1 : Int).toNat).length) = True := eq_true (by omega)
                   have qi103d := qi103
                   (try simp only [List.length_drop, List.drop_drop] at qi103d)
                   (try rw [show ((1 : Int)).toNat = 1 from rfl] at hx103_0)
                   replace p103 := eq_true p103
                   replace q103 := eq_true q103
                   have q103d := q103
                   (try simp only [List.length_drop, List.drop_drop] at q103d)
                   obtain ⟨i050, hi050, _, hsz50, _⟩ := info_parts info5
                   obtain ⟨A50, hcut50, hA50, hC50⟩ := print_drop_of (P := Tryd.prog) (Value.int .u8) 0 24 5 .i64 Tryd.underlying24 hi050 hsz50 (some ad102) (c0 - a1.toNat) (l0.drop (a1 : Int).toNat) 2 (by omega) (oD) HC101.out
                   have hcut50d := hcut50
                   (try simp only [List.length_drop, List.drop_drop] at hcut50d)
                   have HR104 := aZ (Kd.C_of_reads (h1 := fun _ => rfl) (hA50 _ (Kd.reads_of_C HR101.out)))
                   have HC104 := aZ hC50
                   clear hA50 hC50 hi050 hsz50
                   have p108 : 0 ≤ (0 : Int) := (by omega)
                   have q108 : 0 < (((l0.drop (a1 : Int).toNat).drop 2).length : Int) := oD
                   obtain ⟨ad108, e108, hx108_0⟩ := Kd.at_int HR104.out 0 p108 q108
                   cases e108
                   have qi108 : (0 < ((l0.drop (a1 : Int).toNat).drop 2).length) = True := eq_true (by omega)
                   have qi108d := qi108
                   (try simp only [List.length_drop, List.drop_drop] at qi108d)
                   (try rw [show ((0 : Int)).toNat = 0 from rfl] at hx108_0)
                   (try rw [Addr.add_zero'] at hx108_0)
                   replace p108 := eq_true p108
                   replace q108 := eq_true q108
                   have q108d := q108
                   (try simp only [List.length_drop, List.drop_drop] at q108d)
                   have p109 : 0 ≤ (1 : Int) := (by omega)
                   have q109 : 1 < (((l0.drop (a1 : Int).toNat).drop 2).length : Int) := oD
                   obtain ⟨ad109, e109, hx109_0⟩ := Kd.at_int HR104.out 1 p109 q109
                   obtain rfl : ad108 = ad109 := (by injection e109)
                   (try simp only [show (1 : Int).toNat = 1 from rfl, Nat.reduceMul, Nat.reduceEqDiff, Go.Addr.add, ↓reduceIte] at hx109_0)
                   have qi109 : (1 < ((l0.drop (a1 : Int).toNat).drop 2).length) = True := eq_true (by omega)
                   have qi109d := qi109
                   (try simp only [List.length_drop, List.drop_drop] at qi109d)
                   (try rw [show ((1 : Int)).toNat = 1 from rfl] at hx109_0)
                   replace p109 := eq_true p109
                   replace q109 := eq_true q109
                   have q109d := q109
                   (try simp only [List.length_drop, List.drop_drop] at q109d)
                   obtain ⟨i051, hi051, _, hsz51, _⟩ := info_parts info5
                   obtain ⟨A51, hcut51, hA51, hC51⟩ := print_drop_of (P := Tryd.prog) (Value.int .u8) 0 24 5 .i64 Tryd.underlying24 hi051 hsz51 (some ad108) ((c0 - a1.toNat) - 2) ((l0.drop (a1 : Int).toNat).drop 2) 2 (by omega) (oD) HC104.out
                   have hcut51d := hcut51
                   (try simp only [List.length_drop, List.drop_drop] at hcut51d)
                   have HR110 := aZ (Kd.C_of_reads (h1 := fun _ => rfl) (hA51 _ (Kd.reads_of_C HR104.out)))
                   have HC110 := aZ hC51
                   clear hA51 hC51 hi051 hsz51
                   go_enter Tryd.func51, Tryd.ntmps51
                   go_wp2
                   refine wp_scope_fwd 0 (by rfl) ?_
                   go_wp2
                   repeat (go_quiet (fail); try go_wp2)
                   (try (apply wp_goto; refine And.intro (rfl : (0 : Nat) = 0) ?_; go_wp2))
                   (try (go_step3; go_wp2))
                   (try simp only [Exit.then, Exit.inBlock, Exit.jump])
                   refine bodyPost_ret (results_list (rs := [.tmp 4, .tmp 5, .tmp 6, .tmp 7]) rfl (by simp) (.tmp (.tmp (.tmp (.tmp .nil))))) rfl ?_
                   exact ⟨by first | rfl | (simp; done) | (simp [*]; done) | (simp [Nat.sub_sub]; done) | (simp only [List.length_drop, Nat.sub_sub]; done), d0⟩
                ·rw [if_neg c39] at H
                 exact absurd H (by simp)
               ·rw [if_neg c38] at H
                exact absurd H (by simp)
              ·rw [if_neg c37] at H
               exact absurd H (by simp)
            ·rw [if_neg c33] at H
             have c33b0 : ((wrap64 (rd (l0.drop (a1 : Int).toNat) 1)) == 130) = false := beq_eq_false_iff_ne.mpr c33
             have c33b1 : ((wrap64 (rd (l0.drop (a1 : Int).toNat) 1)) != 130) = true := bne_iff_ne.mpr c33
             by_cases c52 : (wrap64 (rd (l0.drop (a1 : Int).toNat) 1)) > 127
             ·rw [if_pos c52] at H
              have c52b0 : decide (127 < (wrap64 (rd (l0.drop (a1 : Int).toNat) 1))) = true := decide_eq_true c52
              clear c52
              simp only [Option.some.injEq, Prod.mk.injEq] at H
              obtain ⟨rfl, rfl, rfl, rfl⟩ := H
              obtain ⟨i053, hi053, _, hsz53, _⟩ := info_parts info5
              obtain ⟨A53, hcut53, hA53, hC53⟩ := print_drop_of (P := Tryd.prog) (Value.int .u8) 0 24 5 .i64 Tryd.underlying24 hi053 hsz53 A0 c0 l0 a1 (oD) (oD) HC0.out
              have HR101 := aZ (Kd.C_of_reads (h1 := fun _ => rfl) (hA53 _ (Kd.reads_of_C HR0.out)))
              have HC101 := aZ hC53
              clear hA53 hC53 hi053 hsz53
              have p102 : 0 ≤ (0 : Int) := (by omega)
              have q102 : 0 < ((l0.drop (a1 : Int).toNat).length : Int) := oD
              obtain ⟨ad102, e102, hx102_0⟩ := Kd.at_int HR101.out 0 p102 q102
              cases e102
              have qi102 : (0 < (l0.drop (a1 : Int).toNat).length) = True := eq_true (by omega)
              have qi102d := qi102
              (try simp only [List.length_drop, List.drop_drop] at qi102d)
              (try rw [show ((0 : Int)).toNat = 0 from rfl] at hx102_0)
              (try rw [Addr.add_zero'] at hx102_0)
              replace p102 := eq_true p102
              replace q102 := eq_true q102
              have q102d := q102
              (try simp only [List.length_drop, List.drop_drop] at q102d)
              have p103 : 0 ≤ (1 : Int) := (by omega)
              have q103 : 1 < ((l0.drop (a1 : Int).toNat).length : Int) := oD
              obtain ⟨ad103, e103, hx103_0⟩ := Kd.at_int HR101.out 1 p103 q103
              obtain rfl : ad102 = ad103 := (by injection e103)
              (try simp only [show (1 : Int).toNat = 1 from rfl, Nat.reduceMul, Nat.reduceEqDiff, Go.Addr.add, ↓reduceIte] at hx103_0)
              have qi103 : (1 < (l0.drop (a1 : Int).toNat).length) = True := eq_true (by omega)
              have qi103d := qi103
              (try simp only [List.length_drop, List.drop_drop] at qi103d)
              (try rw [show ((1 : Int)).toNat = 1 from rfl] at hx103_0)
              replace p103 := eq_true p103
              replace q103 := eq_true q103
              have q103d := q103
              (try simp only [List.length_drop, List.drop_drop] at q103d)
              obtain ⟨i054, hi054, _, hsz54, _⟩ := info_parts info5
              obtain ⟨A54, hcut54, hA54, hC54⟩ := print_drop_of (P := Tryd.prog) (Value.int .u8) 0 24 5 .i64 Tryd.underlying24 hi054 hsz54 (some ad102) (c0 - a1.toNat) (l0.drop (a1 : Int).toNat) 2 (by omega) (oD) HC101.out
              have hcut54d := hcut54
              (try simp only [List.length_drop, List.drop_drop] at hcut54d)
              have HR104 := aZ (Kd.C_of_reads (h1 := fun _ => rfl) (hA54 _ (Kd.reads_of_C HR101.out)))
              have HC104 := aZ hC54
              clear hA54 hC54 hi054 hsz54
              go_enter Tryd.func51, Tryd.ntmps51
              go_wp2
              refine wp_scope_fwd 0 (by rfl) ?_
              go_wp2
              repeat (go_quiet (fail); try go_wp2)
              (try (apply wp_goto; refine And.intro (rfl : (0 : Nat) = 0) ?_; go_wp2))
              (try (go_step3; go_wp2))
              (try simp only [Exit.then, Exit.inBlock, Exit.jump])
              refine bodyPost_ret (results_list (rs := [.tmp 4, .tmp 5, .tmp 6, .tmp 7]) rfl (by simp) (.tmp (.tmp (.tmp (.tmp .nil))))) rfl ?_
              exact ⟨by first | rfl | (simp; done) | (simp [*]; done) | (simp [Nat.sub_sub]; done) | (simp only [List.length_drop, Nat.sub_sub]; done), d0⟩
             ·rw [if_neg c52] at H
              have c52b0 : decide (127 < (wrap64 (rd (l0.drop (a1 : Int).toNat) 1))) = false := decide_eq_false c52
              clear c52
              by_cases c55 : (wrap64 (rd (l0.drop (a1 : Int).toNat) 1)) < 0
              ·rw [if_pos c55] at H
               have c55b0 : decide ((wrap64 (rd (l0.drop (a1 : Int).toNat) 1)) < 0) = true := decide_eq_true c55
               clear c55
               simp only [Option.some.injEq, Prod.mk.injEq] at H
               obtain ⟨rfl, rfl, rfl, rfl⟩ := H
               obtain ⟨i056, hi056, _, hsz56, _⟩ := info_parts info5
               obtain ⟨A56, hcut56, hA56, hC56⟩ := print_drop_of (P := Tryd.prog) (Value.int .u8) 0 24 5 .i64 Tryd.underlying24 hi056 hsz56 A0 c0 l0 a1 (oD) (oD) HC0.out
               have HR101 := aZ (Kd.C_of_reads (h1 := fun _ => rfl) (hA56 _ (Kd.reads_of_C HR0.out)))
               have HC101 := aZ hC56
               clear hA56 hC56 hi056 hsz56
               have p102 : 0 ≤ (0 : Int) := (by omega)
               have q102 : 0 < ((l0.drop (a1 : Int).toNat).length : Int) := oD
               obtain ⟨ad102, e102, hx102_0⟩ := Kd.at_int HR101.out 0 p102 q102
               cases e102
               have qi102 : (0 < (l0.drop (a1 : Int).toNat).length) = True := eq_true (by omega)
               have qi102d := qi102
               (try simp only [List.length_drop, List.drop_drop] at qi102d)
               (try rw [show ((0 : Int)).toNat = 0 from rfl] at hx102_0)
               (try rw [Addr.add_zero'] at hx102_0)
               replace p102 := eq_true p102
               replace q102 := eq_true q102
               have q102d := q102
               (try simp only [List.length_drop, List.drop_drop] at q102d)
               have p103 : 0 ≤ (1 : Int) := (by omega)
               have q103 : 1 < ((l0.drop (a1 : Int).toNat).length : Int) := oD
               obtain ⟨ad103, e103, hx103_0⟩ := Kd.at_int HR101.out 1 p103 q103
               obtain rfl : ad102 = ad103 := (by injection e103)
               (try simp only [show (1 : Int).toNat = 1 from rfl, Nat.reduceMul, Nat.reduceEqDiff, Go.Addr.add, ↓reduceIte] at hx103_0)
               have qi103 : (1 < (l0.drop (a1 : Int).toNat).length) = True := eq_true (by omega)
               have qi103d := qi103
               (try simp only [List.length_drop, List.drop_drop] at qi103d)
               (try rw [show ((1 : Int)).toNat = 1 from rfl] at hx103_0)
               replace p103 := eq_true p103
               replace q103 := eq_true q103
               have q103d := q103
               (try simp only [List.length_drop, List.drop_drop] at q103d)
               obtain ⟨i057, hi057, _, hsz57, _⟩ := info_parts info5
               obtain ⟨A57, hcut57, hA57, hC57⟩ := print_drop_of (P := Tryd.prog) (Value.int .u8) 0 24 5 .i64 Tryd.underlying24 hi057 hsz57 (some ad102) (c0 - a1.toNat) (l0.drop (a1 : Int).toNat) 2 (by omega) (oD) HC101.out
               have hcut57d := hcut57
               (try simp only [List.length_drop, List.drop_drop] at hcut57d)
               have HR104 := aZ (Kd.C_of_reads (h1 := fun _ => rfl) (hA57 _ (Kd.reads_of_C HR101.out)))
               have HC104 := aZ hC57
               clear hA57 hC57 hi057 hsz57
               go_enter Tryd.func51, Tryd.ntmps51
               go_wp2
               refine wp_scope_fwd 0 (by rfl) ?_
               go_wp2
               repeat (go_quiet (fail); try go_wp2)
               (try (apply wp_goto; refine And.intro (rfl : (0 : Nat) = 0) ?_; go_wp2))
               (try (go_step3; go_wp2))
               (try simp only [Exit.then, Exit.inBlock, Exit.jump])
               refine bodyPost_ret (results_list (rs := [.tmp 4, .tmp 5, .tmp 6, .tmp 7]) rfl (by simp) (.tmp (.tmp (.tmp (.tmp .nil))))) rfl ?_
               exact ⟨by first | rfl | (simp; done) | (simp [*]; done) | (simp [Nat.sub_sub]; done) | (simp only [List.length_drop, Nat.sub_sub]; done), d0⟩
              ·rw [if_neg c55] at H
               have c55b0 : decide ((wrap64 (rd (l0.drop (a1 : Int).toNat) 1)) < 0) = false := decide_eq_false c55
               clear c55
               by_cases c58 : (wrap64 (rd (l0.drop (a1 : Int).toNat) 1)) ≤ (((l0.drop (a1 : Int).toNat).drop 2).length : Int)
               ·rw [if_pos c58] at H
                have c58b0 : decide ((wrap64 (rd (l0.drop (a1 : Int).toNat) 1)) ≤ (((l0.drop (a1 : Int).toNat).drop 2).length : Int)) = true := decide_eq_true c58
                have c58b0d := c58b0
                (try simp only [List.length_drop, List.drop_drop] at c58b0d)
                clear c58
                by_cases c59 : a1 < (l0.length : Int)
                ·rw [if_pos c59] at H
                 have c59b0 : decide (a1 < (l0.length : Int)) = true := decide_eq_true c59
                 clear c59
                 simp only [Option.some.injEq, Prod.mk.injEq] at H
                 obtain ⟨rfl, rfl, rfl, rfl⟩ := H
                 obtain ⟨i060, hi060, _, hsz60, _⟩ := info_parts info5
                 obtain ⟨A60, hcut60, hA60, hC60⟩ := print_drop_of (P := Tryd.prog) (Value.int .u8) 0 24 5 .i64 Tryd.underlying24 hi060 hsz60 A0 c0 l0 a1 (oD) (oD) HC0.out
                 have HR101 := aZ (Kd.C_of_reads (h1 := fun _ => rfl) (hA60 _ (Kd.reads_of_C HR0.out)))
                 have HC101 := aZ hC60
                 clear hA60 hC60 hi060 hsz60
                 have p102 : 0 ≤ (0 : Int) := (by omega)
                 have q102 : 0 < ((l0.drop (a1 : Int).toNat).length : Int) := oD
                 obtain ⟨ad102, e102, hx102_0⟩ := Kd.at_int HR101.out 0 p102 q102
                 cases e102
                 have qi102 : (0 < (l0.drop (a1 : Int).toNat).length) = True := eq_true (by omega)
                 have qi102d := qi102
                 (try simp only [List.length_drop, List.drop_drop] at qi102d)
                 (try rw [show ((0 : Int)).toNat = 0 from rfl] at hx102_0)
                 (try rw [Addr.add_zero'] at hx102_0)
                 replace p102 := eq_true p102
                 replace q102 := eq_true q102
                 have q102d := q102
                 (try simp only [List.length_drop, List.drop_drop] at q102d)
                 have p103 : 0 ≤ (1 : Int) := (by omega)
                 have q103 : 1 < ((l0.drop (a1 : Int).toNat).length : Int) := oD
                 obtain ⟨ad103, e103, hx103_0⟩ := Kd.at_int HR101.out 1 p103 q103
                 obtain rfl : ad102 = ad103 := (by injection e103)
                 (try simp only [show (1 : Int).toNat = 1 from rfl, Nat.reduceMul, Nat.reduceEqDiff, Go.Addr.add, ↓reduceIte] at hx103_0)
                 have qi103 : (1 < (l0.drop (a1 : Int).toNat).length) = True := eq_true (by omega)
                 have qi103d := qi103
                 (try simp only [List.length_drop, List.drop_drop] at qi103d)
                 (try rw [show ((1 : Int)).toNat = 1 from rfl] at hx103_0)
                 replace p103 := eq_true p103
                 replace q103 := eq_true q103
                 have q103d := q103
                 (try simp only [List.length_drop, List.drop_drop] at q103d)
                 obtain ⟨i061, hi061, _, hsz61, _⟩ := info_parts info5
                 obtain ⟨A61, hcut61, hA61, hC61⟩ := print_drop_of (P := Tryd.prog) (Value.int .u8) 0 24 5 .i64 Tryd.underlying24 hi061 hsz61 (some ad102) (c0 - a1.toNat) (l0.drop (a1 : Int).toNat) 2 (by omega) (oD) HC101.out
                 have hcut61d := hcut61
                 (try simp only [List.length_drop, List.drop_drop] at hcut61d)
                 have HR104 := aZ (Kd.C_of_reads (h1 := fun _ => rfl) (hA61 _ (Kd.reads_of_C HR101.out)))
                 have HC104 := aZ hC61
                 clear hA61 hC61 hi061 hsz61
                 have p112 : 0 ≤ (a1 : Int) := oD
                 have q112 : a1 < (l0.length : Int) := oD
                 obtain ⟨ad112, e112, hx112_0⟩ := Kd.at_int HR0.out a1 p112 q112
                 cases e112
                 replace p112 := eq_true p112
                 replace q112 := eq_true q112
                 go_enter Tryd.func51, Tryd.ntmps51
                 go_wp2
                 refine wp_scope_fwd 0 (by rfl) ?_
                 go_wp2
                 repeat (go_quiet (fail); try go_wp2)
                 (try (apply wp_goto; refine And.intro (rfl : (0 : Nat) = 0) ?_; go_wp2))
                 (try (go_step3; go_wp2))
                 (try simp only [Exit.then, Exit.inBlock, Exit.jump])
                 refine bodyPost_ret (results_list (rs := [.tmp 4, .tmp 5, .tmp 6, .tmp 7]) rfl (by simp) (.tmp (.tmp (.tmp (.tmp .nil))))) rfl ?_
                 exact ⟨by first | rfl | (simp; done) | (simp [*]; done) | (simp [Nat.sub_sub]; done) | (simp only [List.length_drop, Nat.sub_sub]; done), d0⟩
                ·rw [if_neg c59] at H
                 exact absurd H (by simp)
               ·rw [if_neg c58] at H
                have c58b0 : decide ((wrap64 (rd (l0.drop (a1 : Int).toNat) 1)) ≤ (((l0.drop (a1 : Int).toNat).drop 2).length : Int)) = false := decide_eq_false c58
                have c58b0d := c58b0
                (try simp only [List.length_drop, List.drop_drop] at c58b0d)
                clear c58
                simp only [Option.some.injEq, Prod.mk.injEq] at H
                obtain ⟨rfl, rfl, rfl, rfl⟩ := H
                obtain ⟨i062, hi062, _, hsz62, _⟩ := info_parts info5
                obtain ⟨A62, hcut62, hA62, hC62⟩ := print_drop_of (P := Tryd.prog) (Value.int .u8) 0 24 5 .i64 Tryd.underlying24 hi062 hsz62 A0 c0 l0 a1 (oD) (oD) HC0.out
                have HR101 := aZ (Kd.C_of_reads (h1 := fun _ => rfl) (hA62 _ (Kd.reads_of_C HR0.out)))
                have HC101 := aZ hC62
                clear hA62 hC62 hi062 hsz62
                have p102 : 0 ≤ (0 : Int) := (by omega)
                have q102 : 0 < ((l0.drop (a1 : Int).toNat).length : Int) := oD
                obtain ⟨ad102, e102, hx102_0⟩ := Kd.at_int HR101.out 0 p102 q102
                cases e102
                have qi102 : (0 < (l0.drop (a1 : Int).toNat).length) = True := eq_true (by omega)
                have qi102d := qi102
                (try simp only [List.length_drop, List.drop_drop] at qi102d)
                (try rw [show ((0 : Int)).toNat = 0 from rfl] at hx102_0)
                (try rw [Addr.add_zero'] at hx102_0)
                replace p102 := eq_true p102
                replace q102 := eq_true q102
                have q102d := q102
                (try simp only [List.length_drop, List.drop_drop] at q102d)
                have p103 : 0 ≤ (1 : Int) := (by omega)
                have q103 : 1 < ((l0.drop (a1 : Int).toNat).length : Int) := oD
                obtain ⟨ad103, e103, hx103_0⟩ := Kd.at_int HR101.out 1 p103 q103
                obtain rfl : ad102 = ad103 := (by injection e103)
                (try simp only [show (1 : Int).toNat = 1 from rfl, Nat.reduceMul, Nat.reduceEqDiff, Go.Addr.add, ↓reduceIte] at hx103_0)
                have qi103 : (1 < (l0.drop (a1 : Int).toNat).length) = True := eq_true (by omega)
                have qi103d := qi103
                (try simp only [List.length_drop, List.drop_drop] at qi103d)
                (try rw [show ((1 : Int)).toNat = 1 from rfl] at hx103_0)
                replace p103 := eq_true p103
                replace q103 := eq_true q103
                have q103d := q103
                (try simp only [List.length_drop, List.drop_drop] at q103d)
                obtain ⟨i063, hi063, _, hsz63, _⟩ := info_parts info5
                obtain ⟨A63, hcut63, hA63, hC63⟩ := print_drop_of (P := Tryd.prog) (Value.int .u8) 0 24 5 .i64 Tryd.underlying24 hi063 hsz63 (some ad102) (c0 - a1.toNat) (l0.drop (a1 : Int).toNat) 2 (by omega) (oD) HC101.out
                have hcut63d := hcut63
                (try simp only [List.length_drop, List.drop_drop] at hcut63d)
                have HR104 := aZ (Kd.C_of_reads (h1 := fun _ => rfl) (hA63 _ (Kd.reads_of_C HR101.out)))
                have HC104 := aZ hC63
                clear hA63 hC63 hi063 hsz63
                go_enter Tryd.func51, Tryd.ntmps51
                go_wp2
                refine wp_scope_fwd 0 (by rfl) ?_
                go_wp2
                repeat (go_quiet (fail); try go_wp2)
                (try (apply wp_goto; refine And.intro (rfl : (0 : Nat) = 0) ?_; go_wp2))
                (try (go_step3; go_wp2))
                (try simp only [Exit.then, Exit.inBlock, Exit.jump])
                refine bodyPost_ret (results_list (rs := [.tmp 4, .tmp 5, .tmp 6, .tmp 7]) rfl (by simp) (.tmp (.tmp (.tmp (.tmp .nil))))) rfl ?_
                exact ⟨by first | rfl | (simp; done) | (simp [*]; done) | (simp [Nat.sub_sub]; done) | (simp only [List.length_drop, Nat.sub_sub]; done), d0⟩
          ·rw [if_neg c14] at H
           exact absurd H (by simp)
         ·rw [if_neg c13] at H
          exact absurd H (by simp)
      ·rw [if_neg c8] at H
       exact absurd H (by simp)
     ·rw [if_neg c7] at H
      have c7b0 : decide (0 < ((l0.drop (a1 : Int).toNat).length : Int)) = false := decide_eq_false c7
      have c7b0d := c7b0
      (try simp only [List.length_drop, List.drop_drop] at c7b0d)
      have c7b1 : decide (0 < (l0.drop (a1 : Int).toNat).length) = false := decide_eq_false (by omega)
      have c7b1d := c7b1
      (try simp only [List.length_drop, List.drop_drop] at c7b1d)
      clear c7
      by_cases c64 : ((l0.drop (a1 : Int).toNat).length : Int) < 2
      ·rw [if_pos c64] at H
       have c64b0 : decide (((l0.drop (a1 : Int).toNat).length : Int) < 2) = true := decide_eq_true c64
       have c64b0d := c64b0
       (try simp only [List.length_drop, List.drop_drop] at c64b0d)
       have c64b1 : decide ((l0.drop (a1 : Int).toNat).length < 2) = true := decide_eq_true (by omega)
       have c64b1d := c64b1
       (try simp only [List.length_drop, List.drop_drop] at c64b1d)
       clear c64
       simp only [Option.some.injEq, Prod.mk.injEq] at H
       obtain ⟨rfl, rfl, rfl, rfl⟩ := H
       obtain ⟨i065, hi065, _, hsz65, _⟩ := info_parts info5
       obtain ⟨A65, hcut65, hA65, hC65⟩ := print_drop_of (P := Tryd.prog) (Value.int .u8) 0 24 5 .i64 Tryd.underlying24 hi065 hsz65 A0 c0 l0 a1 (oD) (oD) HC0.out
       have HR101 := aZ (Kd.C_of_reads (h1 := fun _ => rfl) (hA65 _ (Kd.reads_of_C HR0.out)))
       have HC101 := aZ hC65
       clear hA65 hC65 hi065 hsz65
       go_enter Tryd.func51, Tryd.ntmps51
       go_wp2
       refine wp_scope_fwd 0 (by rfl) ?_
       go_wp2
       repeat (go_quiet (fail); try go_wp2)
       (try (apply wp_goto; refine And.intro (rfl : (0 : Nat) = 0) ?_; go_wp2))
       (try (go_step3; go_wp2))
       (try simp only [Exit.then, Exit.inBlock, Exit.jump])
       refine bodyPost_ret (results_list (rs := [.tmp 4, .tmp 5, .tmp 6, .tmp 7]) rfl (by simp) (.tmp (.tmp (.tmp (.tmp .nil))))) rfl ?_
       exact ⟨by first | rfl | (simp; done) | (simp [*]; done) | (simp [Nat.sub_sub]; done) | (simp only [List.length_drop, Nat.sub_sub]; done), d0⟩
      ·exact absurd (show ((l0.drop (a1 : Int).toNat).length : Int) > 0 by omega) (of_decide_eq_false c7b0)
    ·rw [if_neg c6] at H
     exact absurd H (by simp)
   ·rw [if_neg c5] at H
    exact absurd H (by simp)
end Go.Proofs.YtkceebgncfggjaaDoor.PQ

