/- Printed by a program of this session's (wip/xprint.py), for this claim: Go functions as plain Lean functions, and the proof that each call does what its function says. No condition beside those in each theorem's own line. -/
import Derived.Test.YtekebbbalackkaaPAx0
namespace Go.Proofs.Ytekebbbalackkaa.PA
open Go.RowKit Go.Proofs.YtekebbbalackkaaW.PrintWords Go.Proofs.YtekebbbalackkaaW.PrintLast Go.Proofs.YtekebbbalackkaaW.PrintMore Go.Proofs.YtekebbbalackkaaX
attribute [local go_sem] max2_int min2_int max_two min_two max_three min_three max_four min_four   -- for this text's walks alone
set_option linter.unusedVariables false
set_option linter.unusedSimpArgs false

/-! ### warderref02_Int: function 11 -/
mutual
def warderref02_Int.j0 : Nat → List Int → Bool → Option (Int × Int)
  | 0, _, _ => none
  | k + 1, x0, x13 => if x13 = true then (some (0, 21)) else (if 0 < (x0.length : Int) then (warderref02_Int.l0 k x0 (wrap64 (IntKind.i8.wrap (rd x0 0))) 1) else (none))
def warderref02_Int.l0 : Nat → List Int → Int → Int → Option (Int × Int)
  | 0, _, _, _ => none
  | k + 1, x0, x4, x5 => if x5 < (x0.length : Int) then (if 0 ≤ x5 then (warderref02_Int.l0 k x0 (Go.bits .or .i64 (wrap64 (x4 * 256)) (wrap64 (rd x0 x5))) (wrap64 (x5 + 1))) else (none)) else (if (x0.length : Int) > 1 then (if 0 < (x0.length : Int) then (if (rd x0 0) = 0 then (if 1 < (x0.length : Int) then (if (rd x0 1) < 128 then (some (0, 21)) else (if (rd x0 0) = 255 then (if (rd x0 1) ≥ 128 then (some (0, 21)) else (some (x4, 0))) else (some (x4, 0)))) else (none)) else (if (rd x0 0) = 255 then (if 1 < (x0.length : Int) then (if (rd x0 1) ≥ 128 then (some (0, 21)) else (some (x4, 0))) else (none)) else (some (x4, 0)))) else (none)) else (some (x4, 0)))
end
def warderref02_Int.f (k : Nat) (l0 : List Int) : Option (Int × Int) := if (l0.length : Int) < 1 then (warderref02_Int.j0 k l0 true) else (warderref02_Int.j0 k l0 (decide ((l0.length : Int) > 8)))
theorem warderref02_Int.mono_l : ∀ k, (∀ y0 y1, LeO (warderref02_Int.j0 k y0 y1) (warderref02_Int.j0 (k + 1) y0 y1)) ∧ (∀ y0 y1 y2, LeO (warderref02_Int.l0 k y0 y1 y2) (warderref02_Int.l0 (k + 1) y0 y1 y2))
  | 0 => ⟨fun _ _ r h => by simp [warderref02_Int.j0] at h, fun _ _ _ r h => by simp [warderref02_Int.l0] at h⟩
  | k + 1 => by
    obtain ⟨ih0, ih1⟩ := warderref02_Int.mono_l k
    refine ⟨?_, ?_⟩
    · intro y0 y1
      unfold warderref02_Int.j0
      repeat' first
      | (with_reducible exact ih0 _ _)
      | (with_reducible exact ih1 _ _ _)
      | (with_reducible exact LeO.refl _)
      | (with_reducible exact LeO.none _)
      | (with_reducible refine LeO.ite ?_ ?_)
      | (with_reducible refine LeO.bind ?_ (fun _ => ?_))
      | exact ih0 _ _
      | exact ih1 _ _ _
      | exact LeO.none _
      | refine LeO.ite ?_ ?_
      | refine LeO.bind ?_ (fun _ => ?_)
    · intro y0 y1 y2
      unfold warderref02_Int.l0
      repeat' first
      | (with_reducible exact ih0 _ _)
      | (with_reducible exact ih1 _ _ _)
      | (with_reducible exact LeO.refl _)
      | (with_reducible exact LeO.none _)
      | (with_reducible refine LeO.ite ?_ ?_)
      | (with_reducible refine LeO.bind ?_ (fun _ => ?_))
      | exact ih0 _ _
      | exact ih1 _ _ _
      | exact LeO.none _
      | refine LeO.ite ?_ ?_
      | refine LeO.bind ?_ (fun _ => ?_)
theorem warderref02_Int.mono : ∀ a0 k, LeO (warderref02_Int.f k a0) (warderref02_Int.f (k + 1) a0) := by
  intro a0 k
  obtain ⟨ih0, ih1⟩ := warderref02_Int.mono_l k
  unfold warderref02_Int.f
  repeat' first
      | (with_reducible exact ih0 _ _)
      | (with_reducible exact ih1 _ _ _)
      | (with_reducible exact LeO.refl _)
      | (with_reducible exact LeO.none _)
      | (with_reducible refine LeO.ite ?_ ?_)
      | (with_reducible refine LeO.bind ?_ (fun _ => ?_))
      | exact ih0 _ _
      | exact ih1 _ _ _
      | exact LeO.none _
      | refine LeO.ite ?_ ?_
      | refine LeO.bind ?_ (fun _ => ?_)
set_option maxHeartbeats 8000000 in
set_option maxRecDepth 100000 in
theorem warderref02_Int.calls (k : Nat) (A0 : Option Addr) (c0 : Nat) (l0 : List Int) (r1 : Int) (r2 : Int) (w : World) (hr0 : Kd.C (Kd.int .u8) w A0 l0.length l0) (hc0 : l0.length ≤ c0) (h : warderref02_Int.f k l0 = some (r1, r2)) :
    Calls Try.prog 11 #[.slice A0 l0.length c0] w fun e w' => e = .returned (.tuple #[.int .i64 r1, .int .i64 r2]) ∧ Drawn0 w w' := by
  have HR0 := Aside0.mk hr0
  have HC0 := Aside0.mk hc0
  clear hr0 hc0
  have H : (if (l0.length : Int) < 1 then (warderref02_Int.j0 k l0 true) else (warderref02_Int.j0 k l0 (decide ((l0.length : Int) > 8)))) = some (r1, r2) := h
  clear h
  have HC2 := Aside0.mk H
  clear H
  go_enter Try.func11, Try.ntmps11
  go_upto_region 1 with (fail)
  go_cut [13] (fun v13 wc => ∃ (kq : Nat) (x13_1 : Bool), v13 = .bool x13_1 ∧ Aside0 (warderref02_Int.j0 kq l0 x13_1 = some (r1, r2)) ∧ Aside0 (kq ≤ k) ∧ Drawn0 w wc)
  case first =>
    have H := HC2.out
    clear HC2
    by_cases c3 : (l0.length : Int) < 1
    · rw [if_pos c3] at H
      have c3b0 : decide ((l0.length : Int) < 1) = true := decide_eq_true c3
      have c3b1 : decide (l0.length < 1) = true := decide_eq_true (by omega)
      clear c3
      (first | rw [c3b0] | (simp only [i64_w, i32_w]; rw [c3b0]) | skip)
      have H' := Aside0.mk H
      clear H
      go_wp2
      go_meet
      case rel => exact ⟨_, (true), (by first | rfl | (simp; done) | (simp [*]; done)), H', ⟨by first | omega | exact Nat.le_refl _⟩, by repeat (first | exact Drawn0.refl _ | apply Drawn0.step)⟩
    · rw [if_neg c3] at H
      have c3b0 : decide ((l0.length : Int) < 1) = false := decide_eq_false c3
      have c3b1 : decide (l0.length < 1) = false := decide_eq_false (by omega)
      clear c3
      (first | rw [c3b0] | (simp only [i64_w, i32_w]; rw [c3b0]) | skip)
      have H' := Aside0.mk H
      clear H
      go_wp2
      go_meet
      case rel => exact ⟨_, (decide ((l0.length : Int) > 8)), (by first | rfl | (simp; done) | (simp [*]; done)), H', ⟨by first | omega | exact Nat.le_refl _⟩, by repeat (first | exact Drawn0.refl _ | apply Drawn0.step)⟩
  case rest =>
    clear HC2
    try clear c1
    try clear p2
    try clear c3
    try clear c3b0
    try clear c3b1
    obtain ⟨kq, x13_1, rfl, HA, HJ1, ⟨mc1, rfl⟩⟩ := hcut
    cases kq with
    | zero => exact absurd HA.out (by simp [warderref02_Int.j0])
    | succ kj1 =>
      have H := HA.out
      clear HA
      simp only [warderref02_Int.j0] at H
      by_cases c4 : x13_1 = true
      · subst c4
        have H1 : (some (0, 21)) = some (r1, r2) := by rw [if_pos rfl] at H; exact H
        clear H
        have H := H1
        clear H1
        simp only [Option.some.injEq, Prod.mk.injEq] at H
        obtain ⟨rfl, rfl⟩ := H
        go_wp2
        go_ret2
        exact ⟨by first | rfl | (simp; done) | (simp [*]; done), by repeat (first | exact Drawn0.refl _ | apply Drawn0.step)⟩
      · replace c4 := Bool.eq_false_iff.mpr c4
        subst c4
        have H1 : (if 0 < (l0.length : Int) then (warderref02_Int.l0 kj1 l0 (wrap64 (IntKind.i8.wrap (rd l0 0))) 1) else (none)) = some (r1, r2) := by rw [if_neg (show ¬ (false = true) by decide)] at H; exact H
        clear H
        have H := H1
        clear H1
        by_cases c5 : 0 < (l0.length : Int)
        · rw [if_pos c5] at H
          have c5b0 : decide (0 < (l0.length : Int)) = true := decide_eq_true c5
          have c5b1 : decide (0 < l0.length) = true := decide_eq_true (by omega)
          clear c5
          have H' := Aside0.mk H
          clear H
          have p161 : 0 ≤ (0 : Int) := (by omega)
          have q161 : 0 < (l0.length : Int) := of_decide_eq_true (by first | (with_reducible assumption) | assumption)
          obtain ⟨ad161, e161, hx161_0⟩ := Kd.at_int HR0.out 0 p161 q161
          cases e161
          have qi161 : (0 < l0.length) = True := eq_true (by omega)
          (try rw [show ((0 : Int)).toNat = 0 from rfl] at hx161_0)
          (try rw [Addr.add_zero'] at hx161_0)
          replace p161 := eq_true p161
          replace q161 := eq_true q161
          go_wp2
          go_loopg [4, 5] kj1 (fun kq v4 v5 w' => ∃ (x4_2 : Int) (x5_2 : Int), v4 = .int .i64 x4_2 ∧ v5 = .int .i64 x5_2 ∧ Aside0 (warderref02_Int.l0 kq l0 x4_2 x5_2 = some (r1, r2)) ∧ Aside0 (kq ≤ kj1) ∧ Drawn0 w w')
          case atStart => exact ⟨(wrap64 (IntKind.i8.wrap (rd l0 0))), (1), (by first | rfl | (simp; done) | (simp [*]; done)), (by first | rfl | (simp; done) | (simp [*]; done)), H', ⟨Nat.le_refl _⟩, by repeat (first | exact Drawn0.refl _ | apply Drawn0.step)⟩
          case round =>
            clear H'
            try clear c1
            try clear p1
            try clear q1
            try clear hx1
            try clear qi1
            try clear p2
            try clear c3
            try clear c3b0
            try clear c3b1
            try clear c4
            try clear c5
            try clear c5b0
            try clear c5b1
            try clear hx161_0
            try clear p161
            try clear p2
            try clear q161
            obtain ⟨x4_2, x5_2, rfl, rfl, HA, HK2, ⟨m2, rfl⟩⟩ := hrel
            cases gk with
            | zero => exact absurd HA.out (by simp [warderref02_Int.l0])
            | succ k2 =>
              have H := HA.out
              clear HA
              simp only [warderref02_Int.l0] at H
              by_cases c6 : x5_2 < (l0.length : Int)
              · rw [if_pos c6] at H
                have c6b0 : decide (x5_2 < (l0.length : Int)) = true := decide_eq_true c6
                clear c6
                by_cases c7 : 0 ≤ x5_2
                · rw [if_pos c7] at H
                  have c7b0 : decide (0 ≤ x5_2) = true := decide_eq_true c7
                  clear c7
                  have H' := Aside0.mk H
                  clear H
                  have p162 : 0 ≤ (x5_2 : Int) := of_decide_eq_true (by first | (with_reducible assumption) | assumption)
                  have q162 : x5_2 < (l0.length : Int) := of_decide_eq_true (by first | (with_reducible assumption) | assumption)
                  obtain ⟨ad162, e162, hx162_0⟩ := Kd.at_int HR0.out x5_2 p162 q162
                  obtain rfl : ad161 = ad162 := (by injection e162)
                  replace p162 := eq_true p162
                  replace q162 := eq_true q162
                  go_wp2
                  go_roundg k2
                  case measure => have := HJ1.out; have := HK2.out; omega
                  case rel => exact ⟨(Go.bits .or .i64 (wrap64 (x4_2 * 256)) (wrap64 (rd l0 x5_2))), (wrap64 (x5_2 + 1)), (by first | rfl | (simp; done) | (simp [*]; done)), (by first | rfl | (simp; done) | (simp [*]; done)), H', ⟨by have := HJ1.out; have := HK2.out; omega⟩, by repeat (first | exact Drawn0.refl _ | apply Drawn0.step)⟩
                · rw [if_neg c7] at H
                  exact absurd H (by simp)
              · rw [if_neg c6] at H
                have c6b0 : decide (x5_2 < (l0.length : Int)) = false := decide_eq_false c6
                clear c6
                by_cases c8 : (l0.length : Int) > 1
                · rw [if_pos c8] at H
                  have c8b0 : decide (1 < (l0.length : Int)) = true := decide_eq_true c8
                  have c8b1 : decide (1 < l0.length) = true := decide_eq_true (by omega)
                  clear c8
                  by_cases c9 : 0 < (l0.length : Int)
                  · rw [if_pos c9] at H
                    have c9b0 : decide (0 < (l0.length : Int)) = true := decide_eq_true c9
                    have c9b1 : decide (0 < l0.length) = true := decide_eq_true (by omega)
                    clear c9
                    by_cases c10 : (rd l0 0) = 0
                    · rw [if_pos c10] at H
                      have c10b0 : ((rd l0 0) == 0) = true := beq_iff_eq.mpr c10
                      have c10b1 : ((rd l0 0) != 0) = false := bne_eq_false_iff_eq.mpr c10
                      clear c10
                      by_cases c11 : 1 < (l0.length : Int)
                      · rw [if_pos c11] at H
                        have c11b0 : decide (1 < (l0.length : Int)) = true := decide_eq_true c11
                        have c11b1 : decide (1 < l0.length) = true := decide_eq_true (by omega)
                        clear c11
                        by_cases c12 : (rd l0 1) < 128
                        · rw [if_pos c12] at H
                          have c12b0 : decide ((rd l0 1) < 128) = true := decide_eq_true c12
                          clear c12
                          simp only [Option.some.injEq, Prod.mk.injEq] at H
                          obtain ⟨rfl, rfl⟩ := H
                          have p163 : 0 ≤ (0 : Int) := (by omega)
                          have q163 : 0 < (l0.length : Int) := of_decide_eq_true (by first | (with_reducible assumption) | assumption)
                          obtain ⟨ad163, e163, hx163_0⟩ := Kd.at_int HR0.out 0 p163 q163
                          obtain rfl : ad161 = ad163 := (by injection e163)
                          have qi163 : (0 < l0.length) = True := eq_true (by omega)
                          (try rw [show ((0 : Int)).toNat = 0 from rfl] at hx163_0)
                          (try rw [Addr.add_zero'] at hx163_0)
                          replace p163 := eq_true p163
                          replace q163 := eq_true q163
                          have p164 : 0 ≤ (1 : Int) := (by omega)
                          have q164 : 1 < (l0.length : Int) := of_decide_eq_true (by first | (with_reducible assumption) | assumption)
                          obtain ⟨ad164, e164, hx164_0⟩ := Kd.at_int HR0.out 1 p164 q164
                          obtain rfl : ad161 = ad164 := (by injection e164)
                          (try simp only [show (1 : Int).toNat = 1 from rfl, Nat.reduceMul, Nat.reduceEqDiff, Go.Addr.add, ↓reduceIte] at hx164_0)
                          have qi164 : (1 < l0.length) = True := eq_true (by omega)
                          (try rw [show ((1 : Int)).toNat = 1 from rfl] at hx164_0)
                          replace p164 := eq_true p164
                          replace q164 := eq_true q164
                          go_wp2
                          go_ret2
                          exact ⟨by first | rfl | (simp; done) | (simp [*]; done), by repeat (first | exact Drawn0.refl _ | apply Drawn0.step)⟩
                        · rw [if_neg c12] at H
                          have c12b0 : decide ((rd l0 1) < 128) = false := decide_eq_false c12
                          clear c12
                          by_cases c13 : (rd l0 0) = 255
                          · rw [if_pos c13] at H
                            have c13b0 : ((rd l0 0) == 255) = true := beq_iff_eq.mpr c13
                            have c13b1 : ((rd l0 0) != 255) = false := bne_eq_false_iff_eq.mpr c13
                            clear c13
                            by_cases c14 : (rd l0 1) ≥ 128
                            · rw [if_pos c14] at H
                              have c14b0 : decide (128 ≤ (rd l0 1)) = true := decide_eq_true c14
                              clear c14
                              simp only [Option.some.injEq, Prod.mk.injEq] at H
                              obtain ⟨rfl, rfl⟩ := H
                              have p163 : 0 ≤ (0 : Int) := (by omega)
                              have q163 : 0 < (l0.length : Int) := of_decide_eq_true (by first | (with_reducible assumption) | assumption)
                              obtain ⟨ad163, e163, hx163_0⟩ := Kd.at_int HR0.out 0 p163 q163
                              obtain rfl : ad161 = ad163 := (by injection e163)
                              have qi163 : (0 < l0.length) = True := eq_true (by omega)
                              (try rw [show ((0 : Int)).toNat = 0 from rfl] at hx163_0)
                              (try rw [Addr.add_zero'] at hx163_0)
                              replace p163 := eq_true p163
                              replace q163 := eq_true q163
                              have p164 : 0 ≤ (1 : Int) := (by omega)
                              have q164 : 1 < (l0.length : Int) := of_decide_eq_true (by first | (with_reducible assumption) | assumption)
                              obtain ⟨ad164, e164, hx164_0⟩ := Kd.at_int HR0.out 1 p164 q164
                              obtain rfl : ad161 = ad164 := (by injection e164)
                              (try simp only [show (1 : Int).toNat = 1 from rfl, Nat.reduceMul, Nat.reduceEqDiff, Go.Addr.add, ↓reduceIte] at hx164_0)
                              have qi164 : (1 < l0.length) = True := eq_true (by omega)
                              (try rw [show ((1 : Int)).toNat = 1 from rfl] at hx164_0)
                              replace p164 := eq_true p164
                              replace q164 := eq_true q164
                              have p165 : 0 ≤ (0 : Int) := (by omega)
                              have q165 : 0 < (l0.length : Int) := of_decide_eq_true (by first | (with_reducible assumption) | assumption)
                              obtain ⟨ad165, e165, hx165_0⟩ := Kd.at_int HR0.out 0 p165 q165
                              obtain rfl : ad161 = ad165 := (by injection e165)
                              have qi165 : (0 < l0.length) = True := eq_true (by omega)
                              (try rw [show ((0 : Int)).toNat = 0 from rfl] at hx165_0)
                              (try rw [Addr.add_zero'] at hx165_0)
                              replace p165 := eq_true p165
                              replace q165 := eq_true q165
                              have p166 : 0 ≤ (1 : Int) := (by omega)
                              have q166 : 1 < (l0.length : Int) := of_decide_eq_true (by first | (with_reducible assumption) | assumption)
                              obtain ⟨ad166, e166, hx166_0⟩ := Kd.at_int HR0.out 1 p166 q166
                              obtain rfl : ad161 = ad166 := (by injection e166)
                              (try simp only [show (1 : Int).toNat = 1 from rfl, Nat.reduceMul, Nat.reduceEqDiff, Go.Addr.add, ↓reduceIte] at hx166_0)
                              have qi166 : (1 < l0.length) = True := eq_true (by omega)
                              (try rw [show ((1 : Int)).toNat = 1 from rfl] at hx166_0)
                              replace p166 := eq_true p166
                              replace q166 := eq_true q166
                              go_wp2
                              go_ret2
                              exact ⟨by first | rfl | (simp; done) | (simp [*]; done), by repeat (first | exact Drawn0.refl _ | apply Drawn0.step)⟩
                            · rw [if_neg c14] at H
                              have c14b0 : decide (128 ≤ (rd l0 1)) = false := decide_eq_false c14
                              clear c14
                              simp only [Option.some.injEq, Prod.mk.injEq] at H
                              obtain ⟨rfl, rfl⟩ := H
                              have p163 : 0 ≤ (0 : Int) := (by omega)
                              have q163 : 0 < (l0.length : Int) := of_decide_eq_true (by first | (with_reducible assumption) | assumption)
                              obtain ⟨ad163, e163, hx163_0⟩ := Kd.at_int HR0.out 0 p163 q163
                              obtain rfl : ad161 = ad163 := (by injection e163)
                              have qi163 : (0 < l0.length) = True := eq_true (by omega)
                              (try rw [show ((0 : Int)).toNat = 0 from rfl] at hx163_0)
                              (try rw [Addr.add_zero'] at hx163_0)
                              replace p163 := eq_true p163
                              replace q163 := eq_true q163
                              have p164 : 0 ≤ (1 : Int) := (by omega)
                              have q164 : 1 < (l0.length : Int) := of_decide_eq_true (by first | (with_reducible assumption) | assumption)
                              obtain ⟨ad164, e164, hx164_0⟩ := Kd.at_int HR0.out 1 p164 q164
                              obtain rfl : ad161 = ad164 := (by injection e164)
                              (try simp only [show (1 : Int).toNat = 1 from rfl, Nat.reduceMul, Nat.reduceEqDiff, Go.Addr.add, ↓reduceIte] at hx164_0)
                              have qi164 : (1 < l0.length) = True := eq_true (by omega)
                              (try rw [show ((1 : Int)).toNat = 1 from rfl] at hx164_0)
                              replace p164 := eq_true p164
                              replace q164 := eq_true q164
                              have p165 : 0 ≤ (0 : Int) := (by omega)
                              have q165 : 0 < (l0.length : Int) := of_decide_eq_true (by first | (with_reducible assumption) | assumption)
                              obtain ⟨ad165, e165, hx165_0⟩ := Kd.at_int HR0.out 0 p165 q165
                              obtain rfl : ad161 = ad165 := (by injection e165)
                              have qi165 : (0 < l0.length) = True := eq_true (by omega)
                              (try rw [show ((0 : Int)).toNat = 0 from rfl] at hx165_0)
                              (try rw [Addr.add_zero'] at hx165_0)
                              replace p165 := eq_true p165
                              replace q165 := eq_true q165
                              have p166 : 0 ≤ (1 : Int) := (by omega)
                              have q166 : 1 < (l0.length : Int) := of_decide_eq_true (by first | (with_reducible assumption) | assumption)
                              obtain ⟨ad166, e166, hx166_0⟩ := Kd.at_int HR0.out 1 p166 q166
                              obtain rfl : ad161 = ad166 := (by injection e166)
                              (try simp only [show (1 : Int).toNat = 1 from rfl, Nat.reduceMul, Nat.reduceEqDiff, Go.Addr.add, ↓reduceIte] at hx166_0)
                              have qi166 : (1 < l0.length) = True := eq_true (by omega)
                              (try rw [show ((1 : Int)).toNat = 1 from rfl] at hx166_0)
                              replace p166 := eq_true p166
                              replace q166 := eq_true q166
                              go_wp2
                              go_ret2
                              exact ⟨by first | rfl | (simp; done) | (simp [*]; done), by repeat (first | exact Drawn0.refl _ | apply Drawn0.step)⟩
                          · rw [if_neg c13] at H
                            have c13b0 : ((rd l0 0) == 255) = false := beq_eq_false_iff_ne.mpr c13
                            have c13b1 : ((rd l0 0) != 255) = true := bne_iff_ne.mpr c13
                            simp only [Option.some.injEq, Prod.mk.injEq] at H
                            obtain ⟨rfl, rfl⟩ := H
                            have p163 : 0 ≤ (0 : Int) := (by omega)
                            have q163 : 0 < (l0.length : Int) := of_decide_eq_true (by first | (with_reducible assumption) | assumption)
                            obtain ⟨ad163, e163, hx163_0⟩ := Kd.at_int HR0.out 0 p163 q163
                            obtain rfl : ad161 = ad163 := (by injection e163)
                            have qi163 : (0 < l0.length) = True := eq_true (by omega)
                            (try rw [show ((0 : Int)).toNat = 0 from rfl] at hx163_0)
                            (try rw [Addr.add_zero'] at hx163_0)
                            replace p163 := eq_true p163
                            replace q163 := eq_true q163
                            have p164 : 0 ≤ (1 : Int) := (by omega)
                            have q164 : 1 < (l0.length : Int) := of_decide_eq_true (by first | (with_reducible assumption) | assumption)
                            obtain ⟨ad164, e164, hx164_0⟩ := Kd.at_int HR0.out 1 p164 q164
                            obtain rfl : ad161 = ad164 := (by injection e164)
                            (try simp only [show (1 : Int).toNat = 1 from rfl, Nat.reduceMul, Nat.reduceEqDiff, Go.Addr.add, ↓reduceIte] at hx164_0)
                            have qi164 : (1 < l0.length) = True := eq_true (by omega)
                            (try rw [show ((1 : Int)).toNat = 1 from rfl] at hx164_0)
                            replace p164 := eq_true p164
                            replace q164 := eq_true q164
                            have p165 : 0 ≤ (0 : Int) := (by omega)
                            have q165 : 0 < (l0.length : Int) := of_decide_eq_true (by first | (with_reducible assumption) | assumption)
                            obtain ⟨ad165, e165, hx165_0⟩ := Kd.at_int HR0.out 0 p165 q165
                            obtain rfl : ad161 = ad165 := (by injection e165)
                            have qi165 : (0 < l0.length) = True := eq_true (by omega)
                            (try rw [show ((0 : Int)).toNat = 0 from rfl] at hx165_0)
                            (try rw [Addr.add_zero'] at hx165_0)
                            replace p165 := eq_true p165
                            replace q165 := eq_true q165
                            go_wp2
                            go_ret2
                            exact ⟨by first | rfl | (simp; done) | (simp [*]; done), by repeat (first | exact Drawn0.refl _ | apply Drawn0.step)⟩
                      · rw [if_neg c11] at H
                        exact absurd H (by simp)
                    · rw [if_neg c10] at H
                      have c10b0 : ((rd l0 0) == 0) = false := beq_eq_false_iff_ne.mpr c10
                      have c10b1 : ((rd l0 0) != 0) = true := bne_iff_ne.mpr c10
                      by_cases c15 : (rd l0 0) = 255
                      · rw [if_pos c15] at H
                        have c15b0 : ((rd l0 0) == 255) = true := beq_iff_eq.mpr c15
                        have c15b1 : ((rd l0 0) != 255) = false := bne_eq_false_iff_eq.mpr c15
                        clear c15
                        by_cases c16 : 1 < (l0.length : Int)
                        · rw [if_pos c16] at H
                          have c16b0 : decide (1 < (l0.length : Int)) = true := decide_eq_true c16
                          have c16b1 : decide (1 < l0.length) = true := decide_eq_true (by omega)
                          clear c16
                          by_cases c17 : (rd l0 1) ≥ 128
                          · rw [if_pos c17] at H
                            have c17b0 : decide (128 ≤ (rd l0 1)) = true := decide_eq_true c17
                            clear c17
                            simp only [Option.some.injEq, Prod.mk.injEq] at H
                            obtain ⟨rfl, rfl⟩ := H
                            have p163 : 0 ≤ (0 : Int) := (by omega)
                            have q163 : 0 < (l0.length : Int) := of_decide_eq_true (by first | (with_reducible assumption) | assumption)
                            obtain ⟨ad163, e163, hx163_0⟩ := Kd.at_int HR0.out 0 p163 q163
                            obtain rfl : ad161 = ad163 := (by injection e163)
                            have qi163 : (0 < l0.length) = True := eq_true (by omega)
                            (try rw [show ((0 : Int)).toNat = 0 from rfl] at hx163_0)
                            (try rw [Addr.add_zero'] at hx163_0)
                            replace p163 := eq_true p163
                            replace q163 := eq_true q163
                            have p167 : 0 ≤ (0 : Int) := (by omega)
                            have q167 : 0 < (l0.length : Int) := of_decide_eq_true (by first | (with_reducible assumption) | assumption)
                            obtain ⟨ad167, e167, hx167_0⟩ := Kd.at_int HR0.out 0 p167 q167
                            obtain rfl : ad161 = ad167 := (by injection e167)
                            have qi167 : (0 < l0.length) = True := eq_true (by omega)
                            (try rw [show ((0 : Int)).toNat = 0 from rfl] at hx167_0)
                            (try rw [Addr.add_zero'] at hx167_0)
                            replace p167 := eq_true p167
                            replace q167 := eq_true q167
                            have p168 : 0 ≤ (1 : Int) := (by omega)
                            have q168 : 1 < (l0.length : Int) := of_decide_eq_true (by first | (with_reducible assumption) | assumption)
                            obtain ⟨ad168, e168, hx168_0⟩ := Kd.at_int HR0.out 1 p168 q168
                            obtain rfl : ad161 = ad168 := (by injection e168)
                            (try simp only [show (1 : Int).toNat = 1 from rfl, Nat.reduceMul, Nat.reduceEqDiff, Go.Addr.add, ↓reduceIte] at hx168_0)
                            have qi168 : (1 < l0.length) = True := eq_true (by omega)
                            (try rw [show ((1 : Int)).toNat = 1 from rfl] at hx168_0)
                            replace p168 := eq_true p168
                            replace q168 := eq_true q168
                            go_wp2
                            go_ret2
                            exact ⟨by first | rfl | (simp; done) | (simp [*]; done), by repeat (first | exact Drawn0.refl _ | apply Drawn0.step)⟩
                          · rw [if_neg c17] at H
                            have c17b0 : decide (128 ≤ (rd l0 1)) = false := decide_eq_false c17
                            clear c17
                            simp only [Option.some.injEq, Prod.mk.injEq] at H
                            obtain ⟨rfl, rfl⟩ := H
                            have p163 : 0 ≤ (0 : Int) := (by omega)
                            have q163 : 0 < (l0.length : Int) := of_decide_eq_true (by first | (with_reducible assumption) | assumption)
                            obtain ⟨ad163, e163, hx163_0⟩ := Kd.at_int HR0.out 0 p163 q163
                            obtain rfl : ad161 = ad163 := (by injection e163)
                            have qi163 : (0 < l0.length) = True := eq_true (by omega)
                            (try rw [show ((0 : Int)).toNat = 0 from rfl] at hx163_0)
                            (try rw [Addr.add_zero'] at hx163_0)
                            replace p163 := eq_true p163
                            replace q163 := eq_true q163
                            have p167 : 0 ≤ (0 : Int) := (by omega)
                            have q167 : 0 < (l0.length : Int) := of_decide_eq_true (by first | (with_reducible assumption) | assumption)
                            obtain ⟨ad167, e167, hx167_0⟩ := Kd.at_int HR0.out 0 p167 q167
                            obtain rfl : ad161 = ad167 := (by injection e167)
                            have qi167 : (0 < l0.length) = True := eq_true (by omega)
                            (try rw [show ((0 : Int)).toNat = 0 from rfl] at hx167_0)
                            (try rw [Addr.add_zero'] at hx167_0)
                            replace p167 := eq_true p167
                            replace q167 := eq_true q167
                            have p168 : 0 ≤ (1 : Int) := (by omega)
                            have q168 : 1 < (l0.length : Int) := of_decide_eq_true (by first | (with_reducible assumption) | assumption)
                            obtain ⟨ad168, e168, hx168_0⟩ := Kd.at_int HR0.out 1 p168 q168
                            obtain rfl : ad161 = ad168 := (by injection e168)
                            (try simp only [show (1 : Int).toNat = 1 from rfl, Nat.reduceMul, Nat.reduceEqDiff, Go.Addr.add, ↓reduceIte] at hx168_0)
                            have qi168 : (1 < l0.length) = True := eq_true (by omega)
                            (try rw [show ((1 : Int)).toNat = 1 from rfl] at hx168_0)
                            replace p168 := eq_true p168
                            replace q168 := eq_true q168
                            go_wp2
                            go_ret2
                            exact ⟨by first | rfl | (simp; done) | (simp [*]; done), by repeat (first | exact Drawn0.refl _ | apply Drawn0.step)⟩
                        · rw [if_neg c16] at H
                          exact absurd H (by simp)
                      · rw [if_neg c15] at H
                        have c15b0 : ((rd l0 0) == 255) = false := beq_eq_false_iff_ne.mpr c15
                        have c15b1 : ((rd l0 0) != 255) = true := bne_iff_ne.mpr c15
                        simp only [Option.some.injEq, Prod.mk.injEq] at H
                        obtain ⟨rfl, rfl⟩ := H
                        have p163 : 0 ≤ (0 : Int) := (by omega)
                        have q163 : 0 < (l0.length : Int) := of_decide_eq_true (by first | (with_reducible assumption) | assumption)
                        obtain ⟨ad163, e163, hx163_0⟩ := Kd.at_int HR0.out 0 p163 q163
                        obtain rfl : ad161 = ad163 := (by injection e163)
                        have qi163 : (0 < l0.length) = True := eq_true (by omega)
                        (try rw [show ((0 : Int)).toNat = 0 from rfl] at hx163_0)
                        (try rw [Addr.add_zero'] at hx163_0)
                        replace p163 := eq_true p163
                        replace q163 := eq_true q163
                        have p167 : 0 ≤ (0 : Int) := (by omega)
                        have q167 : 0 < (l0.length : Int) := of_decide_eq_true (by first | (with_reducible assumption) | assumption)
                        obtain ⟨ad167, e167, hx167_0⟩ := Kd.at_int HR0.out 0 p167 q167
                        obtain rfl : ad161 = ad167 := (by injection e167)
                        have qi167 : (0 < l0.length) = True := eq_true (by omega)
                        (try rw [show ((0 : Int)).toNat = 0 from rfl] at hx167_0)
                        (try rw [Addr.add_zero'] at hx167_0)
                        replace p167 := eq_true p167
                        replace q167 := eq_true q167
                        go_wp2
                        go_ret2
                        exact ⟨by first | rfl | (simp; done) | (simp [*]; done), by repeat (first | exact Drawn0.refl _ | apply Drawn0.step)⟩
                  · rw [if_neg c9] at H
                    exact absurd H (by simp)
                · rw [if_neg c8] at H
                  have c8b0 : decide (1 < (l0.length : Int)) = false := decide_eq_false c8
                  have c8b1 : decide (1 < l0.length) = false := decide_eq_false (by omega)
                  clear c8
                  simp only [Option.some.injEq, Prod.mk.injEq] at H
                  obtain ⟨rfl, rfl⟩ := H
                  go_wp2
                  go_ret2
                  exact ⟨by first | rfl | (simp; done) | (simp [*]; done), by repeat (first | exact Drawn0.refl _ | apply Drawn0.step)⟩
        · rw [if_neg c5] at H
          exact absurd H (by simp)

/-! ### warderref02_PutInt: function 13 -/
def warderref02_PutInt.l0 : Nat → Int → List Int → Option (List Int)
  | 0, _, _ => none
  | k + 1, x0, x3 => if x0 < (-128) then ((some (([(x0 / 256) % 256] : List Int) : List Int)).bind fun y172 => (if y172.length + x3.length < 140737488355328 then (warderref02_PutInt.l0 k (x0 / 256) (y172 ++ x3)) else (none))) else (if x0 > 127 then ((some (([(x0 / 256) % 256] : List Int) : List Int)).bind fun y178 => (if y178.length + x3.length < 140737488355328 then (warderref02_PutInt.l0 k (x0 / 256) (y178 ++ x3)) else (none))) else (some x3))
def warderref02_PutInt.f (k : Nat) (a0 : Int) : Option (List Int) := warderref02_PutInt.l0 k a0 (([(a0) % 256] : List Int))
theorem warderref02_PutInt.mono_l : ∀ k, (∀ y0 y1, LeO (warderref02_PutInt.l0 k y0 y1) (warderref02_PutInt.l0 (k + 1) y0 y1))
  | 0 => fun _ _ r h => by simp [warderref02_PutInt.l0] at h
  | k + 1 => by
    have ih0 := warderref02_PutInt.mono_l k
    · intro y0 y1
      unfold warderref02_PutInt.l0
      repeat' first
      | (with_reducible exact ih0 _ _)
      | (with_reducible exact LeO.refl _)
      | (with_reducible exact LeO.none _)
      | (with_reducible refine LeO.ite ?_ ?_)
      | (with_reducible refine LeO.bind ?_ (fun _ => ?_))
      | exact ih0 _ _
      | exact LeO.none _
      | refine LeO.ite ?_ ?_
      | refine LeO.bind ?_ (fun _ => ?_)
theorem warderref02_PutInt.mono : ∀ a0 k, LeO (warderref02_PutInt.f k a0) (warderref02_PutInt.f (k + 1) a0) := by
  intro a0 k
  have ih0 := warderref02_PutInt.mono_l k
  unfold warderref02_PutInt.f
  repeat' first
      | (with_reducible exact ih0 _ _)
      | (with_reducible exact LeO.refl _)
      | (with_reducible exact LeO.none _)
      | (with_reducible refine LeO.ite ?_ ?_)
      | (with_reducible refine LeO.bind ?_ (fun _ => ?_))
      | exact ih0 _ _
      | exact LeO.none _
      | refine LeO.ite ?_ ?_
      | refine LeO.bind ?_ (fun _ => ?_)
set_option maxHeartbeats 8000000 in
set_option maxRecDepth 100000 in
theorem warderref02_PutInt.calls (k : Nat) (a0 : Int) (r : List Int) (w : World) (h : warderref02_PutInt.f k a0 = some r) :
    Calls Try.prog 13 #[.int .i64 a0] w fun e w' => ∃ v0_ : Value, e = .returned (v0_) ∧ Kd.R (Kd.int .u8) 5 w' w.heap.size (fun _ => True) v0_ r ∧ Below w.heap.size w w' := by
  have HB := Aside0.mk (Below.refl w.heap.size w)
  have H : (warderref02_PutInt.l0 k a0 (([(a0) % 256] : List Int))) = some r := h
  clear h
  obtain ⟨y169, hy169⟩ : ∃ y_ : List Int, y_ = (([(a0) % 256] : List Int)) := ⟨_, rfl⟩
  replace H : (warderref02_PutInt.l0 k a0 y169) = some r := by first | (rw [hy169]; with_reducible exact H) | (have H2_ := (Option.bind_some _ _).symm.trans H; rw [hy169]; with_reducible exact H2_) | (have H2_ := (Option.bind_some _ _).symm.trans H; with_reducible exact H2_) | with_reducible exact H | (rw [hy169]; exact H) | exact H
  have Ny169 := Aside0.mk hy169
  clear hy169
  have H' := Aside0.mk H
  clear H
  go_enter Try.func13, Try.ntmps13
  go_wp2_with (first | ((with_reducible refine gate_dst (N := 6) rfl ?_); refine Kd.R_lit (Kd.int .u8) _ 5 ?hg (N := 6) ?hd (xs := ([(a0) % 256] : List Int)) (inner := [.int .u8 ((a0) % 256)]) (ok := fun _ => True) (okp := fun _ => True) ?hr ?hp (fun _ hk => hk) trivial (Below.refl _ _) (Nat.le_refl _) (by simp) ?_; (case hd => rfl); (case hg => rfl); (case hr => first | (go_simp; done) | (go_simp; rfl)); (case hp => exact (Reps.one (show Kd.M (Kd.int .u8) _ _ _ ((a0) % 256) [.int .u8 ((a0) % 256)] from rfl) (Reps.none _ _))); intro v170 w2 ho3 hb hg_ hnew_; clear hg_ hnew_; (first | rw [← Ny169.out] at ho3 | (simp only [Int.reduceToNat] at ho3; rw [← Ny169.out] at ho3)); have n0_ := Aside0.mk (Kd.R_lower ho3 (below_size (by repeat (first | (with_reducible first | exact HB.out | apply below_alloc | apply pw_below_drewN | apply below_drew1) | exact HB.out)))); have n1_ := Aside0.mk (below_step (by repeat (first | (with_reducible first | exact HB.out | apply below_alloc | apply pw_below_drewN | apply below_drew1) | exact HB.out)) hb); clear HB; have HO171 := n0_; have HB := n1_; clear n0_ n1_; clear hb ho3))
  go_loopg [0, 3] k (fun kq v0 v3 w' => ∃ (x0_1 : Int) (x3_1 : List Int), v0 = .int .i64 x0_1 ∧ Aside0 (warderref02_PutInt.l0 kq x0_1 x3_1 = some r) ∧ Aside0 (kq ≤ k) ∧ Aside0 (Kd.R (Kd.int .u8) 5 w' w.heap.size (fun _ => True) v3 x3_1) ∧ Aside0 (Below w.heap.size w w'))
  case atStart => exact ⟨(a0), (y169), (by first | rfl | (simp; done) | (simp [*]; done)), H', ⟨Nat.le_refl _⟩, ⟨by (with_reducible repeat (first | apply Kd.R_alloc | apply Kd.R_drewN | apply Kd.R_drew)); exact HO171.out⟩, ⟨by repeat (first | (with_reducible first | exact HB.out | apply below_alloc | apply pw_below_drewN | apply below_drew1) | exact HB.out)⟩⟩
  case round =>
    clear H'
    try clear c1
    try clear p2
    obtain ⟨x0_1, x3_1, rfl, HA, HK1, HO_3, HB⟩ := hrel
    cases gk with
    | zero => exact absurd HA.out (by simp [warderref02_PutInt.l0])
    | succ k1 =>
      have H := HA.out
      clear HA
      simp only [warderref02_PutInt.l0] at H
      by_cases c4 : x0_1 < (-128)
      · rw [if_pos c4] at H
        have c4b0 : decide (x0_1 < (-128)) = true := decide_eq_true c4
        clear c4
        obtain ⟨y172, hy172⟩ : ∃ y_ : List Int, y_ = (([(x0_1 / 256) % 256] : List Int)) := ⟨_, rfl⟩
        replace H : (if y172.length + x3_1.length < 140737488355328 then (warderref02_PutInt.l0 k1 (x0_1 / 256) (y172 ++ x3_1)) else (none)) = some r := by first | (rw [hy172]; with_reducible exact H) | (have H2_ := (Option.bind_some _ _).symm.trans H; rw [hy172]; with_reducible exact H2_) | (have H2_ := (Option.bind_some _ _).symm.trans H; with_reducible exact H2_) | with_reducible exact H | (rw [hy172]; exact H) | exact H
        have Ny172 := Aside0.mk hy172
        clear hy172
        by_cases c5 : y172.length + x3_1.length < 140737488355328
        · rw [if_pos c5] at H
          have LMc5 := Aside0.mk c5
          clear c5
          obtain ⟨y175, hy175⟩ : ∃ y_ : List Int, y_ = (y172 ++ x3_1) := ⟨_, rfl⟩
          replace H : (warderref02_PutInt.l0 k1 (x0_1 / 256) y175) = some r := by first | (rw [hy175]; with_reducible exact H) | (have H2_ := (Option.bind_some _ _).symm.trans H; rw [hy175]; with_reducible exact H2_) | (have H2_ := (Option.bind_some _ _).symm.trans H; with_reducible exact H2_) | with_reducible exact H | (rw [hy175]; exact H) | exact H
          have Ny175 := Aside0.mk hy175
          clear hy175
          have H' := Aside0.mk H
          clear H
          go_wp2_with (first | ((with_reducible refine gate_dst (N := 17) rfl ?_); refine Kd.R_lit (Kd.int .u8) _ 5 ?hg (N := 17) ?hd (xs := ([(x0_1 / 256) % 256] : List Int)) (inner := [.int .u8 ((x0_1 / 256) % 256)]) (ok := fun _ => True) (okp := fun _ => True) ?hr ?hp (fun _ hk => hk) trivial (Below.refl _ _) (Nat.le_refl _) (by simp) ?_; (case hd => rfl); (case hg => rfl); (case hr => first | (go_simp; done) | (go_simp; rfl)); (case hp => exact (Reps.one (show Kd.M (Kd.int .u8) _ _ _ ((x0_1 / 256) % 256) [.int .u8 ((x0_1 / 256) % 256)] from rfl) (Reps.none _ _))); intro v173 w6 ho7 hb hg_ hnew_; clear hg_ hnew_; (first | rw [← Ny172.out] at ho7 | (simp only [Int.reduceToNat] at ho7; rw [← Ny172.out] at ho7)); have n0_ := Aside0.mk (Kd.R_elder' (by (with_reducible repeat (first | apply Kd.R_alloc | apply Kd.R_drewN | apply Kd.R_drew)); exact HO_3.out) (Kd.R_base ho7) hb); have n1_ := Aside0.mk (Kd.R_lower (Kd.R_new' ho7 (Kd.R_lt (by (with_reducible repeat (first | apply Kd.R_alloc | apply Kd.R_drewN | apply Kd.R_drew)); exact HO_3.out))) (below_size (by repeat (first | (with_reducible first | exact HB.out | apply below_alloc | apply pw_below_drewN | apply below_drew1) | exact HB.out)))); have n2_ := Aside0.mk (below_step (by repeat (first | (with_reducible first | exact HB.out | apply below_alloc | apply pw_below_drewN | apply below_drew1) | exact HB.out)) hb); clear HO_3; clear HB; have HO_3 := n0_; have HO174 := n1_; have HB := n2_; clear n0_ n1_ n2_; clear hb ho7; obtain ⟨Ao9, co9, eo9⟩ := Kd.R_slice HO_3.out; subst eo9) | ((with_reducible refine gate_builtin (b := .append) (xs := #[.tmp 17, .tmp 18]) rfl ?_); at_builtin; refine Kd.R_append_rows (Kd.int .u8) (w0 := w) w.heap.size rfl (.tmp 17) (.tmp 18) 22 5 (.int .u8 0) 1 rfl Try.underlying22 info5 rfl (by decide) (by omega) v173 y172 x3_1 _ _ _ (fun k_ => some k_ ≠ (.slice Ao9 x3_1.length co9 : Value).ownBlock) (fun _ => False) rfl rfl ?aO ?aR (fun _ _ h => h) (fun _ h => h.elim) ?aF ?aB ?aS ?aL ?_; (case aR => repeat (first | exact (Kd.R_reads' HO_3.out).2.2 | (with_reducible refine Kd.C_alloc ?_ _) | (with_reducible refine Kd.C_drewN ?_ _) | (with_reducible refine Kd.C_drew ?_))); (case aB => exact (by repeat (first | (with_reducible first | exact HB.out | apply below_alloc | apply pw_below_drewN | apply below_drew1) | exact HB.out))); (case aF => exact (fun k_ hk => Kd.fresh' (Kd.R_lt (by (with_reducible repeat (first | apply Kd.R_alloc | apply Kd.R_drewN | apply Kd.R_drew)); exact HO_3.out)) k_ hk)); (case aO => exact (by (with_reducible repeat (first | apply Kd.R_alloc | apply Kd.R_drewN | apply Kd.R_drew)); exact Kd.R_mono HO174.out (fun _ hk => hk.2))); (case aS => exact (below_size (by repeat (first | (with_reducible first | exact HB.out | apply below_alloc | apply pw_below_drewN | apply below_drew1) | exact HB.out)))); (case aL => have := LMc5.out; omega); intro v176 w8 ho hb hg hat; rw [← Ny175.out] at ho; have n0_ := Aside0.mk (Kd.R_after (ok := (fun _ => True)) (by (with_reducible repeat (first | apply Kd.R_alloc | apply Kd.R_drewN | apply Kd.R_drew)); exact HO_3.out) hg hat); have n1_ := Aside0.mk (hb); have n2_ := Aside0.mk (ho); clear HO_3; clear HB; clear HO174; have HO_3 := n0_; have HB := n1_; have HO177 := n2_; clear n0_ n1_ n2_; clear ho hb hg hat))
          go_roundg k1
          case measure => have := HK1.out; omega
          case rel => exact ⟨(x0_1 / 256), (y175), (by first | rfl | (simp; done) | (simp [*]; done)), H', ⟨by have := HK1.out; omega⟩, ⟨by (with_reducible repeat (first | apply Kd.R_alloc | apply Kd.R_drewN | apply Kd.R_drew)); exact Kd.R_mono HO177.out (fun _ hk => trivial)⟩, ⟨by repeat (first | (with_reducible first | exact HB.out | apply below_alloc | apply pw_below_drewN | apply below_drew1) | exact HB.out)⟩⟩
        · rw [if_neg c5] at H
          exact absurd H (by simp)
      · rw [if_neg c4] at H
        have c4b0 : decide (x0_1 < (-128)) = false := decide_eq_false c4
        clear c4
        by_cases c10 : x0_1 > 127
        · rw [if_pos c10] at H
          have c10b0 : decide (127 < x0_1) = true := decide_eq_true c10
          clear c10
          obtain ⟨y178, hy178⟩ : ∃ y_ : List Int, y_ = (([(x0_1 / 256) % 256] : List Int)) := ⟨_, rfl⟩
          replace H : (if y178.length + x3_1.length < 140737488355328 then (warderref02_PutInt.l0 k1 (x0_1 / 256) (y178 ++ x3_1)) else (none)) = some r := by first | (rw [hy178]; with_reducible exact H) | (have H2_ := (Option.bind_some _ _).symm.trans H; rw [hy178]; with_reducible exact H2_) | (have H2_ := (Option.bind_some _ _).symm.trans H; with_reducible exact H2_) | with_reducible exact H | (rw [hy178]; exact H) | exact H
          have Ny178 := Aside0.mk hy178
          clear hy178
          by_cases c11 : y178.length + x3_1.length < 140737488355328
          · rw [if_pos c11] at H
            have LMc11 := Aside0.mk c11
            clear c11
            obtain ⟨y181, hy181⟩ : ∃ y_ : List Int, y_ = (y178 ++ x3_1) := ⟨_, rfl⟩
            replace H : (warderref02_PutInt.l0 k1 (x0_1 / 256) y181) = some r := by first | (rw [hy181]; with_reducible exact H) | (have H2_ := (Option.bind_some _ _).symm.trans H; rw [hy181]; with_reducible exact H2_) | (have H2_ := (Option.bind_some _ _).symm.trans H; with_reducible exact H2_) | with_reducible exact H | (rw [hy181]; exact H) | exact H
            have Ny181 := Aside0.mk hy181
            clear hy181
            have H' := Aside0.mk H
            clear H
            go_wp2_with (first | ((with_reducible refine gate_dst (N := 17) rfl ?_); refine Kd.R_lit (Kd.int .u8) _ 5 ?hg (N := 17) ?hd (xs := ([(x0_1 / 256) % 256] : List Int)) (inner := [.int .u8 ((x0_1 / 256) % 256)]) (ok := fun _ => True) (okp := fun _ => True) ?hr ?hp (fun _ hk => hk) trivial (Below.refl _ _) (Nat.le_refl _) (by simp) ?_; (case hd => rfl); (case hg => rfl); (case hr => first | (go_simp; done) | (go_simp; rfl)); (case hp => exact (Reps.one (show Kd.M (Kd.int .u8) _ _ _ ((x0_1 / 256) % 256) [.int .u8 ((x0_1 / 256) % 256)] from rfl) (Reps.none _ _))); intro v179 w12 ho13 hb hg_ hnew_; clear hg_ hnew_; (first | rw [← Ny178.out] at ho13 | (simp only [Int.reduceToNat] at ho13; rw [← Ny178.out] at ho13)); have n0_ := Aside0.mk (Kd.R_elder' (by (with_reducible repeat (first | apply Kd.R_alloc | apply Kd.R_drewN | apply Kd.R_drew)); exact HO_3.out) (Kd.R_base ho13) hb); have n1_ := Aside0.mk (Kd.R_lower (Kd.R_new' ho13 (Kd.R_lt (by (with_reducible repeat (first | apply Kd.R_alloc | apply Kd.R_drewN | apply Kd.R_drew)); exact HO_3.out))) (below_size (by repeat (first | (with_reducible first | exact HB.out | apply below_alloc | apply pw_below_drewN | apply below_drew1) | exact HB.out)))); have n2_ := Aside0.mk (below_step (by repeat (first | (with_reducible first | exact HB.out | apply below_alloc | apply pw_below_drewN | apply below_drew1) | exact HB.out)) hb); clear HO_3; clear HB; have HO_3 := n0_; have HO180 := n1_; have HB := n2_; clear n0_ n1_ n2_; clear hb ho13; obtain ⟨Ao15, co15, eo15⟩ := Kd.R_slice HO_3.out; subst eo15) | ((with_reducible refine gate_builtin (b := .append) (xs := #[.tmp 17, .tmp 18]) rfl ?_); at_builtin; refine Kd.R_append_rows (Kd.int .u8) (w0 := w) w.heap.size rfl (.tmp 17) (.tmp 18) 22 5 (.int .u8 0) 1 rfl Try.underlying22 info5 rfl (by decide) (by omega) v179 y178 x3_1 _ _ _ (fun k_ => some k_ ≠ (.slice Ao15 x3_1.length co15 : Value).ownBlock) (fun _ => False) rfl rfl ?aO ?aR (fun _ _ h => h) (fun _ h => h.elim) ?aF ?aB ?aS ?aL ?_; (case aR => repeat (first | exact (Kd.R_reads' HO_3.out).2.2 | (with_reducible refine Kd.C_alloc ?_ _) | (with_reducible refine Kd.C_drewN ?_ _) | (with_reducible refine Kd.C_drew ?_))); (case aB => exact (by repeat (first | (with_reducible first | exact HB.out | apply below_alloc | apply pw_below_drewN | apply below_drew1) | exact HB.out))); (case aF => exact (fun k_ hk => Kd.fresh' (Kd.R_lt (by (with_reducible repeat (first | apply Kd.R_alloc | apply Kd.R_drewN | apply Kd.R_drew)); exact HO_3.out)) k_ hk)); (case aO => exact (by (with_reducible repeat (first | apply Kd.R_alloc | apply Kd.R_drewN | apply Kd.R_drew)); exact Kd.R_mono HO180.out (fun _ hk => hk.2))); (case aS => exact (below_size (by repeat (first | (with_reducible first | exact HB.out | apply below_alloc | apply pw_below_drewN | apply below_drew1) | exact HB.out)))); (case aL => have := LMc11.out; omega); intro v182 w14 ho hb hg hat; rw [← Ny181.out] at ho; have n0_ := Aside0.mk (Kd.R_after (ok := (fun _ => True)) (by (with_reducible repeat (first | apply Kd.R_alloc | apply Kd.R_drewN | apply Kd.R_drew)); exact HO_3.out) hg hat); have n1_ := Aside0.mk (hb); have n2_ := Aside0.mk (ho); clear HO_3; clear HB; clear HO180; have HO_3 := n0_; have HB := n1_; have HO183 := n2_; clear n0_ n1_ n2_; clear ho hb hg hat))
            go_roundg k1
            case measure => have := HK1.out; omega
            case rel => exact ⟨(x0_1 / 256), (y181), (by first | rfl | (simp; done) | (simp [*]; done)), H', ⟨by have := HK1.out; omega⟩, ⟨by (with_reducible repeat (first | apply Kd.R_alloc | apply Kd.R_drewN | apply Kd.R_drew)); exact Kd.R_mono HO183.out (fun _ hk => trivial)⟩, ⟨by repeat (first | (with_reducible first | exact HB.out | apply below_alloc | apply pw_below_drewN | apply below_drew1) | exact HB.out)⟩⟩
          · rw [if_neg c11] at H
            exact absurd H (by simp)
        · rw [if_neg c10] at H
          have c10b0 : decide (127 < x0_1) = false := decide_eq_false c10
          clear c10
          obtain rfl := Option.some.inj H
          go_wp2
          go_ret
          exact ⟨_, by first | rfl | (simp [errW_none, errW_some] <;> rfl) | (simp [*, errW_none, errW_some] <;> rfl), by (with_reducible repeat (first | apply Kd.R_alloc | apply Kd.R_drewN | apply Kd.R_drew)); exact HO_3.out, by repeat (first | (with_reducible first | exact HB.out | apply below_alloc | apply pw_below_drewN | apply below_drew1) | exact HB.out)⟩

end Go.Proofs.Ytekebbbalackkaa.PA
