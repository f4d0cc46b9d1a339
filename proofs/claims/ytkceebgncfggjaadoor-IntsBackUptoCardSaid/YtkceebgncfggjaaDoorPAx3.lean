/- Printed by a program of this session's (wip/xprint.py), for this claim: Go functions as plain Lean functions, and the proof that each call does what its function says. No condition beside those in each theorem's own line. -/
import Derived.Test.YtkceebgncfggjaaDoorPAx0
import Derived.Test.YtkceebgncfggjaaDoorPAx1
import Derived.Test.YtkceebgncfggjaaDoorPAx2
namespace Go.Proofs.YtkceebgncfggjaaDoor.PA
open Go.RowKit Go.Proofs.YtkceebgncfggjaaDoorW.PrintWords Go.Proofs.YtkceebgncfggjaaDoorW.PrintLast Go.Proofs.YtkceebgncfggjaaDoorW.PrintMore Go.Proofs.YtkceebgncfggjaaDoorX
attribute [local go_sem] max2_int min2_int max_two min_two max_three min_three max_four min_four   -- for this text's walks alone
set_option linter.unusedVariables false
set_option linter.unusedSimpArgs false

/-! ### ints_PutOID: function 19 -/
mutual
def ints_PutOID.j0 : Nat → List Int → Bool → Option (List Int × Int)
  | 0, _, _ => none
  | k + 1, x0, x8 => if x8 = true then (some (([] : List Int), 22)) else (if 0 < (x0.length : Int) then (if (rd x0 0) > 2 then (some (([] : List Int), 22)) else (if (rd x0 0) < 2 then (if 1 < (x0.length : Int) then (ints_PutOID.j1 k x0 (decide ((rd x0 1) > 39))) else (none)) else (ints_PutOID.j1 k x0 false))) else (none))
def ints_PutOID.j1 : Nat → List Int → Bool → Option (List Int × Int)
  | 0, _, _ => none
  | k + 1, x0, x18 => if x18 = true then (some (([] : List Int), 22)) else (if 0 < (x0.length : Int) then (if 1 < (x0.length : Int) then ((ints_PutOID_1.f (wrap64 ((wrap64 (40 * (rd x0 0))) + (rd x0 1)))).bind fun t131 => (if t131 = true then (some (([] : List Int), 22)) else ((ints_arc.f k (wrap64 ((wrap64 (40 * (rd x0 0))) + (rd x0 1)))).bind fun t134 => (if 2 ≤ (x0.length : Int) then (ints_PutOID.l0 k t134 (x0.drop 2) ((x0.drop 2).length : Int) 0) else (none))))) else (none)) else (none))
def ints_PutOID.l0 : Nat → List Int → List Int → Int → Int → Option (List Int × Int)
  | 0, _, _, _, _ => none
  | k + 1, x5, x53, x54, x55 => if x55 < x54 then (if 0 ≤ x55 then (if x55 < (x53.length : Int) then ((ints_arc.f k (rd x53 x55)).bind fun t139 => (if x5.length + t139.length < 140737488355328 then (ints_PutOID.l0 k (x5 ++ t139) x53 x54 (wrap64 (x55 + 1))) else (none))) else (none)) else (none)) else (some (x5, 0))
end
def ints_PutOID.f (k : Nat) (l0 : List Int) : Option (List Int × Int) := if (l0.length : Int) < 2 then (ints_PutOID.j0 k l0 (decide ((l0.length : Int) < 2))) else (if (l0.length : Int) > 16 then (ints_PutOID.j0 k l0 (decide ((l0.length : Int) > 16))) else ((slices_ContainsFunc_int_int.f k l0).bind fun t125 => (ints_PutOID.j0 k l0 t125)))
theorem ints_PutOID.mono_l : ∀ k, (∀ y0 y1, LeO (ints_PutOID.j0 k y0 y1) (ints_PutOID.j0 (k + 1) y0 y1)) ∧ (∀ y0 y1, LeO (ints_PutOID.j1 k y0 y1) (ints_PutOID.j1 (k + 1) y0 y1)) ∧ (∀ y0 y1 y2 y3, LeO (ints_PutOID.l0 k y0 y1 y2 y3) (ints_PutOID.l0 (k + 1) y0 y1 y2 y3))
  | 0 => ⟨fun _ _ r h => by simp [ints_PutOID.j0] at h, fun _ _ r h => by simp [ints_PutOID.j1] at h, fun _ _ _ _ r h => by simp [ints_PutOID.l0] at h⟩
  | k + 1 => by
    obtain ⟨ih0, ih1, ih2⟩ := ints_PutOID.mono_l k
    refine ⟨?_, ?_, ?_⟩
    · intro y0 y1
      unfold ints_PutOID.j0
      repeat' first
      | (with_reducible exact ih0 _ _)
      | (with_reducible exact ih1 _ _)
      | (with_reducible exact ih2 _ _ _ _)
      | (with_reducible exact ints_arc.mono _ _)
      | (with_reducible exact slices_ContainsFunc_int_int.mono _ _)
      | (with_reducible exact LeO.refl _)
      | (with_reducible exact LeO.none _)
      | (with_reducible refine LeO.ite ?_ ?_)
      | (with_reducible refine LeO.bind ?_ (fun _ => ?_))
      | exact ih0 _ _
      | exact ih1 _ _
      | exact ih2 _ _ _ _
      | exact ints_arc.mono _ _
      | exact slices_ContainsFunc_int_int.mono _ _
      | exact LeO.none _
      | refine LeO.ite ?_ ?_
      | refine LeO.bind ?_ (fun _ => ?_)
    · intro y0 y1
      unfold ints_PutOID.j1
      repeat' first
      | (with_reducible exact ih0 _ _)
      | (with_reducible exact ih1 _ _)
      | (with_reducible exact ih2 _ _ _ _)
      | (with_reducible exact ints_arc.mono _ _)
      | (with_reducible exact slices_ContainsFunc_int_int.mono _ _)
      | (with_reducible exact LeO.refl _)
      | (with_reducible exact LeO.none _)
      | (with_reducible refine LeO.ite ?_ ?_)
      | (with_reducible refine LeO.bind ?_ (fun _ => ?_))
      | exact ih0 _ _
      | exact ih1 _ _
      | exact ih2 _ _ _ _
      | exact ints_arc.mono _ _
      | exact slices_ContainsFunc_int_int.mono _ _
      | exact LeO.none _
      | refine LeO.ite ?_ ?_
      | refine LeO.bind ?_ (fun _ => ?_)
    · intro y0 y1 y2 y3
      unfold ints_PutOID.l0
      repeat' first
      | (with_reducible exact ih0 _ _)
      | (with_reducible exact ih1 _ _)
      | (with_reducible exact ih2 _ _ _ _)
      | (with_reducible exact ints_arc.mono _ _)
      | (with_reducible exact slices_ContainsFunc_int_int.mono _ _)
      | (with_reducible exact LeO.refl _)
      | (with_reducible exact LeO.none _)
      | (with_reducible refine LeO.ite ?_ ?_)
      | (with_reducible refine LeO.bind ?_ (fun _ => ?_))
      | exact ih0 _ _
      | exact ih1 _ _
      | exact ih2 _ _ _ _
      | exact ints_arc.mono _ _
      | exact slices_ContainsFunc_int_int.mono _ _
      | exact LeO.none _
      | refine LeO.ite ?_ ?_
      | refine LeO.bind ?_ (fun _ => ?_)
theorem ints_PutOID.mono : ∀ a0 k, LeO (ints_PutOID.f k a0) (ints_PutOID.f (k + 1) a0) := by
  intro a0 k
  obtain ⟨ih0, ih1, ih2⟩ := ints_PutOID.mono_l k
  unfold ints_PutOID.f
  repeat' first
      | (with_reducible exact ih0 _ _)
      | (with_reducible exact ih1 _ _)
      | (with_reducible exact ih2 _ _ _ _)
      | (with_reducible exact ints_arc.mono _ _)
      | (with_reducible exact slices_ContainsFunc_int_int.mono _ _)
      | (with_reducible exact LeO.refl _)
      | (with_reducible exact LeO.none _)
      | (with_reducible refine LeO.ite ?_ ?_)
      | (with_reducible refine LeO.bind ?_ (fun _ => ?_))
      | exact ih0 _ _
      | exact ih1 _ _
      | exact ih2 _ _ _ _
      | exact ints_arc.mono _ _
      | exact slices_ContainsFunc_int_int.mono _ _
      | exact LeO.none _
      | refine LeO.ite ?_ ?_
      | refine LeO.bind ?_ (fun _ => ?_)
def ints_PutOID.T8 : Bool × List (List Nat × List Nat) := (true, [([], []), ([], []), ([1], [1]), ([2], [2]), ([3], [3]), ([], []), ([5], [5]), ([6], [6]), ([4, 7], [4, 7]), ([0, 8], [0, 8]), ([9, 9], [9])])
def ints_PutOID.B8 : List Nat := [0, 0, 2, 6, 14, 0, 32, 96, 254, 511, 1023]
theorem ints_PutOID.tab8 : rtab .any (opsOf Tryd.f19 8) = ints_PutOID.T8 := by kernel_rfl
theorem ints_PutOID.bits8 : waitsOk ints_PutOID.T8.2 ints_PutOID.B8 = true := by kernel_rfl
def ints_PutOID.T10 : Bool × List (List Nat × List Nat) := (true, [([], []), ([0], [0]), ([1], [1]), ([2], [2]), ([], []), ([4], [4]), ([5], [5]), ([3, 6], [3, 6]), ([7], [7]), ([8, 8, 0, 1, 2, 3, 4, 5, 6, 7, 8], [8])])
def ints_PutOID.B10 : List Nat := [0, 1, 3, 7, 0, 16, 48, 127, 255, 511]
theorem ints_PutOID.tab10 : rtab .any (opsOf Tryd.f19 10) = ints_PutOID.T10 := by kernel_rfl
theorem ints_PutOID.bits10 : waitsOk ints_PutOID.T10.2 ints_PutOID.B10 = true := by kernel_rfl
set_option maxHeartbeats 8000000 in
set_option maxRecDepth 100000 in
theorem ints_PutOID.calls (k : Nat) (A0 : Option Addr) (c0 : Nat) (l0 : List Int) (r1 : List Int) (r2 : Int) (w : World) (hr0 : Kd.C (Kd.int .i64) w A0 l0.length l0) (hc0 : l0.length ≤ c0) (h : ints_PutOID.f k l0 = some (r1, r2)) :
    Calls Tryd.prog 19 #[.slice A0 l0.length c0] w fun e w' => ∃ v0_ : Value, e = .returned (.tuple #[v0_, .int .i64 r2]) ∧ Kd.R (Kd.int .u8) 5 w' w.heap.size (fun _ => True) v0_ r1 ∧ Below w.heap.size w w' := by
  have HR0 := Aside0.mk hr0
  have HC0 := Aside0.mk hc0
  clear hr0 hc0
  have HB := Aside0.mk (Below.refl w.heap.size w)
  have H : (if (l0.length : Int) < 2 then (ints_PutOID.j0 k l0 (decide ((l0.length : Int) < 2))) else (if (l0.length : Int) > 16 then (ints_PutOID.j0 k l0 (decide ((l0.length : Int) > 16))) else ((slices_ContainsFunc_int_int.f k l0).bind fun t125 => (ints_PutOID.j0 k l0 t125)))) = some (r1, r2) := h
  clear h
  have HC2 := Aside0.mk H
  clear H
  go_enter Tryd.func19, Tryd.ntmps19
  go_upto_if 8 with (fail)
  go_cut [8] (fun v8 wc => ∃ (kq : Nat) (x8_1 : Bool), v8 = .bool x8_1 ∧ Aside0 (ints_PutOID.j0 kq l0 x8_1 = some (r1, r2)) ∧ Aside0 (kq ≤ k) ∧ Aside0 (Below w.heap.size w wc))
  case first =>
    have H := HC2.out
    clear HC2
    by_cases c3 : (l0.length : Int) < 2
    · rw [if_pos c3] at H
      have c3b0 : decide ((l0.length : Int) < 2) = true := decide_eq_true c3
      have c3b1 : decide (l0.length < 2) = true := decide_eq_true (by omega)
      clear c3
      (first | rw [c3b0] | (simp only [i64_w, i32_w]; rw [c3b0]) | skip)
      have H' := Aside0.mk H
      clear H
      go_wp2
      go_meet
      case rel => exact ⟨_, (decide ((l0.length : Int) < 2)), (by first | rfl | (simp; done) | (simp [*]; done)), H', ⟨by first | omega | exact Nat.le_refl _⟩, ⟨by repeat (first | (with_reducible first | exact HB.out | apply below_alloc | apply pw_below_drewN | apply below_drew1) | exact HB.out)⟩⟩
    · rw [if_neg c3] at H
      have c3b0 : decide ((l0.length : Int) < 2) = false := decide_eq_false c3
      have c3b1 : decide (l0.length < 2) = false := decide_eq_false (by omega)
      clear c3
      (first | rw [c3b0] | (simp only [i64_w, i32_w]; rw [c3b0]) | skip)
      by_cases c4 : (l0.length : Int) > 16
      · rw [if_pos c4] at H
        have c4b0 : decide (16 < (l0.length : Int)) = true := decide_eq_true c4
        have c4b1 : decide (16 < l0.length) = true := decide_eq_true (by omega)
        clear c4
        have H' := Aside0.mk H
        clear H
        go_wp2
        go_meet
        case rel => exact ⟨_, (decide ((l0.length : Int) > 16)), (by first | rfl | (simp; done) | (simp [*]; done)), H', ⟨by first | omega | exact Nat.le_refl _⟩, ⟨by repeat (first | (with_reducible first | exact HB.out | apply below_alloc | apply pw_below_drewN | apply below_drew1) | exact HB.out)⟩⟩
      · rw [if_neg c4] at H
        have c4b0 : decide (16 < (l0.length : Int)) = false := decide_eq_false c4
        have c4b1 : decide (16 < l0.length) = false := decide_eq_false (by omega)
        clear c4
        replace H := Option.bind_eq_some_iff.mp H
        obtain ⟨t125, A50, H⟩ := H
        replace H : (ints_PutOID.j0 k l0 t125) = some (r1, r2) := H
        have A5 := Aside0.mk A50
        clear A50
        have H' := Aside0.mk H
        clear H
        go_wp2_with (first | ((with_reducible refine gate_callee (f := 36) rfl ?_); refine goesL_ (some 17) rfl rfl Tryd.func36 (by kernel_rfl) rfl #[.slice A0 l0.length c0, .func (.func 35) #[] #[]] rfl (by (try simp only [List.map_toArray, List.map_cons, List.map_nil]); first | done | rfl | (simp only [List.length_drop, List.length_take]; rfl)) ?_; (with_reducible refine (slices_ContainsFunc_int_int.calls k _ _ l0  t125 _ ?side1 ?side2 A5.out).mono ?_); (case side1 => repeat (first | exact (Kd.C_below HR0.out HB.out) | (with_reducible refine Kd.C_alloc ?_ _) | (with_reducible refine Kd.C_drewN ?_ _) | (with_reducible refine Kd.C_drew ?_))); (case side2 => exact HC0.out); rintro e w' ⟨rfl, ⟨nd, rfl⟩⟩; refine ⟨_, rfl, ?_⟩))
        go_meet
        case rel => exact ⟨_, (t125), (by first | rfl | (simp; done) | (simp [*]; done)), H', ⟨by first | omega | exact Nat.le_refl _⟩, ⟨by repeat (first | (with_reducible first | exact HB.out | apply below_alloc | apply pw_below_drewN | apply below_drew1) | exact HB.out)⟩⟩
  case rest =>
    clear HC2
    try clear c1
    try clear p2
    try clear c3
    try clear c3b0
    try clear c3b1
    try clear c4
    try clear c4b0
    try clear c4b1
    obtain ⟨kq, x8_1, rfl, HA, HJ1, HB⟩ := hcut
    cases kq with
    | zero => exact absurd HA.out (by simp [ints_PutOID.j0])
    | succ kj1 =>
      have H := HA.out
      clear HA
      simp only [ints_PutOID.j0] at H
      by_cases c6 : x8_1 = true
      · subst c6
        have H1 : (some (([] : List Int), 22)) = some (r1, r2) := by rw [if_pos rfl] at H; exact H
        clear H
        have H := H1
        clear H1
        simp only [Option.some.injEq, Prod.mk.injEq] at H
        obtain ⟨rfl, rfl⟩ := H
        go_wp2
        go_ret2
        exact ⟨_, by first | rfl | (simp [errW_none, errW_some] <;> rfl) | (simp [*, errW_none, errW_some] <;> rfl), by first | exact Kd.R_nil _ _ _ _ _ | exact Kd.N_nil _ _ _ _ _ | exact Kd.V_nil _ _ _ _ _ | exact Kd.Q_nil _ _ _ _ _ | exact Kd.S_nil _ _ _ _ _, by repeat (first | (with_reducible first | exact HB.out | apply below_alloc | apply pw_below_drewN | apply below_drew1) | exact HB.out)⟩
      · replace c6 := Bool.eq_false_iff.mpr c6
        subst c6
        have H1 : (if 0 < (l0.length : Int) then (if (rd l0 0) > 2 then (some (([] : List Int), 22)) else (if (rd l0 0) < 2 then (if 1 < (l0.length : Int) then (ints_PutOID.j1 kj1 l0 (decide ((rd l0 1) > 39))) else (none)) else (ints_PutOID.j1 kj1 l0 false))) else (none)) = some (r1, r2) := by rw [if_neg (show ¬ (false = true) by decide)] at H; exact H
        clear H
        have H := H1
        clear H1
        by_cases c7 : 0 < (l0.length : Int)
        · rw [if_pos c7] at H
          have c7b0 : decide (0 < (l0.length : Int)) = true := decide_eq_true c7
          have c7b1 : decide (0 < l0.length) = true := decide_eq_true (by omega)
          clear c7
          by_cases c8 : (rd l0 0) > 2
          · rw [if_pos c8] at H
            have c8b0 : decide (2 < (rd l0 0)) = true := decide_eq_true c8
            clear c8
            simp only [Option.some.injEq, Prod.mk.injEq] at H
            obtain ⟨rfl, rfl⟩ := H
            have p126 : 0 ≤ (0 : Int) := (by omega)
            have q126 : 0 < (l0.length : Int) := of_decide_eq_true (by first | (with_reducible assumption) | assumption)
            obtain ⟨ad126, e126, hx126_0⟩ := Kd.at_int HR0.out 0 p126 q126
            cases e126
            have qi126 : (0 < l0.length) = True := eq_true (by omega)
            (try rw [show ((0 : Int)).toNat = 0 from rfl] at hx126_0)
            (try rw [Addr.add_zero'] at hx126_0)
            replace hx126_0 := (HB.out.cell (World.block_lt_of_cell? w _ hx126_0)).trans hx126_0
            replace p126 := eq_true p126
            replace q126 := eq_true q126
            go_wp2
            go_ret2
            exact ⟨_, by first | rfl | (simp [errW_none, errW_some] <;> rfl) | (simp [*, errW_none, errW_some] <;> rfl), by first | exact Kd.R_nil _ _ _ _ _ | exact Kd.N_nil _ _ _ _ _ | exact Kd.V_nil _ _ _ _ _ | exact Kd.Q_nil _ _ _ _ _ | exact Kd.S_nil _ _ _ _ _, by repeat (first | (with_reducible first | exact HB.out | apply below_alloc | apply pw_below_drewN | apply below_drew1) | exact HB.out)⟩
          · rw [if_neg c8] at H
            have c8b0 : decide (2 < (rd l0 0)) = false := decide_eq_false c8
            clear c8
            have HC9 := Aside0.mk H
            clear H
            have p126 : 0 ≤ (0 : Int) := (by omega)
            have q126 : 0 < (l0.length : Int) := of_decide_eq_true (by first | (with_reducible assumption) | assumption)
            obtain ⟨ad126, e126, hx126_0⟩ := Kd.at_int HR0.out 0 p126 q126
            cases e126
            have qi126 : (0 < l0.length) = True := eq_true (by omega)
            (try rw [show ((0 : Int)).toNat = 0 from rfl] at hx126_0)
            (try rw [Addr.add_zero'] at hx126_0)
            replace hx126_0 := (HB.out.cell (World.block_lt_of_cell? w _ hx126_0)).trans hx126_0
            replace p126 := eq_true p126
            replace q126 := eq_true q126
            go_upto_region 7 with (fail)
            go_cut [18] (fun v18 wc => ∃ (kq : Nat) (x18_8 : Bool), v18 = .bool x18_8 ∧ Aside0 (ints_PutOID.j1 kq l0 x18_8 = some (r1, r2)) ∧ Aside0 (kq ≤ kj1) ∧ Aside0 (Below w.heap.size w wc))
            case first =>
              have H := HC9.out
              clear HC9
              by_cases c10 : (rd l0 0) < 2
              · rw [if_pos c10] at H
                have c10b0 : decide ((rd l0 0) < 2) = true := decide_eq_true c10
                clear c10
                (first | rw [c10b0] | (simp only [i64_w, i32_w]; rw [c10b0]) | skip)
                by_cases c11 : 1 < (l0.length : Int)
                · rw [if_pos c11] at H
                  have c11b0 : decide (1 < (l0.length : Int)) = true := decide_eq_true c11
                  have c11b1 : decide (1 < l0.length) = true := decide_eq_true (by omega)
                  clear c11
                  have H' := Aside0.mk H
                  clear H
                  have p127 : 0 ≤ (0 : Int) := (by omega)
                  have q127 : 0 < (l0.length : Int) := of_decide_eq_true (by first | (with_reducible assumption) | assumption)
                  obtain ⟨ad127, e127, hx127_0⟩ := Kd.at_int HR0.out 0 p127 q127
                  obtain rfl : ad126 = ad127 := (by injection e127)
                  have qi127 : (0 < l0.length) = True := eq_true (by omega)
                  (try rw [show ((0 : Int)).toNat = 0 from rfl] at hx127_0)
                  (try rw [Addr.add_zero'] at hx127_0)
                  replace hx127_0 := (HB.out.cell (World.block_lt_of_cell? w _ hx127_0)).trans hx127_0
                  replace p127 := eq_true p127
                  replace q127 := eq_true q127
                  have p128 : 0 ≤ (1 : Int) := (by omega)
                  have q128 : 1 < (l0.length : Int) := of_decide_eq_true (by first | (with_reducible assumption) | assumption)
                  obtain ⟨ad128, e128, hx128_0⟩ := Kd.at_int HR0.out 1 p128 q128
                  obtain rfl : ad126 = ad128 := (by injection e128)
                  (try simp only [show (1 : Int).toNat = 1 from rfl, Nat.reduceMul, Nat.reduceEqDiff, Go.Addr.add, ↓reduceIte] at hx128_0)
                  have qi128 : (1 < l0.length) = True := eq_true (by omega)
                  (try rw [show ((1 : Int)).toNat = 1 from rfl] at hx128_0)
                  replace hx128_0 := (HB.out.cell (World.block_lt_of_cell? w _ hx128_0)).trans hx128_0
                  replace p128 := eq_true p128
                  replace q128 := eq_true q128
                  go_wp2
                  go_meet
                  case rel => exact ⟨_, (decide ((rd l0 1) > 39)), (by first | rfl | (simp; done) | (simp [*]; done)), H', ⟨by have := HJ1.out; first | omega | exact Nat.le_refl _⟩, ⟨by repeat (first | (with_reducible first | exact HB.out | apply below_alloc | apply pw_below_drewN | apply below_drew1) | exact HB.out)⟩⟩
                · rw [if_neg c11] at H
                  exact absurd H (by simp)
              · rw [if_neg c10] at H
                have c10b0 : decide ((rd l0 0) < 2) = false := decide_eq_false c10
                clear c10
                (first | rw [c10b0] | (simp only [i64_w, i32_w]; rw [c10b0]) | skip)
                have H' := Aside0.mk H
                clear H
                have p127 : 0 ≤ (0 : Int) := (by omega)
                have q127 : 0 < (l0.length : Int) := of_decide_eq_true (by first | (with_reducible assumption) | assumption)
                obtain ⟨ad127, e127, hx127_0⟩ := Kd.at_int HR0.out 0 p127 q127
                obtain rfl : ad126 = ad127 := (by injection e127)
                have qi127 : (0 < l0.length) = True := eq_true (by omega)
                (try rw [show ((0 : Int)).toNat = 0 from rfl] at hx127_0)
                (try rw [Addr.add_zero'] at hx127_0)
                replace hx127_0 := (HB.out.cell (World.block_lt_of_cell? w _ hx127_0)).trans hx127_0
                replace p127 := eq_true p127
                replace q127 := eq_true q127
                go_wp2
                go_meet
                case rel => exact ⟨_, (false), (by first | rfl | (simp; done) | (simp [*]; done)), H', ⟨by have := HJ1.out; first | omega | exact Nat.le_refl _⟩, ⟨by repeat (first | (with_reducible first | exact HB.out | apply below_alloc | apply pw_below_drewN | apply below_drew1) | exact HB.out)⟩⟩
            case rest =>
              clear HC9
              try clear c1
              try clear p1
              try clear q1
              try clear hx1
              try clear qi1
              try clear p2
              try clear c3
              try clear c3b0
              try clear c3b1
              try clear c4
              try clear c4b0
              try clear c4b1
              try clear c6
              try clear c7
              try clear c7b0
              try clear c7b1
              try clear c8
              try clear c8b0
              try clear c10
              try clear c10b0
              try clear c11
              try clear c11b0
              try clear c11b1
              try clear hx126_0
              try clear hx127_0
              try clear hx128_0
              try clear p126
              try clear p127
              try clear p128
              try clear p2
              try clear q126
              try clear q127
              try clear q128
              obtain ⟨kq, x18_8, rfl, HA, HJ8, HB⟩ := hcut
              cases kq with
              | zero => exact absurd HA.out (by simp [ints_PutOID.j1])
              | succ kj8 =>
                have H := HA.out
                clear HA
                simp only [ints_PutOID.j1] at H
                by_cases c12 : x18_8 = true
                · subst c12
                  have H1 : (some (([] : List Int), 22)) = some (r1, r2) := by rw [if_pos rfl] at H; exact H
                  clear H
                  have H := H1
                  clear H1
                  simp only [Option.some.injEq, Prod.mk.injEq] at H
                  obtain ⟨rfl, rfl⟩ := H
                  go_wp2
                  go_ret2
                  exact ⟨_, by first | rfl | (simp [errW_none, errW_some] <;> rfl) | (simp [*, errW_none, errW_some] <;> rfl), by first | exact Kd.R_nil _ _ _ _ _ | exact Kd.N_nil _ _ _ _ _ | exact Kd.V_nil _ _ _ _ _ | exact Kd.Q_nil _ _ _ _ _ | exact Kd.S_nil _ _ _ _ _, by repeat (first | (with_reducible first | exact HB.out | apply below_alloc | apply pw_below_drewN | apply below_drew1) | exact HB.out)⟩
                · replace c12 := Bool.eq_false_iff.mpr c12
                  subst c12
                  have H1 : (if 0 < (l0.length : Int) then (if 1 < (l0.length : Int) then ((ints_PutOID_1.f (wrap64 ((wrap64 (40 * (rd l0 0))) + (rd l0 1)))).bind fun t131 => (if t131 = true then (some (([] : List Int), 22)) else ((ints_arc.f kj8 (wrap64 ((wrap64 (40 * (rd l0 0))) + (rd l0 1)))).bind fun t134 => (if 2 ≤ (l0.length : Int) then (ints_PutOID.l0 kj8 t134 (l0.drop 2) ((l0.drop 2).length : Int) 0) else (none))))) else (none)) else (none)) = some (r1, r2) := by rw [if_neg (show ¬ (false = true) by decide)] at H; exact H
                  clear H
                  have H := H1
                  clear H1
                  by_cases c13 : 0 < (l0.length : Int)
                  · rw [if_pos c13] at H
                    have c13b0 : decide (0 < (l0.length : Int)) = true := decide_eq_true c13
                    have c13b1 : decide (0 < l0.length) = true := decide_eq_true (by omega)
                    clear c13
                    by_cases c14 : 1 < (l0.length : Int)
                    · rw [if_pos c14] at H
                      have c14b0 : decide (1 < (l0.length : Int)) = true := decide_eq_true c14
                      have c14b1 : decide (1 < l0.length) = true := decide_eq_true (by omega)
                      clear c14
                      replace H := Option.bind_eq_some_iff.mp H
                      obtain ⟨t131, A150, H⟩ := H
                      replace H : (if t131 = true then (some (([] : List Int), 22)) else ((ints_arc.f kj8 (wrap64 ((wrap64 (40 * (rd l0 0))) + (rd l0 1)))).bind fun t134 => (if 2 ≤ (l0.length : Int) then (ints_PutOID.l0 kj8 t134 (l0.drop 2) ((l0.drop 2).length : Int) 0) else (none)))) = some (r1, r2) := H
                      have A15 := Aside0.mk A150
                      clear A150
                      by_cases c16 : t131 = true
                      · subst c16
                        have H1 : (some (([] : List Int), 22)) = some (r1, r2) := by rw [if_pos rfl] at H; exact H
                        clear H
                        have H := H1
                        clear H1
                        simp only [Option.some.injEq, Prod.mk.injEq] at H
                        obtain ⟨rfl, rfl⟩ := H
                        try go_wp2
                        have n0_ := Aside0.mk (below_drew1 HB.out)
                        clear HB
                        have HB := n0_
                        clear n0_
                        have p129 : 0 ≤ (0 : Int) := (by omega)
                        have q129 : 0 < (l0.length : Int) := of_decide_eq_true (by first | (with_reducible assumption) | assumption)
                        obtain ⟨ad129, e129, hx129_0⟩ := Kd.at_int HR0.out 0 p129 q129
                        have hw129_0 := hx129_0
                        (try rw [show ((0 : Int)).toNat = 0 from rfl] at hw129_0)
                        (try rw [show 0 * 1 = 0 from rfl] at hw129_0)
                        (try rw [Addr.add_zero'] at hw129_0)
                        obtain rfl : ad126 = ad129 := (by injection e129)
                        have qi129 : (0 < l0.length) = True := eq_true (by omega)
                        (try rw [show ((0 : Int)).toNat = 0 from rfl] at hx129_0)
                        (try rw [Addr.add_zero'] at hx129_0)
                        replace hx129_0 := (HB.out.cell (World.block_lt_of_cell? w _ hx129_0)).trans hx129_0
                        replace p129 := eq_true p129
                        replace q129 := eq_true q129
                        have p130 : 0 ≤ (1 : Int) := (by omega)
                        have q130 : 1 < (l0.length : Int) := of_decide_eq_true (by first | (with_reducible assumption) | assumption)
                        obtain ⟨ad130, e130, hx130_0⟩ := Kd.at_int HR0.out 1 p130 q130
                        have hw130_0 := hx130_0
                        (try rw [show ((1 : Int)).toNat = 1 from rfl] at hw130_0)
                        (try rw [show 1 * 1 = 1 from rfl] at hw130_0)
                        (try simp only [Nat.reduceMul, Nat.reduceEqDiff, Go.Addr.add, ↓reduceIte] at hw130_0)
                        obtain rfl : ad126 = ad130 := (by injection e130)
                        (try simp only [show (1 : Int).toNat = 1 from rfl, Nat.reduceMul, Nat.reduceEqDiff, Go.Addr.add, ↓reduceIte] at hx130_0)
                        have qi130 : (1 < l0.length) = True := eq_true (by omega)
                        (try rw [show ((1 : Int)).toNat = 1 from rfl] at hx130_0)
                        replace hx130_0 := (HB.out.cell (World.block_lt_of_cell? w _ hx130_0)).trans hx130_0
                        replace p130 := eq_true p130
                        replace q130 := eq_true q130
                        refine start_ (n := 11) (S := fun w' => w'.cell? ad126 = some (.int .i64 (rd l0 0)) ∧ w'.cell? ⟨ad126.block, ad126.off + 1, none⟩ = some (.int .i64 (rd l0 1))) (ds := []) #[false, false, false, false, false, false, false, false, false, false, false] (by kernel_rfl) rfl rfl ⟨((HB.out.cell (World.block_lt_of_cell? w _ hw129_0)).trans hw129_0), ((HB.out.cell (World.block_lt_of_cell? w _ hw130_0)).trans hw130_0)⟩ (fun hHeld => ?_); refine with_tabW ints_PutOID.tab8 ints_PutOID.bits8 (fun HT_ HW_ => ?_)
                        generalize wc.drew = w17 at HB hx129_0 hx130_0 hHeld ⊢
                        refine pure_ (i := 0) (N := some 33) (v := ?_) (a' := ?_) #[true, false, false, false, false, false, false, false, false, false, false] rfl rfl (any_of HT_.out (by kernel_rfl)) (fun _ _ _ h => h) (Or.inl ⟨by rfl, ?_⟩) ?_ ?_
                        rotate_left
                        · intro w'
                          go_simp
                          with_reducible rfl
                        rotate_left
                        · simp only [Act.put, List.setIfInBounds_toArray, List.set_cons_zero, List.set_cons_succ, i64_w, i32_w]
                          rfl
                        refine pure_ (i := 1) (N := some 34) (v := ?_) (a' := ?_) #[true, true, false, false, false, false, false, false, false, false, false] rfl rfl (any_of HT_.out (by kernel_rfl)) (fun _ _ _ h => h) (Or.inl ⟨by rfl, ?_⟩) ?_ ?_
                        rotate_left
                        · intro w'
                          go_simp
                          with_reducible rfl
                        rotate_left
                        · simp only [Act.put, List.setIfInBounds_toArray, List.set_cons_zero, List.set_cons_succ, i64_w, i32_w]
                          rfl
                        refine pure_ (i := 2) (N := some 35) (v := ?_) (a' := ?_) #[true, true, true, false, false, false, false, false, false, false, false] rfl rfl (any_of HT_.out (by kernel_rfl)) (fun _ _ _ h => h) (Or.inl ⟨by rfl, ?_⟩) ?_ ?_
                        rotate_left
                        · intro w'
                          go_simp
                          with_reducible rfl
                        rotate_left
                        · simp only [Act.put, List.setIfInBounds_toArray, List.set_cons_zero, List.set_cons_succ, i64_w, i32_w]
                          rfl
                        refine pure_ (i := 5) (N := some 38) (v := ?_) (a' := ?_) #[true, true, true, false, false, true, false, false, false, false, false] rfl rfl (any_of HT_.out (by kernel_rfl)) (fun _ _ _ h => h) (Or.inl ⟨by rfl, ?_⟩) ?_ ?_
                        rotate_left
                        · intro w'
                          go_simp
                          with_reducible rfl
                        rotate_left
                        · simp only [Act.put, List.setIfInBounds_toArray, List.set_cons_zero, List.set_cons_succ, i64_w, i32_w]
                          rfl
                        refine pure_ (i := 6) (N := some 39) (v := ?_) (a' := ?_) #[true, true, true, false, false, true, true, false, false, false, false] rfl rfl (any_of HT_.out (by kernel_rfl)) (fun _ _ _ h => h) (Or.inl ⟨by rfl, ?_⟩) ?_ ?_
                        rotate_left
                        · intro w'
                          go_simp
                          with_reducible rfl
                        rotate_left
                        · simp only [Act.put, List.setIfInBounds_toArray, List.set_cons_zero, List.set_cons_succ, i64_w, i32_w]
                          rfl
                        refine take_ (i := 3) (N := some 36) (v := ?_) (a' := ?_) #[true, true, true, true, false, true, true, false, false, false, false] rfl rfl (take_ofW HT_.out HW_.out (by kernel_rfl)) (fun _ _ _ h => h) (Or.inl ⟨by rfl, ?_⟩) hHeld ?_ ?_
                        rotate_left
                        · rintro w' ⟨s0, s1⟩
                          go_simp
                          with_reducible rfl
                        rotate_left
                        · simp only [Act.put, List.setIfInBounds_toArray, List.set_cons_zero, List.set_cons_succ, i64_w, i32_w]
                          rfl
                        refine pure_ (i := 4) (N := some 37) (v := ?_) (a' := ?_) #[true, true, true, true, true, true, true, false, false, false, false] rfl rfl (any_of HT_.out (by kernel_rfl)) (fun _ _ _ h => h) (Or.inl ⟨by rfl, ?_⟩) ?_ ?_
                        rotate_left
                        · intro w'
                          go_simp
                          with_reducible rfl
                        rotate_left
                        · simp only [Act.put, List.setIfInBounds_toArray, List.set_cons_zero, List.set_cons_succ, i64_w, i32_w]
                          rfl
                        refine take_ (i := 7) (N := some 40) (v := ?_) (a' := ?_) #[true, true, true, true, true, true, true, true, false, false, false] rfl rfl (take_ofW HT_.out HW_.out (by kernel_rfl)) (fun _ _ _ h => h) (Or.inl ⟨by rfl, ?_⟩) hHeld ?_ ?_
                        rotate_left
                        · rintro w' ⟨s0, s1⟩
                          go_simp
                          with_reducible rfl
                        rotate_left
                        · simp only [Act.put, List.setIfInBounds_toArray, List.set_cons_zero, List.set_cons_succ, i64_w, i32_w]
                          rfl
                        refine pure_ (i := 8) (N := some 41) (v := ?_) (a' := ?_) #[true, true, true, true, true, true, true, true, true, false, false] rfl rfl (any_of HT_.out (by kernel_rfl)) (fun _ _ _ h => h) (Or.inl ⟨by rfl, ?_⟩) ?_ ?_
                        rotate_left
                        · intro w'
                          go_simp
                          with_reducible rfl
                        rotate_left
                        · simp only [Act.put, List.setIfInBounds_toArray, List.set_cons_zero, List.set_cons_succ, i64_w, i32_w]
                          rfl
                        refine one_ (i := 9) (N := some 42) #[true, true, true, true, true, true, true, true, true, true, false] rfl rfl (one_of HT_.out (by kernel_rfl)) (by decide) (fun K hK => ?_)
                        refine goesRV_ Tryd.func35 (by kernel_rfl) rfl #[.int .i64 (wrap64 ((wrap64 (40 * (rd l0 0))) + (rd l0 1)))] (by rfl) rfl rfl (by (try simp only [List.map_toArray, List.map_cons, List.map_nil]); first | done | rfl | (simp only [List.length_drop, List.length_take]; rfl)) ?_
                        with_reducible refine (ints_PutOID_1.calls (wrap64 ((wrap64 (40 * (rd l0 0))) + (rd l0 1))) true _ A15.out).mono ?_
                        rintro e w' ⟨rfl, ⟨nd, rfl⟩⟩
                        refine ⟨_, rfl, ?_⟩
                        refine hK.out _ _ ⟨((HB.out.cell (World.block_lt_of_cell? w _ hw129_0)).trans hw129_0), ((HB.out.cell (World.block_lt_of_cell? w _ hw130_0)).trans hw130_0)⟩ (fun hHeld => ?_)
                        clear hK K
                        refine norm_ (a' := ?_) ?_ ?_
                        rotate_left
                        · show Act.put _ (some 42) _ = _
                          simp only [Act.put, List.setIfInBounds_toArray, List.set_cons_zero, List.set_cons_succ, i64_w, i32_w]
                          rfl
                        refine pure_ (i := 10) (N := some 18) (v := ?_) (a' := ?_) #[true, true, true, true, true, true, true, true, true, true, true] rfl rfl (any_of HT_.out (by kernel_rfl)) (fun _ _ _ h => h) (Or.inl ⟨by rfl, ?_⟩) ?_ ?_
                        rotate_left
                        · intro w'
                          go_simp
                          with_reducible rfl
                        rotate_left
                        · simp only [Act.put, List.setIfInBounds_toArray, List.set_cons_zero, List.set_cons_succ, i64_w, i32_w]
                          rfl
                        refine done_ (done_of HT_.out (by kernel_rfl)) ?_
                        try go_wp2
                        go_ret2
                        exact ⟨_, by first | rfl | (simp [errW_none, errW_some] <;> rfl) | (simp [*, errW_none, errW_some] <;> rfl), by first | exact Kd.R_nil _ _ _ _ _ | exact Kd.N_nil _ _ _ _ _ | exact Kd.V_nil _ _ _ _ _ | exact Kd.Q_nil _ _ _ _ _ | exact Kd.S_nil _ _ _ _ _, by repeat (first | (with_reducible first | exact HB.out | apply below_alloc | apply pw_below_drewN | apply below_drew1) | exact HB.out)⟩
                      · replace c16 := Bool.eq_false_iff.mpr c16
                        subst c16
                        have H1 : ((ints_arc.f kj8 (wrap64 ((wrap64 (40 * (rd l0 0))) + (rd l0 1)))).bind fun t134 => (if 2 ≤ (l0.length : Int) then (ints_PutOID.l0 kj8 t134 (l0.drop 2) ((l0.drop 2).length : Int) 0) else (none))) = some (r1, r2) := by rw [if_neg (show ¬ (false = true) by decide)] at H; exact H
                        clear H
                        have H := H1
                        clear H1
                        replace H := Option.bind_eq_some_iff.mp H
                        obtain ⟨t134, A180, H⟩ := H
                        replace H : (if 2 ≤ (l0.length : Int) then (ints_PutOID.l0 kj8 t134 (l0.drop 2) ((l0.drop 2).length : Int) 0) else (none)) = some (r1, r2) := H
                        have A18 := Aside0.mk A180
                        clear A180
                        by_cases c19 : 2 ≤ (l0.length : Int)
                        · rw [if_pos c19] at H
                          have c19b0 := eq_true c19
                          have c19b1 : decide (2 ≤ (l0.length : Int)) = true := decide_eq_true c19
                          clear c19
                          have H' := Aside0.mk H
                          clear H
                          try go_wp2
                          have n0_ := Aside0.mk (below_drew1 HB.out)
                          clear HB
                          have HB := n0_
                          clear n0_
                          have p129 : 0 ≤ (0 : Int) := (by omega)
                          have q129 : 0 < (l0.length : Int) := of_decide_eq_true (by first | (with_reducible assumption) | assumption)
                          obtain ⟨ad129, e129, hx129_0⟩ := Kd.at_int HR0.out 0 p129 q129
                          have hw129_0 := hx129_0
                          (try rw [show ((0 : Int)).toNat = 0 from rfl] at hw129_0)
                          (try rw [show 0 * 1 = 0 from rfl] at hw129_0)
                          (try rw [Addr.add_zero'] at hw129_0)
                          obtain rfl : ad126 = ad129 := (by injection e129)
                          have qi129 : (0 < l0.length) = True := eq_true (by omega)
                          (try rw [show ((0 : Int)).toNat = 0 from rfl] at hx129_0)
                          (try rw [Addr.add_zero'] at hx129_0)
                          replace hx129_0 := (HB.out.cell (World.block_lt_of_cell? w _ hx129_0)).trans hx129_0
                          replace p129 := eq_true p129
                          replace q129 := eq_true q129
                          have p130 : 0 ≤ (1 : Int) := (by omega)
                          have q130 : 1 < (l0.length : Int) := of_decide_eq_true (by first | (with_reducible assumption) | assumption)
                          obtain ⟨ad130, e130, hx130_0⟩ := Kd.at_int HR0.out 1 p130 q130
                          have hw130_0 := hx130_0
                          (try rw [show ((1 : Int)).toNat = 1 from rfl] at hw130_0)
                          (try rw [show 1 * 1 = 1 from rfl] at hw130_0)
                          (try simp only [Nat.reduceMul, Nat.reduceEqDiff, Go.Addr.add, ↓reduceIte] at hw130_0)
                          obtain rfl : ad126 = ad130 := (by injection e130)
                          (try simp only [show (1 : Int).toNat = 1 from rfl, Nat.reduceMul, Nat.reduceEqDiff, Go.Addr.add, ↓reduceIte] at hx130_0)
                          have qi130 : (1 < l0.length) = True := eq_true (by omega)
                          (try rw [show ((1 : Int)).toNat = 1 from rfl] at hx130_0)
                          replace hx130_0 := (HB.out.cell (World.block_lt_of_cell? w _ hx130_0)).trans hx130_0
                          replace p130 := eq_true p130
                          replace q130 := eq_true q130
                          refine start_ (n := 11) (S := fun w' => w'.cell? ad126 = some (.int .i64 (rd l0 0)) ∧ w'.cell? ⟨ad126.block, ad126.off + 1, none⟩ = some (.int .i64 (rd l0 1))) (ds := []) #[false, false, false, false, false, false, false, false, false, false, false] (by kernel_rfl) rfl rfl ⟨((HB.out.cell (World.block_lt_of_cell? w _ hw129_0)).trans hw129_0), ((HB.out.cell (World.block_lt_of_cell? w _ hw130_0)).trans hw130_0)⟩ (fun hHeld => ?_); refine with_tabW ints_PutOID.tab8 ints_PutOID.bits8 (fun HT_ HW_ => ?_)
                          generalize wc.drew = w20 at HB hx129_0 hx130_0 hHeld ⊢
                          refine pure_ (i := 0) (N := some 33) (v := ?_) (a' := ?_) #[true, false, false, false, false, false, false, false, false, false, false] rfl rfl (any_of HT_.out (by kernel_rfl)) (fun _ _ _ h => h) (Or.inl ⟨by rfl, ?_⟩) ?_ ?_
                          rotate_left
                          · intro w'
                            go_simp
                            with_reducible rfl
                          rotate_left
                          · simp only [Act.put, List.setIfInBounds_toArray, List.set_cons_zero, List.set_cons_succ, i64_w, i32_w]
                            rfl
                          refine pure_ (i := 1) (N := some 34) (v := ?_) (a' := ?_) #[true, true, false, false, false, false, false, false, false, false, false] rfl rfl (any_of HT_.out (by kernel_rfl)) (fun _ _ _ h => h) (Or.inl ⟨by rfl, ?_⟩) ?_ ?_
                          rotate_left
                          · intro w'
                            go_simp
                            with_reducible rfl
                          rotate_left
                          · simp only [Act.put, List.setIfInBounds_toArray, List.set_cons_zero, List.set_cons_succ, i64_w, i32_w]
                            rfl
                          refine pure_ (i := 2) (N := some 35) (v := ?_) (a' := ?_) #[true, true, true, false, false, false, false, false, false, false, false] rfl rfl (any_of HT_.out (by kernel_rfl)) (fun _ _ _ h => h) (Or.inl ⟨by rfl, ?_⟩) ?_ ?_
                          rotate_left
                          · intro w'
                            go_simp
                            with_reducible rfl
                          rotate_left
                          · simp only [Act.put, List.setIfInBounds_toArray, List.set_cons_zero, List.set_cons_succ, i64_w, i32_w]
                            rfl
                          refine pure_ (i := 5) (N := some 38) (v := ?_) (a' := ?_) #[true, true, true, false, false, true, false, false, false, false, false] rfl rfl (any_of HT_.out (by kernel_rfl)) (fun _ _ _ h => h) (Or.inl ⟨by rfl, ?_⟩) ?_ ?_
                          rotate_left
                          · intro w'
                            go_simp
                            with_reducible rfl
                          rotate_left
                          · simp only [Act.put, List.setIfInBounds_toArray, List.set_cons_zero, List.set_cons_succ, i64_w, i32_w]
                            rfl
                          refine pure_ (i := 6) (N := some 39) (v := ?_) (a' := ?_) #[true, true, true, false, false, true, true, false, false, false, false] rfl rfl (any_of HT_.out (by kernel_rfl)) (fun _ _ _ h => h) (Or.inl ⟨by rfl, ?_⟩) ?_ ?_
                          rotate_left
                          · intro w'
                            go_simp
                            with_reducible rfl
                          rotate_left
                          · simp only [Act.put, List.setIfInBounds_toArray, List.set_cons_zero, List.set_cons_succ, i64_w, i32_w]
                            rfl
                          refine take_ (i := 3) (N := some 36) (v := ?_) (a' := ?_) #[true, true, true, true, false, true, true, false, false, false, false] rfl rfl (take_ofW HT_.out HW_.out (by kernel_rfl)) (fun _ _ _ h => h) (Or.inl ⟨by rfl, ?_⟩) hHeld ?_ ?_
                          rotate_left
                          · rintro w' ⟨s0, s1⟩
                            go_simp
                            with_reducible rfl
                          rotate_left
                          · simp only [Act.put, List.setIfInBounds_toArray, List.set_cons_zero, List.set_cons_succ, i64_w, i32_w]
                            rfl
                          refine pure_ (i := 4) (N := some 37) (v := ?_) (a' := ?_) #[true, true, true, true, true, true, true, false, false, false, false] rfl rfl (any_of HT_.out (by kernel_rfl)) (fun _ _ _ h => h) (Or.inl ⟨by rfl, ?_⟩) ?_ ?_
                          rotate_left
                          · intro w'
                            go_simp
                            with_reducible rfl
                          rotate_left
                          · simp only [Act.put, List.setIfInBounds_toArray, List.set_cons_zero, List.set_cons_succ, i64_w, i32_w]
                            rfl
                          refine take_ (i := 7) (N := some 40) (v := ?_) (a' := ?_) #[true, true, true, true, true, true, true, true, false, false, false] rfl rfl (take_ofW HT_.out HW_.out (by kernel_rfl)) (fun _ _ _ h => h) (Or.inl ⟨by rfl, ?_⟩) hHeld ?_ ?_
                          rotate_left
                          · rintro w' ⟨s0, s1⟩
                            go_simp
                            with_reducible rfl
                          rotate_left
                          · simp only [Act.put, List.setIfInBounds_toArray, List.set_cons_zero, List.set_cons_succ, i64_w, i32_w]
                            rfl
                          refine pure_ (i := 8) (N := some 41) (v := ?_) (a' := ?_) #[true, true, true, true, true, true, true, true, true, false, false] rfl rfl (any_of HT_.out (by kernel_rfl)) (fun _ _ _ h => h) (Or.inl ⟨by rfl, ?_⟩) ?_ ?_
                          rotate_left
                          · intro w'
                            go_simp
                            with_reducible rfl
                          rotate_left
                          · simp only [Act.put, List.setIfInBounds_toArray, List.set_cons_zero, List.set_cons_succ, i64_w, i32_w]
                            rfl
                          refine one_ (i := 9) (N := some 42) #[true, true, true, true, true, true, true, true, true, true, false] rfl rfl (one_of HT_.out (by kernel_rfl)) (by decide) (fun K hK => ?_)
                          refine goesRV_ Tryd.func35 (by kernel_rfl) rfl #[.int .i64 (wrap64 ((wrap64 (40 * (rd l0 0))) + (rd l0 1)))] (by rfl) rfl rfl (by (try simp only [List.map_toArray, List.map_cons, List.map_nil]); first | done | rfl | (simp only [List.length_drop, List.length_take]; rfl)) ?_
                          with_reducible refine (ints_PutOID_1.calls (wrap64 ((wrap64 (40 * (rd l0 0))) + (rd l0 1))) false _ A15.out).mono ?_
                          rintro e w' ⟨rfl, ⟨nd, rfl⟩⟩
                          refine ⟨_, rfl, ?_⟩
                          refine hK.out _ _ ⟨((HB.out.cell (World.block_lt_of_cell? w _ hw129_0)).trans hw129_0), ((HB.out.cell (World.block_lt_of_cell? w _ hw130_0)).trans hw130_0)⟩ (fun hHeld => ?_)
                          clear hK K
                          refine norm_ (a' := ?_) ?_ ?_
                          rotate_left
                          · show Act.put _ (some 42) _ = _
                            simp only [Act.put, List.setIfInBounds_toArray, List.set_cons_zero, List.set_cons_succ, i64_w, i32_w]
                            rfl
                          refine pure_ (i := 10) (N := some 18) (v := ?_) (a' := ?_) #[true, true, true, true, true, true, true, true, true, true, true] rfl rfl (any_of HT_.out (by kernel_rfl)) (fun _ _ _ h => h) (Or.inl ⟨by rfl, ?_⟩) ?_ ?_
                          rotate_left
                          · intro w'
                            go_simp
                            with_reducible rfl
                          rotate_left
                          · simp only [Act.put, List.setIfInBounds_toArray, List.set_cons_zero, List.set_cons_succ, i64_w, i32_w]
                            rfl
                          refine done_ (done_of HT_.out (by kernel_rfl)) ?_
                          try go_wp2
                          (try (rw [drewN_self w20]; generalize hq_ : World.drewN w20 _ = w20; have n0_ : Aside0 (Below w.heap.size w w20) := ⟨by rw [← hq_]; exact (by repeat (first | (with_reducible first | exact HB.out | apply below_alloc | apply pw_below_drewN | apply below_drew1) | exact HB.out))⟩; clear HB hq_; have HB := n0_; clear n0_))
                          have n0_ := Aside0.mk (below_drew1 HB.out)
                          clear HB
                          have HB := n0_
                          clear n0_
                          have p132 : 0 ≤ (0 : Int) := (by omega)
                          have q132 : 0 < (l0.length : Int) := of_decide_eq_true (by first | (with_reducible assumption) | assumption)
                          obtain ⟨ad132, e132, hx132_0⟩ := Kd.at_int HR0.out 0 p132 q132
                          have hw132_0 := hx132_0
                          (try rw [show ((0 : Int)).toNat = 0 from rfl] at hw132_0)
                          (try rw [show 0 * 1 = 0 from rfl] at hw132_0)
                          (try rw [Addr.add_zero'] at hw132_0)
                          obtain rfl : ad126 = ad132 := (by injection e132)
                          have qi132 : (0 < l0.length) = True := eq_true (by omega)
                          (try rw [show ((0 : Int)).toNat = 0 from rfl] at hx132_0)
                          (try rw [Addr.add_zero'] at hx132_0)
                          replace hx132_0 := (HB.out.cell (World.block_lt_of_cell? w _ hx132_0)).trans hx132_0
                          replace p132 := eq_true p132
                          replace q132 := eq_true q132
                          have p133 : 0 ≤ (1 : Int) := (by omega)
                          have q133 : 1 < (l0.length : Int) := of_decide_eq_true (by first | (with_reducible assumption) | assumption)
                          obtain ⟨ad133, e133, hx133_0⟩ := Kd.at_int HR0.out 1 p133 q133
                          have hw133_0 := hx133_0
                          (try rw [show ((1 : Int)).toNat = 1 from rfl] at hw133_0)
                          (try rw [show 1 * 1 = 1 from rfl] at hw133_0)
                          (try simp only [Nat.reduceMul, Nat.reduceEqDiff, Go.Addr.add, ↓reduceIte] at hw133_0)
                          obtain rfl : ad126 = ad133 := (by injection e133)
                          (try simp only [show (1 : Int).toNat = 1 from rfl, Nat.reduceMul, Nat.reduceEqDiff, Go.Addr.add, ↓reduceIte] at hx133_0)
                          have qi133 : (1 < l0.length) = True := eq_true (by omega)
                          (try rw [show ((1 : Int)).toNat = 1 from rfl] at hx133_0)
                          replace hx133_0 := (HB.out.cell (World.block_lt_of_cell? w _ hx133_0)).trans hx133_0
                          replace p133 := eq_true p133
                          replace q133 := eq_true q133
                          refine start_ (n := 10) (S := fun w' => w'.cell? ad126 = some (.int .i64 (rd l0 0)) ∧ w'.cell? ⟨ad126.block, ad126.off + 1, none⟩ = some (.int .i64 (rd l0 1))) (ds := []) #[false, false, false, false, false, false, false, false, false, false] (by kernel_rfl) rfl rfl ⟨((HB.out.cell (World.block_lt_of_cell? w _ hw132_0)).trans hw132_0), ((HB.out.cell (World.block_lt_of_cell? w _ hw133_0)).trans hw133_0)⟩ (fun hHeld => ?_); refine with_tabW ints_PutOID.tab10 ints_PutOID.bits10 (fun HT_ HW_ => ?_)
                          generalize w20.drew = w21 at HB hx132_0 hx133_0 hHeld ⊢
                          refine pure_ (i := 0) (N := some 43) (v := ?_) (a' := ?_) #[true, false, false, false, false, false, false, false, false, false] rfl rfl (any_of HT_.out (by kernel_rfl)) (fun _ _ _ h => h) (Or.inl ⟨by rfl, ?_⟩) ?_ ?_
                          rotate_left
                          · intro w'
                            go_simp
                            with_reducible rfl
                          rotate_left
                          · simp only [Act.put, List.setIfInBounds_toArray, List.set_cons_zero, List.set_cons_succ, i64_w, i32_w]
                            rfl
                          refine pure_ (i := 1) (N := some 44) (v := ?_) (a' := ?_) #[true, true, false, false, false, false, false, false, false, false] rfl rfl (any_of HT_.out (by kernel_rfl)) (fun _ _ _ h => h) (Or.inl ⟨by rfl, ?_⟩) ?_ ?_
                          rotate_left
                          · intro w'
                            go_simp
                            with_reducible rfl
                          rotate_left
                          · simp only [Act.put, List.setIfInBounds_toArray, List.set_cons_zero, List.set_cons_succ, i64_w, i32_w]
                            rfl
                          refine pure_ (i := 4) (N := some 47) (v := ?_) (a' := ?_) #[true, true, false, false, true, false, false, false, false, false] rfl rfl (any_of HT_.out (by kernel_rfl)) (fun _ _ _ h => h) (Or.inl ⟨by rfl, ?_⟩) ?_ ?_
                          rotate_left
                          · intro w'
                            go_simp
                            with_reducible rfl
                          rotate_left
                          · simp only [Act.put, List.setIfInBounds_toArray, List.set_cons_zero, List.set_cons_succ, i64_w, i32_w]
                            rfl
                          refine pure_ (i := 5) (N := some 48) (v := ?_) (a' := ?_) #[true, true, false, false, true, true, false, false, false, false] rfl rfl (any_of HT_.out (by kernel_rfl)) (fun _ _ _ h => h) (Or.inl ⟨by rfl, ?_⟩) ?_ ?_
                          rotate_left
                          · intro w'
                            go_simp
                            with_reducible rfl
                          rotate_left
                          · simp only [Act.put, List.setIfInBounds_toArray, List.set_cons_zero, List.set_cons_succ, i64_w, i32_w]
                            rfl
                          refine take_ (i := 2) (N := some 45) (v := ?_) (a' := ?_) #[true, true, true, false, true, true, false, false, false, false] rfl rfl (take_ofW HT_.out HW_.out (by kernel_rfl)) (fun _ _ _ h => h) (Or.inl ⟨by rfl, ?_⟩) hHeld ?_ ?_
                          rotate_left
                          · rintro w' ⟨s0, s1⟩
                            go_simp
                            with_reducible rfl
                          rotate_left
                          · simp only [Act.put, List.setIfInBounds_toArray, List.set_cons_zero, List.set_cons_succ, i64_w, i32_w]
                            rfl
                          refine pure_ (i := 3) (N := some 46) (v := ?_) (a' := ?_) #[true, true, true, true, true, true, false, false, false, false] rfl rfl (any_of HT_.out (by kernel_rfl)) (fun _ _ _ h => h) (Or.inl ⟨by rfl, ?_⟩) ?_ ?_
                          rotate_left
                          · intro w'
                            go_simp
                            with_reducible rfl
                          rotate_left
                          · simp only [Act.put, List.setIfInBounds_toArray, List.set_cons_zero, List.set_cons_succ, i64_w, i32_w]
                            rfl
                          refine take_ (i := 6) (N := some 49) (v := ?_) (a' := ?_) #[true, true, true, true, true, true, true, false, false, false] rfl rfl (take_ofW HT_.out HW_.out (by kernel_rfl)) (fun _ _ _ h => h) (Or.inl ⟨by rfl, ?_⟩) hHeld ?_ ?_
                          rotate_left
                          · rintro w' ⟨s0, s1⟩
                            go_simp
                            with_reducible rfl
                          rotate_left
                          · simp only [Act.put, List.setIfInBounds_toArray, List.set_cons_zero, List.set_cons_succ, i64_w, i32_w]
                            rfl
                          refine pure_ (i := 7) (N := some 50) (v := ?_) (a' := ?_) #[true, true, true, true, true, true, true, true, false, false] rfl rfl (any_of HT_.out (by kernel_rfl)) (fun _ _ _ h => h) (Or.inl ⟨by rfl, ?_⟩) ?_ ?_
                          rotate_left
                          · intro w'
                            go_simp
                            with_reducible rfl
                          rotate_left
                          · simp only [Act.put, List.setIfInBounds_toArray, List.set_cons_zero, List.set_cons_succ, i64_w, i32_w]
                            rfl
                          refine one_ (i := 8) (N := some 51) #[true, true, true, true, true, true, true, true, true, false] rfl rfl (one_of HT_.out (by kernel_rfl)) (by decide) (fun K hK => ?_)
                          refine goes_ Tryd.func37 (by kernel_rfl) rfl #[.int .i64 (wrap64 ((wrap64 (40 * (rd l0 0))) + (rd l0 1)))] (by rfl) rfl rfl (by (try simp only [List.map_toArray, List.map_cons, List.map_nil]); first | done | rfl | (simp only [List.length_drop, List.length_take]; rfl)) ?_
                          with_reducible refine (ints_arc.calls kj8 (wrap64 ((wrap64 (40 * (rd l0 0))) + (rd l0 1))) t134 _ A18.out).mono ?_
                          rintro e w22 ⟨v135, rfl, ho0, hb⟩
                          refine ⟨_, rfl, ?_⟩
                          have n0_ := Aside0.mk (Kd.R_lower ho0 (below_size (by repeat (first | (with_reducible first | exact HB.out | apply below_alloc | apply pw_below_drewN | apply below_drew1) | exact HB.out))))
                          have n1_ := Aside0.mk (below_step (by repeat (first | (with_reducible first | exact HB.out | apply below_alloc | apply pw_below_drewN | apply below_drew1) | exact HB.out)) hb)
                          clear HB
                          have HO136 := n0_
                          have HB := n1_
                          clear n0_ n1_
                          (try clear hb)
                          (try clear hb2)
                          (try clear hk)
                          (try clear hi)
                          (try clear ho0)
                          refine hK.out _ _ ⟨((HB.out.cell (World.block_lt_of_cell? w _ hw132_0)).trans hw132_0), ((HB.out.cell (World.block_lt_of_cell? w _ hw133_0)).trans hw133_0)⟩ (fun hHeld => ?_)
                          clear hK K
                          refine norm_ (a' := ?_) ?_ ?_
                          rotate_left
                          · show Act.put _ (some 51) _ = _
                            simp only [Act.put, List.setIfInBounds_toArray, List.set_cons_zero, List.set_cons_succ, i64_w, i32_w]
                            rfl
                          refine pure_ (i := 9) (N := some 5) (v := ?_) (a' := ?_) #[true, true, true, true, true, true, true, true, true, true] rfl rfl (any_of HT_.out (by kernel_rfl)) (fun _ _ _ h => h) (Or.inl ⟨by rfl, ?_⟩) ?_ ?_
                          rotate_left
                          · intro w'
                            go_simp
                            with_reducible rfl
                          rotate_left
                          · simp only [Act.put, List.setIfInBounds_toArray, List.set_cons_zero, List.set_cons_succ, i64_w, i32_w]
                            rfl
                          refine done_ (done_of HT_.out (by kernel_rfl)) ?_
                          obtain ⟨i023, hi023, _, hsz23, _⟩ := info_parts info3
                          obtain ⟨A23, hcut23, hA23, hC23⟩ := print_drop_of (P := Tryd.prog) (Value.int .i64) 0 31 3 .i64 Tryd.underlying31 hi023 hsz23 (some ad126) c0 l0 2 (by omega) (of_decide_eq_true (by first | (with_reducible assumption) | assumption)) HC0.out
                          have HR137 := Aside0.mk (Kd.C_of_reads (h1 := fun _ => rfl) (hA23 _ (Kd.reads_of_C HR0.out)))
                          have HC137 := Aside0.mk hC23
                          clear hA23 hC23 hi023 hsz23
                          try go_wp2
                          go_loopg [5, 55] kj8 (fun kq v5 v55 w' => ∃ (x5_3 : List Int) (x55_3 : Int), v55 = .int .i64 x55_3 ∧ Aside0 (ints_PutOID.l0 kq x5_3 (l0.drop 2) ((l0.drop 2).length : Int) x55_3 = some (r1, r2)) ∧ Aside0 (kq ≤ kj8) ∧ Aside0 (Kd.R (Kd.int .u8) 5 w' w.heap.size (fun _ => True) v5 x5_3) ∧ Aside0 (Below w.heap.size w w'))
                          case atStart => exact ⟨(t134), (0), (by first | rfl | (simp; done) | (simp [*]; done)), H', ⟨Nat.le_refl _⟩, ⟨by (with_reducible repeat (first | apply Kd.R_alloc | apply Kd.R_drewN | apply Kd.R_drew)); exact HO136.out⟩, ⟨by repeat (first | (with_reducible first | exact HB.out | apply below_alloc | apply pw_below_drewN | apply below_drew1) | exact HB.out)⟩⟩
                          case round =>
                            clear H'
                            try clear c1
                            try clear p1
                            try clear q1
                            try clear hx1
                            try clear qi1
                            try clear p2
                            try clear c3
                            try clear c3b0
                            try clear c3b1
                            try clear c4
                            try clear c4b0
                            try clear c4b1
                            try clear c6
                            try clear p6
                            try clear c7
                            try clear c7b0
                            try clear c7b1
                            try clear c8
                            try clear c8b0
                            try clear c10
                            try clear c10b0
                            try clear c11
                            try clear c11b0
                            try clear c11b1
                            try clear c12
                            try clear p12
                            try clear q12
                            try clear hx12
                            try clear qi12
                            try clear c13
                            try clear c13b0
                            try clear c13b1
                            try clear p13
                            try clear q13
                            try clear hx13
                            try clear qi13
                            try clear c14
                            try clear c14b0
                            try clear c14b1
                            try clear c16
                            try clear c19
                            try clear c19b0
                            try clear c19b1
                            try clear hx126_0
                            try clear hx127_0
                            try clear hx128_0
                            try clear hx129_0
                            try clear hx130_0
                            try clear hx132_0
                            try clear hx133_0
                            try clear p1
                            try clear p126
                            try clear p127
                            try clear p128
                            try clear p129
                            try clear p130
                            try clear p132
                            try clear p133
                            try clear p2
                            try clear q1
                            try clear q126
                            try clear q127
                            try clear q128
                            try clear q129
                            try clear q130
                            try clear q132
                            try clear q133
                            obtain ⟨x5_3, x55_3, rfl, HA, HK3, HO_5, HB⟩ := hrel
                            cases gk with
                            | zero => exact absurd HA.out (by simp [ints_PutOID.l0])
                            | succ k3 =>
                              have H := HA.out
                              clear HA
                              simp only [ints_PutOID.l0] at H
                              by_cases c24 : x55_3 < ((l0.drop 2).length : Int)
                              · rw [if_pos c24] at H
                                have c24b0 : decide (x55_3 < ((l0.drop 2).length : Int)) = true := decide_eq_true c24
                                have c24b0d := c24b0
                                (try simp only [List.length_drop] at c24b0d)
                                clear c24
                                by_cases c25 : 0 ≤ x55_3
                                · rw [if_pos c25] at H
                                  have c25b0 : decide (0 ≤ x55_3) = true := decide_eq_true c25
                                  clear c25
                                  by_cases c26 : x55_3 < ((l0.drop 2).length : Int)
                                  · rw [if_pos c26] at H
                                    have c26b0 : decide (x55_3 < ((l0.drop 2).length : Int)) = true := decide_eq_true c26
                                    have c26b0d := c26b0
                                    (try simp only [List.length_drop] at c26b0d)
                                    clear c26
                                    replace H := Option.bind_eq_some_iff.mp H
                                    obtain ⟨t139, A270, H⟩ := H
                                    replace H : (if x5_3.length + t139.length < 140737488355328 then (ints_PutOID.l0 k3 (x5_3 ++ t139) (l0.drop 2) ((l0.drop 2).length : Int) (wrap64 (x55_3 + 1))) else (none)) = some (r1, r2) := H
                                    have A27 := Aside0.mk A270
                                    clear A270
                                    by_cases c28 : x5_3.length + t139.length < 140737488355328
                                    · rw [if_pos c28] at H
                                      have LMc28 := Aside0.mk c28
                                      clear c28
                                      obtain ⟨y142, hy142⟩ : ∃ y_ : List Int, y_ = (x5_3 ++ t139) := ⟨_, rfl⟩
                                      replace H : (ints_PutOID.l0 k3 y142 (l0.drop 2) ((l0.drop 2).length : Int) (wrap64 (x55_3 + 1))) = some (r1, r2) := by first | (rw [hy142]; with_reducible exact H) | (have H2_ := (Option.bind_some _ _).symm.trans H; rw [hy142]; with_reducible exact H2_) | (have H2_ := (Option.bind_some _ _).symm.trans H; with_reducible exact H2_) | with_reducible exact H | (rw [hy142]; exact H) | exact H
                                      have Ny142 := Aside0.mk hy142
                                      clear hy142
                                      have H' := Aside0.mk H
                                      clear H
                                      have p138 : 0 ≤ (x55_3 : Int) := of_decide_eq_true (by first | (with_reducible assumption) | assumption)
                                      have q138 : x55_3 < ((l0.drop 2).length : Int) := of_decide_eq_true (by first | (with_reducible assumption) | assumption)
                                      obtain ⟨ad138, e138, hx138_0⟩ := Kd.at_int HR137.out x55_3 p138 q138
                                      cases e138
                                      replace hx138_0 := (HB.out.cell (World.block_lt_of_cell? w _ hx138_0)).trans hx138_0
                                      replace p138 := eq_true p138
                                      replace q138 := eq_true q138
                                      have q138d := q138
                                      (try simp only [List.length_drop] at q138d)
                                      go_wp2_with (first | ((with_reducible refine gate_callee (f := 37) rfl ?_); refine goesL_ (some 61) rfl rfl Tryd.func37 (by kernel_rfl) rfl #[.int .i64 (rd (l0.drop 2) x55_3)] rfl (by (try simp only [List.map_toArray, List.map_cons, List.map_nil]); first | done | rfl | (simp only [List.length_drop, List.length_take]; rfl)) ?_; (with_reducible refine (ints_arc.calls k3 (rd (l0.drop 2) x55_3) t139 _ A27.out).mono ?_); rintro e w29 ⟨v140, rfl, ho0, hb⟩; refine ⟨_, rfl, ?_⟩; have n0_ := Aside0.mk (Kd.R_elder' (by (with_reducible repeat (first | apply Kd.R_alloc | apply Kd.R_drewN | apply Kd.R_drew)); exact HO_5.out) (Kd.R_base ho0) hb); have n1_ := Aside0.mk (Kd.R_lower (Kd.R_new' ho0 (Kd.R_lt (by (with_reducible repeat (first | apply Kd.R_alloc | apply Kd.R_drewN | apply Kd.R_drew)); exact HO_5.out))) (below_size (by repeat (first | (with_reducible first | exact HB.out | apply below_alloc | apply pw_below_drewN | apply below_drew1) | exact HB.out)))); have n2_ := Aside0.mk (below_step (by repeat (first | (with_reducible first | exact HB.out | apply below_alloc | apply pw_below_drewN | apply below_drew1) | exact HB.out)) hb); clear HO_5; clear HB; have HO_5 := n0_; have HO141 := n1_; have HB := n2_; clear n0_ n1_ n2_; (try clear hb); (try clear hb2); (try clear hk); (try clear hi); (try clear ho0); obtain ⟨Ao31, co31, eo31⟩ := Kd.R_slice HO141.out; subst eo31) | ((with_reducible refine gate_builtin (b := .append) (xs := #[.tmp 59, .tmp 61]) rfl ?_); at_builtin; refine Kd.R_append_rows (Kd.int .u8) (w0 := w) w.heap.size rfl (.tmp 59) (.tmp 61) 24 5 (.int .u8 0) 1 rfl Tryd.underlying24 info5 rfl (by decide) (by omega) u5 x5_3 t139 _ _ _ (fun k_ => some k_ ≠ (.slice Ao31 t139.length co31 : Value).ownBlock) (fun _ => False) rfl rfl ?aO ?aR (fun _ _ h => h) (fun _ h => h.elim) ?aF ?aB ?aS ?aL ?_; (case aR => repeat (first | exact (Kd.R_reads' HO141.out).2.2 | (with_reducible refine Kd.C_alloc ?_ _) | (with_reducible refine Kd.C_drewN ?_ _) | (with_reducible refine Kd.C_drew ?_))); (case aB => exact (by repeat (first | (with_reducible first | exact HB.out | apply below_alloc | apply pw_below_drewN | apply below_drew1) | exact HB.out))); (case aF => exact (fun k_ hk => Kd.fresh' (Kd.R_lt (by (with_reducible repeat (first | apply Kd.R_alloc | apply Kd.R_drewN | apply Kd.R_drew)); exact HO141.out)) k_ hk)); (case aO => exact (by (with_reducible repeat (first | apply Kd.R_alloc | apply Kd.R_drewN | apply Kd.R_drew)); exact Kd.R_mono HO_5.out (fun _ hk => hk.2))); (case aS => exact (below_size (by repeat (first | (with_reducible first | exact HB.out | apply below_alloc | apply pw_below_drewN | apply below_drew1) | exact HB.out)))); (case aL => have := LMc28.out; omega); intro v143 w30 ho hb hg hat; rw [← Ny142.out] at ho; have n0_ := Aside0.mk (Kd.R_after (ok := (fun _ => True)) (by (with_reducible repeat (first | apply Kd.R_alloc | apply Kd.R_drewN | apply Kd.R_drew)); exact HO141.out) hg hat); have n1_ := Aside0.mk (hb); have n2_ := Aside0.mk (ho); clear HO141; clear HB; clear HO_5; have HO141 := n0_; have HB := n1_; have HO144 := n2_; clear n0_ n1_ n2_; clear ho hb hg hat))
                                      go_roundg k3
                                      case measure => have := HJ1.out; have := HJ8.out; have := HK3.out; omega
                                      case rel => exact ⟨(y142), (wrap64 (x55_3 + 1)), (by first | rfl | (simp; done) | (simp [*]; done)), H', ⟨by have := HJ1.out; have := HJ8.out; have := HK3.out; omega⟩, ⟨by (with_reducible repeat (first | apply Kd.R_alloc | apply Kd.R_drewN | apply Kd.R_drew)); exact Kd.R_mono HO144.out (fun _ hk => trivial)⟩, ⟨by repeat (first | (with_reducible first | exact HB.out | apply below_alloc | apply pw_below_drewN | apply below_drew1) | exact HB.out)⟩⟩
                                    · rw [if_neg c28] at H
                                      exact absurd H (by simp)
                                  · rw [if_neg c26] at H
                                    exact absurd H (by simp)
                                · rw [if_neg c25] at H
                                  exact absurd H (by simp)
                              · rw [if_neg c24] at H
                                have c24b0 : decide (x55_3 < ((l0.drop 2).length : Int)) = false := decide_eq_false c24
                                have c24b0d := c24b0
                                (try simp only [List.length_drop] at c24b0d)
                                clear c24
                                simp only [Option.some.injEq, Prod.mk.injEq] at H
                                obtain ⟨rfl, rfl⟩ := H
                                go_wp2
                                go_ret2
                                exact ⟨_, by first | rfl | (simp [errW_none, errW_some] <;> rfl) | (simp [*, errW_none, errW_some] <;> rfl), by (with_reducible repeat (first | apply Kd.R_alloc | apply Kd.R_drewN | apply Kd.R_drew)); exact HO_5.out, by repeat (first | (with_reducible first | exact HB.out | apply below_alloc | apply pw_below_drewN | apply below_drew1) | exact HB.out)⟩
                        · rw [if_neg c19] at H
                          exact absurd H (by simp)
                    · rw [if_neg c14] at H
                      exact absurd H (by simp)
                  · rw [if_neg c13] at H
                    exact absurd H (by simp)
        · rw [if_neg c7] at H
          exact absurd H (by simp)

end Go.Proofs.YtkceebgncfggjaaDoor.PA
