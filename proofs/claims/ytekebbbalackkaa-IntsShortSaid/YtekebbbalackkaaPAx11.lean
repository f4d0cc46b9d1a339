/- Printed by a program of this session's (wip/xprint.py), for this claim: Go functions as plain Lean functions, and the proof that each call does what its function says. No condition beside those in each theorem's own line. -/
import Derived.Test.YtekebbbalackkaaPAx0
import Derived.Test.YtekebbbalackkaaPAx1
import Derived.Test.YtekebbbalackkaaPAx8
namespace Go.Proofs.Ytekebbbalackkaa.PA
open Go.RowKit Go.Proofs.YtekebbbalackkaaW.PrintWords Go.Proofs.YtekebbbalackkaaW.PrintLast Go.Proofs.YtekebbbalackkaaW.PrintMore Go.Proofs.YtekebbbalackkaaX
attribute [local go_sem] max2_int min2_int max_two min_two max_three min_three max_four min_four   -- for this text's walks alone
set_option linter.unusedVariables false
set_option linter.unusedSimpArgs false

/-! ### warderlaw02_IntsShort: function 6 -/
mutual
def warderlaw02_IntsShort.j0 : Nat → Int → Int → Bool → List Int → Bool → Option (Bool)
  | 0, _, _, _, _, _ => none
  | k + 1, x0, x1, x5, x6, x20 => if x20 = true then (some false) else (if (x6.length : Int) > 1 then (if 0 < (x6.length : Int) then (if (rd x6 0) = 0 then (if 1 < (x6.length : Int) then (if (rd x6 1) < 128 then (warderlaw02_IntsShort.j1 k x0 x1 x5 x6 true) else (if (rd x6 0) = 255 then (warderlaw02_IntsShort.j1 k x0 x1 x5 x6 (decide ((rd x6 1) ≥ 128))) else (warderlaw02_IntsShort.j1 k x0 x1 x5 x6 false))) else (none)) else (if (rd x6 0) = 255 then (if 1 < (x6.length : Int) then (warderlaw02_IntsShort.j1 k x0 x1 x5 x6 (decide ((rd x6 1) ≥ 128))) else (none)) else (warderlaw02_IntsShort.j1 k x0 x1 x5 x6 false))) else (none)) else (warderlaw02_IntsShort.j1 k x0 x1 x5 x6 false))
def warderlaw02_IntsShort.j1 : Nat → Int → Int → Bool → List Int → Bool → Option (Bool)
  | 0, _, _, _, _, _ => none
  | k + 1, x0, x1, x5, x6, x47 => if x47 = true then (some false) else (if 0 < (x6.length : Int) then (if (rd x6 0) ≥ 128 then (warderlaw02_IntsShort.j2 k x0 x1 x5 x6 (-1)) else (warderlaw02_IntsShort.j2 k x0 x1 x5 x6 0)) else (none))
def warderlaw02_IntsShort.j2 : Nat → Int → Int → Bool → List Int → Int → Option (Bool)
  | 0, _, _, _, _, _ => none
  | k + 1, x0, x1, x5, x6, x7 => warderlaw02_IntsShort.l0 k x0 x1 x5 x6 x7 0
def warderlaw02_IntsShort.l0 : Nat → Int → Int → Bool → List Int → Int → Int → Option (Bool)
  | 0, _, _, _, _, _, _ => none
  | k + 1, x0, x1, x5, x6, x7, x8 => if x8 < (x6.length : Int) then (if 0 ≤ x8 then (warderlaw02_IntsShort.l0 k x0 x1 x5 x6 (Go.bits .or .i64 (wrap64 (x7 * 256)) (wrap64 (rd x6 x8))) (wrap64 (x8 + 1))) else (none)) else ((ints_PutInt.f k (wrap64 (Go.bits .and .u8 x1 127))).bind fun t278 => (if x5 = true then (if x7 = x0 then (if (t278.length : Int) = 1 then (if 0 < (t278.length : Int) then (some ((rd t278 0) == (Go.bits .and .u8 x1 127))) else (none)) else (some false)) else (some false)) else (some false)))
end
def warderlaw02_IntsShort.f (k : Nat) (a0 : Int) (a1 : Int) : Option (Bool) := (warderlaw02_head.f k).bind fun t266 => ((ints_PutInt.f k a0).bind fun t267 => (if (t267.length : Int) < 1 then (warderlaw02_IntsShort.j0 k a0 a1 t266 t267 true) else (warderlaw02_IntsShort.j0 k a0 a1 t266 t267 (decide ((t267.length : Int) > 8)))))
theorem warderlaw02_IntsShort.mono_l : ∀ k, (∀ y0 y1 y2 y3 y4, LeO (warderlaw02_IntsShort.j0 k y0 y1 y2 y3 y4) (warderlaw02_IntsShort.j0 (k + 1) y0 y1 y2 y3 y4)) ∧ (∀ y0 y1 y2 y3 y4, LeO (warderlaw02_IntsShort.j1 k y0 y1 y2 y3 y4) (warderlaw02_IntsShort.j1 (k + 1) y0 y1 y2 y3 y4)) ∧ (∀ y0 y1 y2 y3 y4, LeO (warderlaw02_IntsShort.j2 k y0 y1 y2 y3 y4) (warderlaw02_IntsShort.j2 (k + 1) y0 y1 y2 y3 y4)) ∧ (∀ y0 y1 y2 y3 y4 y5, LeO (warderlaw02_IntsShort.l0 k y0 y1 y2 y3 y4 y5) (warderlaw02_IntsShort.l0 (k + 1) y0 y1 y2 y3 y4 y5))
  | 0 => ⟨fun _ _ _ _ _ r h => by simp [warderlaw02_IntsShort.j0] at h, fun _ _ _ _ _ r h => by simp [warderlaw02_IntsShort.j1] at h, fun _ _ _ _ _ r h => by simp [warderlaw02_IntsShort.j2] at h, fun _ _ _ _ _ _ r h => by simp [warderlaw02_IntsShort.l0] at h⟩
  | k + 1 => by
    obtain ⟨ih0, ih1, ih2, ih3⟩ := warderlaw02_IntsShort.mono_l k
    refine ⟨?_, ?_, ?_, ?_⟩
    · intro y0 y1 y2 y3 y4
      unfold warderlaw02_IntsShort.j0
      repeat' first
      | (with_reducible exact ih0 _ _ _ _ _)
      | (with_reducible exact ih1 _ _ _ _ _)
      | (with_reducible exact ih2 _ _ _ _ _)
      | (with_reducible exact ih3 _ _ _ _ _ _)
      | (with_reducible exact ints_PutInt.mono _ _)
      | (with_reducible exact warderlaw02_head.mono _)
      | (with_reducible exact LeO.refl _)
      | (with_reducible exact LeO.none _)
      | (with_reducible refine LeO.ite ?_ ?_)
      | (with_reducible refine LeO.bind ?_ (fun _ => ?_))
      | exact ih0 _ _ _ _ _
      | exact ih1 _ _ _ _ _
      | exact ih2 _ _ _ _ _
      | exact ih3 _ _ _ _ _ _
      | exact ints_PutInt.mono _ _
      | exact warderlaw02_head.mono _
      | exact LeO.none _
      | refine LeO.ite ?_ ?_
      | refine LeO.bind ?_ (fun _ => ?_)
    · intro y0 y1 y2 y3 y4
      unfold warderlaw02_IntsShort.j1
      repeat' first
      | (with_reducible exact ih0 _ _ _ _ _)
      | (with_reducible exact ih1 _ _ _ _ _)
      | (with_reducible exact ih2 _ _ _ _ _)
      | (with_reducible exact ih3 _ _ _ _ _ _)
      | (with_reducible exact ints_PutInt.mono _ _)
      | (with_reducible exact warderlaw02_head.mono _)
      | (with_reducible exact LeO.refl _)
      | (with_reducible exact LeO.none _)
      | (with_reducible refine LeO.ite ?_ ?_)
      | (with_reducible refine LeO.bind ?_ (fun _ => ?_))
      | exact ih0 _ _ _ _ _
      | exact ih1 _ _ _ _ _
      | exact ih2 _ _ _ _ _
      | exact ih3 _ _ _ _ _ _
      | exact ints_PutInt.mono _ _
      | exact warderlaw02_head.mono _
      | exact LeO.none _
      | refine LeO.ite ?_ ?_
      | refine LeO.bind ?_ (fun _ => ?_)
    · intro y0 y1 y2 y3 y4
      unfold warderlaw02_IntsShort.j2
      repeat' first
      | (with_reducible exact ih0 _ _ _ _ _)
      | (with_reducible exact ih1 _ _ _ _ _)
      | (with_reducible exact ih2 _ _ _ _ _)
      | (with_reducible exact ih3 _ _ _ _ _ _)
      | (with_reducible exact ints_PutInt.mono _ _)
      | (with_reducible exact warderlaw02_head.mono _)
      | (with_reducible exact LeO.refl _)
      | (with_reducible exact LeO.none _)
      | (with_reducible refine LeO.ite ?_ ?_)
      | (with_reducible refine LeO.bind ?_ (fun _ => ?_))
      | exact ih0 _ _ _ _ _
      | exact ih1 _ _ _ _ _
      | exact ih2 _ _ _ _ _
      | exact ih3 _ _ _ _ _ _
      | exact ints_PutInt.mono _ _
      | exact warderlaw02_head.mono _
      | exact LeO.none _
      | refine LeO.ite ?_ ?_
      | refine LeO.bind ?_ (fun _ => ?_)
    · intro y0 y1 y2 y3 y4 y5
      unfold warderlaw02_IntsShort.l0
      repeat' first
      | (with_reducible exact ih0 _ _ _ _ _)
      | (with_reducible exact ih1 _ _ _ _ _)
      | (with_reducible exact ih2 _ _ _ _ _)
      | (with_reducible exact ih3 _ _ _ _ _ _)
      | (with_reducible exact ints_PutInt.mono _ _)
      | (with_reducible exact warderlaw02_head.mono _)
      | (with_reducible exact LeO.refl _)
      | (with_reducible exact LeO.none _)
      | (with_reducible refine LeO.ite ?_ ?_)
      | (with_reducible refine LeO.bind ?_ (fun _ => ?_))
      | exact ih0 _ _ _ _ _
      | exact ih1 _ _ _ _ _
      | exact ih2 _ _ _ _ _
      | exact ih3 _ _ _ _ _ _
      | exact ints_PutInt.mono _ _
      | exact warderlaw02_head.mono _
      | exact LeO.none _
      | refine LeO.ite ?_ ?_
      | refine LeO.bind ?_ (fun _ => ?_)
theorem warderlaw02_IntsShort.mono : ∀ a0 a1 k, LeO (warderlaw02_IntsShort.f k a0 a1) (warderlaw02_IntsShort.f (k + 1) a0 a1) := by
  intro a0 a1 k
  obtain ⟨ih0, ih1, ih2, ih3⟩ := warderlaw02_IntsShort.mono_l k
  unfold warderlaw02_IntsShort.f
  repeat' first
      | (with_reducible exact ih0 _ _ _ _ _)
      | (with_reducible exact ih1 _ _ _ _ _)
      | (with_reducible exact ih2 _ _ _ _ _)
      | (with_reducible exact ih3 _ _ _ _ _ _)
      | (with_reducible exact ints_PutInt.mono _ _)
      | (with_reducible exact warderlaw02_head.mono _)
      | (with_reducible exact LeO.refl _)
      | (with_reducible exact LeO.none _)
      | (with_reducible refine LeO.ite ?_ ?_)
      | (with_reducible refine LeO.bind ?_ (fun _ => ?_))
      | exact ih0 _ _ _ _ _
      | exact ih1 _ _ _ _ _
      | exact ih2 _ _ _ _ _
      | exact ih3 _ _ _ _ _ _
      | exact ints_PutInt.mono _ _
      | exact warderlaw02_head.mono _
      | exact LeO.none _
      | refine LeO.ite ?_ ?_
      | refine LeO.bind ?_ (fun _ => ?_)
set_option maxHeartbeats 8000000 in
set_option maxRecDepth 100000 in
theorem warderlaw02_IntsShort.calls (k : Nat) (a0 : Int) (a1 : Int) (r : Bool) (w : World) (h : warderlaw02_IntsShort.f k a0 a1 = some r) :
    Calls Try.prog 6 #[.int .i64 a0, .int .u8 a1] w fun e w' => e = .returned (.bool r) ∧ Below w.heap.size w w' := by
  have HB := Aside0.mk (Below.refl w.heap.size w)
  have H : ((warderlaw02_head.f k).bind fun t266 => ((ints_PutInt.f k a0).bind fun t267 => (if (t267.length : Int) < 1 then (warderlaw02_IntsShort.j0 k a0 a1 t266 t267 true) else (warderlaw02_IntsShort.j0 k a0 a1 t266 t267 (decide ((t267.length : Int) > 8)))))) = some r := h
  clear h
  replace H := Option.bind_eq_some_iff.mp H
  obtain ⟨t266, A30, H⟩ := H
  replace H : ((ints_PutInt.f k a0).bind fun t267 => (if (t267.length : Int) < 1 then (warderlaw02_IntsShort.j0 k a0 a1 t266 t267 true) else (warderlaw02_IntsShort.j0 k a0 a1 t266 t267 (decide ((t267.length : Int) > 8))))) = some r := H
  have A3 := Aside0.mk A30
  clear A30
  replace H := Option.bind_eq_some_iff.mp H
  obtain ⟨t267, A40, H⟩ := H
  replace H : (if (t267.length : Int) < 1 then (warderlaw02_IntsShort.j0 k a0 a1 t266 t267 true) else (warderlaw02_IntsShort.j0 k a0 a1 t266 t267 (decide ((t267.length : Int) > 8)))) = some r := H
  have A4 := Aside0.mk A40
  clear A40
  have HC5 := Aside0.mk H
  clear H
  go_enter Try.func6, Try.ntmps6
  go_upto_region 3 with (first | ((with_reducible refine gate_callee (f := 9) rfl ?_); refine goesL_ (some 10) rfl rfl Try.func9 (by kernel_rfl) rfl #[] rfl (by (try simp only [List.map_toArray, List.map_cons, List.map_nil]); first | done | rfl | (simp only [List.length_drop, List.length_take]; rfl)) ?_; (with_reducible refine (warderlaw02_head.calls k  t266 _ A3.out).mono ?_); rintro e w6 ⟨rfl, hb⟩; refine ⟨_, rfl, ?_⟩; have n0_ := Aside0.mk (below_step (by repeat (first | (with_reducible first | exact HB.out | apply below_alloc | apply pw_below_drewN | apply below_drew1) | exact HB.out)) hb); clear HB; have HB := n0_; clear n0_; (try clear hb); (try clear hb2); (try clear hk); (try clear hi)) | ((with_reducible refine gate_callee (f := 12) rfl ?_); refine goesL_ (some 12) rfl rfl Try.func12 (by kernel_rfl) rfl #[.int .i64 a0] rfl (by (try simp only [List.map_toArray, List.map_cons, List.map_nil]); first | done | rfl | (simp only [List.length_drop, List.length_take]; rfl)) ?_; (with_reducible refine (ints_PutInt.calls k a0 t267 _ A4.out).mono ?_); rintro e w7 ⟨v268, rfl, ho0, hb⟩; refine ⟨_, rfl, ?_⟩; have n0_ := Aside0.mk (Kd.R_lower ho0 (below_size (by repeat (first | (with_reducible first | exact HB.out | apply below_alloc | apply pw_below_drewN | apply below_drew1) | exact HB.out)))); have n1_ := Aside0.mk (below_step (by repeat (first | (with_reducible first | exact HB.out | apply below_alloc | apply pw_below_drewN | apply below_drew1) | exact HB.out)) hb); clear HB; have HO269 := n0_; have HB := n1_; clear n0_ n1_; (try clear hb); (try clear hb2); (try clear hk); (try clear hi); (try clear ho0)))
  (try simp only [Act.put, List.setIfInBounds_toArray, List.set_cons_zero, List.set_cons_succ])
  go_cut [20] (fun v20 wc => ∃ (kq : Nat) (x20_4 : Bool), v20 = .bool x20_4 ∧ Aside0 (warderlaw02_IntsShort.j0 kq a0 a1 t266 t267 x20_4 = some r) ∧ Aside0 (kq ≤ k) ∧ Aside0 (Kd.R (Kd.int .u8) 5 wc w.heap.size (fun _ => True) v268 t267) ∧ Aside0 (Below w.heap.size w wc))
  case first =>
    have H := HC5.out
    clear HC5
    by_cases c8 : (t267.length : Int) < 1
    · rw [if_pos c8] at H
      have c8b0 : decide ((t267.length : Int) < 1) = true := decide_eq_true c8
      have c8b1 : decide (t267.length < 1) = true := decide_eq_true (by omega)
      clear c8
      (first | rw [c8b0] | (simp only [i64_w, i32_w]; rw [c8b0]) | skip)
      have H' := Aside0.mk H
      clear H
      obtain ⟨Ao9, co9, eo9⟩ := Kd.R_slice HO269.out
      subst eo9
      go_wp2
      go_meet
      case rel => exact ⟨_, (true), (by first | rfl | (simp; done) | (simp [*]; done)), H', ⟨by first | omega | exact Nat.le_refl _⟩, ⟨by (with_reducible repeat (first | apply Kd.R_alloc | apply Kd.R_drewN | apply Kd.R_drew)); exact HO269.out⟩, ⟨by repeat (first | (with_reducible first | exact HB.out | apply below_alloc | apply pw_below_drewN | apply below_drew1) | exact HB.out)⟩⟩
    · rw [if_neg c8] at H
      have c8b0 : decide ((t267.length : Int) < 1) = false := decide_eq_false c8
      have c8b1 : decide (t267.length < 1) = false := decide_eq_false (by omega)
      clear c8
      (first | rw [c8b0] | (simp only [i64_w, i32_w]; rw [c8b0]) | skip)
      have H' := Aside0.mk H
      clear H
      obtain ⟨Ao10, co10, eo10⟩ := Kd.R_slice HO269.out
      subst eo10
      go_wp2
      go_meet
      case rel => exact ⟨_, (decide ((t267.length : Int) > 8)), (by first | rfl | (simp; done) | (simp [*]; done)), H', ⟨by first | omega | exact Nat.le_refl _⟩, ⟨by (with_reducible repeat (first | apply Kd.R_alloc | apply Kd.R_drewN | apply Kd.R_drew)); exact HO269.out⟩, ⟨by repeat (first | (with_reducible first | exact HB.out | apply below_alloc | apply pw_below_drewN | apply below_drew1) | exact HB.out)⟩⟩
  case rest =>
    clear HC5
    try clear c1
    try clear p2
    try clear c6
    try clear c8
    try clear c8b0
    try clear c8b1
    try clear c9
    obtain ⟨kq, x20_4, rfl, HA, HJ4, HO_6, HB⟩ := hcut
    cases kq with
    | zero => exact absurd HA.out (by simp [warderlaw02_IntsShort.j0])
    | succ kj4 =>
      have H := HA.out
      clear HA
      simp only [warderlaw02_IntsShort.j0] at H
      by_cases c11 : x20_4 = true
      · subst c11
        have H1 : (some false) = some r := by rw [if_pos rfl] at H; exact H
        clear H
        have H := H1
        clear H1
        obtain rfl := Option.some.inj H
        go_wp2
        go_ret
        exact ⟨by first | rfl | (simp [errW_none, errW_some] <;> rfl) | (simp [*, errW_none, errW_some] <;> rfl), by repeat (first | (with_reducible first | exact HB.out | apply below_alloc | apply pw_below_drewN | apply below_drew1) | exact HB.out)⟩
      · replace c11 := Bool.eq_false_iff.mpr c11
        subst c11
        have H1 : (if (t267.length : Int) > 1 then (if 0 < (t267.length : Int) then (if (rd t267 0) = 0 then (if 1 < (t267.length : Int) then (if (rd t267 1) < 128 then (warderlaw02_IntsShort.j1 kj4 a0 a1 t266 t267 true) else (if (rd t267 0) = 255 then (warderlaw02_IntsShort.j1 kj4 a0 a1 t266 t267 (decide ((rd t267 1) ≥ 128))) else (warderlaw02_IntsShort.j1 kj4 a0 a1 t266 t267 false))) else (none)) else (if (rd t267 0) = 255 then (if 1 < (t267.length : Int) then (warderlaw02_IntsShort.j1 kj4 a0 a1 t266 t267 (decide ((rd t267 1) ≥ 128))) else (none)) else (warderlaw02_IntsShort.j1 kj4 a0 a1 t266 t267 false))) else (none)) else (warderlaw02_IntsShort.j1 kj4 a0 a1 t266 t267 false)) = some r := by rw [if_neg (show ¬ (false = true) by decide)] at H; exact H
        clear H
        have H := H1
        clear H1
        have HC12 := Aside0.mk H
        clear H
        go_upto_region 5 with (fail)
        go_cut [47] (fun v47 wc => ∃ (kq : Nat) (x47_11 : Bool), v47 = .bool x47_11 ∧ Aside0 (warderlaw02_IntsShort.j1 kq a0 a1 t266 t267 x47_11 = some r) ∧ Aside0 (kq ≤ kj4) ∧ Aside0 (Kd.R (Kd.int .u8) 5 wc w.heap.size (fun _ => True) v268 t267) ∧ Aside0 (Below w.heap.size w wc))
        case first =>
          have H := HC12.out
          clear HC12
          by_cases c13 : (t267.length : Int) > 1
          · rw [if_pos c13] at H
            have c13b0 : decide (1 < (t267.length : Int)) = true := decide_eq_true c13
            have c13b1 : decide (1 < t267.length) = true := decide_eq_true (by omega)
            clear c13
            (first | rw [c13b0] | (simp only [i64_w, i32_w]; rw [c13b0]) | skip)
            by_cases c14 : 0 < (t267.length : Int)
            · rw [if_pos c14] at H
              have c14b0 : decide (0 < (t267.length : Int)) = true := decide_eq_true c14
              have c14b1 : decide (0 < t267.length) = true := decide_eq_true (by omega)
              clear c14
              by_cases c15 : (rd t267 0) = 0
              · rw [if_pos c15] at H
                have c15b0 : ((rd t267 0) == 0) = true := beq_iff_eq.mpr c15
                have c15b1 : ((rd t267 0) != 0) = false := bne_eq_false_iff_eq.mpr c15
                clear c15
                by_cases c16 : 1 < (t267.length : Int)
                · rw [if_pos c16] at H
                  have c16b0 : decide (1 < (t267.length : Int)) = true := decide_eq_true c16
                  have c16b1 : decide (1 < t267.length) = true := decide_eq_true (by omega)
                  clear c16
                  by_cases c17 : (rd t267 1) < 128
                  · rw [if_pos c17] at H
                    have c17b0 : decide ((rd t267 1) < 128) = true := decide_eq_true c17
                    clear c17
                    have H' := Aside0.mk H
                    clear H
                    obtain ⟨Ao18, co18, eo18⟩ := Kd.R_slice HO_6.out
                    subst eo18
                    have p270 : 0 ≤ (0 : Int) := (by omega)
                    have q270 : 0 < (t267.length : Int) := of_decide_eq_true (by first | (with_reducible assumption) | assumption)
                    obtain ⟨ad270, e270, hx270_0⟩ := Kd.at_int (Kd.R_reads' HO_6.out).2.2 0 p270 q270
                    cases e270
                    have qi270 : (0 < t267.length) = True := eq_true (by omega)
                    (try rw [show ((0 : Int)).toNat = 0 from rfl] at hx270_0)
                    (try rw [Addr.add_zero'] at hx270_0)
                    replace p270 := eq_true p270
                    replace q270 := eq_true q270
                    have p271 : 0 ≤ (1 : Int) := (by omega)
                    have q271 : 1 < (t267.length : Int) := of_decide_eq_true (by first | (with_reducible assumption) | assumption)
                    obtain ⟨ad271, e271, hx271_0⟩ := Kd.at_int (Kd.R_reads' HO_6.out).2.2 1 p271 q271
                    obtain rfl : ad270 = ad271 := (by injection e271)
                    (try simp only [show (1 : Int).toNat = 1 from rfl, Nat.reduceMul, Nat.reduceEqDiff, Go.Addr.add, ↓reduceIte] at hx271_0)
                    have qi271 : (1 < t267.length) = True := eq_true (by omega)
                    (try rw [show ((1 : Int)).toNat = 1 from rfl] at hx271_0)
                    replace p271 := eq_true p271
                    replace q271 := eq_true q271
                    go_wp2
                    go_meet
                    case rel => exact ⟨_, (true), (by first | rfl | (simp; done) | (simp [*]; done)), H', ⟨by have := HJ4.out; first | omega | exact Nat.le_refl _⟩, ⟨by (with_reducible repeat (first | apply Kd.R_alloc | apply Kd.R_drewN | apply Kd.R_drew)); exact HO_6.out⟩, ⟨by repeat (first | (with_reducible first | exact HB.out | apply below_alloc | apply pw_below_drewN | apply below_drew1) | exact HB.out)⟩⟩
                  · rw [if_neg c17] at H
                    have c17b0 : decide ((rd t267 1) < 128) = false := decide_eq_false c17
                    clear c17
                    by_cases c19 : (rd t267 0) = 255
                    · rw [if_pos c19] at H
                      have c19b0 : ((rd t267 0) == 255) = true := beq_iff_eq.mpr c19
                      have c19b1 : ((rd t267 0) != 255) = false := bne_eq_false_iff_eq.mpr c19
                      clear c19
                      have H' := Aside0.mk H
                      clear H
                      obtain ⟨Ao20, co20, eo20⟩ := Kd.R_slice HO_6.out
                      subst eo20
                      have p270 : 0 ≤ (0 : Int) := (by omega)
                      have q270 : 0 < (t267.length : Int) := of_decide_eq_true (by first | (with_reducible assumption) | assumption)
                      obtain ⟨ad270, e270, hx270_0⟩ := Kd.at_int (Kd.R_reads' HO_6.out).2.2 0 p270 q270
                      cases e270
                      have qi270 : (0 < t267.length) = True := eq_true (by omega)
                      (try rw [show ((0 : Int)).toNat = 0 from rfl] at hx270_0)
                      (try rw [Addr.add_zero'] at hx270_0)
                      replace p270 := eq_true p270
                      replace q270 := eq_true q270
                      have p271 : 0 ≤ (1 : Int) := (by omega)
                      have q271 : 1 < (t267.length : Int) := of_decide_eq_true (by first | (with_reducible assumption) | assumption)
                      obtain ⟨ad271, e271, hx271_0⟩ := Kd.at_int (Kd.R_reads' HO_6.out).2.2 1 p271 q271
                      obtain rfl : ad270 = ad271 := (by injection e271)
                      (try simp only [show (1 : Int).toNat = 1 from rfl, Nat.reduceMul, Nat.reduceEqDiff, Go.Addr.add, ↓reduceIte] at hx271_0)
                      have qi271 : (1 < t267.length) = True := eq_true (by omega)
                      (try rw [show ((1 : Int)).toNat = 1 from rfl] at hx271_0)
                      replace p271 := eq_true p271
                      replace q271 := eq_true q271
                      have p272 : 0 ≤ (0 : Int) := (by omega)
                      have q272 : 0 < (t267.length : Int) := of_decide_eq_true (by first | (with_reducible assumption) | assumption)
                      obtain ⟨ad272, e272, hx272_0⟩ := Kd.at_int (Kd.R_reads' HO_6.out).2.2 0 p272 q272
                      obtain rfl : ad270 = ad272 := (by injection e272)
                      have qi272 : (0 < t267.length) = True := eq_true (by omega)
                      (try rw [show ((0 : Int)).toNat = 0 from rfl] at hx272_0)
                      (try rw [Addr.add_zero'] at hx272_0)
                      replace p272 := eq_true p272
                      replace q272 := eq_true q272
                      have p273 : 0 ≤ (1 : Int) := (by omega)
                      have q273 : 1 < (t267.length : Int) := of_decide_eq_true (by first | (with_reducible assumption) | assumption)
                      obtain ⟨ad273, e273, hx273_0⟩ := Kd.at_int (Kd.R_reads' HO_6.out).2.2 1 p273 q273
                      obtain rfl : ad270 = ad273 := (by injection e273)
                      (try simp only [show (1 : Int).toNat = 1 from rfl, Nat.reduceMul, Nat.reduceEqDiff, Go.Addr.add, ↓reduceIte] at hx273_0)
                      have qi273 : (1 < t267.length) = True := eq_true (by omega)
                      (try rw [show ((1 : Int)).toNat = 1 from rfl] at hx273_0)
                      replace p273 := eq_true p273
                      replace q273 := eq_true q273
                      go_wp2
                      go_meet
                      case rel => exact ⟨_, (decide ((rd t267 1) ≥ 128)), (by first | rfl | (simp; done) | (simp [*]; done)), H', ⟨by have := HJ4.out; first | omega | exact Nat.le_refl _⟩, ⟨by (with_reducible repeat (first | apply Kd.R_alloc | apply Kd.R_drewN | apply Kd.R_drew)); exact HO_6.out⟩, ⟨by repeat (first | (with_reducible first | exact HB.out | apply below_alloc | apply pw_below_drewN | apply below_drew1) | exact HB.out)⟩⟩
                    · rw [if_neg c19] at H
                      have c19b0 : ((rd t267 0) == 255) = false := beq_eq_false_iff_ne.mpr c19
                      have c19b1 : ((rd t267 0) != 255) = true := bne_iff_ne.mpr c19
                      have H' := Aside0.mk H
                      clear H
                      obtain ⟨Ao21, co21, eo21⟩ := Kd.R_slice HO_6.out
                      subst eo21
                      have p270 : 0 ≤ (0 : Int) := (by omega)
                      have q270 : 0 < (t267.length : Int) := of_decide_eq_true (by first | (with_reducible assumption) | assumption)
                      obtain ⟨ad270, e270, hx270_0⟩ := Kd.at_int (Kd.R_reads' HO_6.out).2.2 0 p270 q270
                      cases e270
                      have qi270 : (0 < t267.length) = True := eq_true (by omega)
                      (try rw [show ((0 : Int)).toNat = 0 from rfl] at hx270_0)
                      (try rw [Addr.add_zero'] at hx270_0)
                      replace p270 := eq_true p270
                      replace q270 := eq_true q270
                      have p271 : 0 ≤ (1 : Int) := (by omega)
                      have q271 : 1 < (t267.length : Int) := of_decide_eq_true (by first | (with_reducible assumption) | assumption)
                      obtain ⟨ad271, e271, hx271_0⟩ := Kd.at_int (Kd.R_reads' HO_6.out).2.2 1 p271 q271
                      obtain rfl : ad270 = ad271 := (by injection e271)
                      (try simp only [show (1 : Int).toNat = 1 from rfl, Nat.reduceMul, Nat.reduceEqDiff, Go.Addr.add, ↓reduceIte] at hx271_0)
                      have qi271 : (1 < t267.length) = True := eq_true (by omega)
                      (try rw [show ((1 : Int)).toNat = 1 from rfl] at hx271_0)
                      replace p271 := eq_true p271
                      replace q271 := eq_true q271
                      have p272 : 0 ≤ (0 : Int) := (by omega)
                      have q272 : 0 < (t267.length : Int) := of_decide_eq_true (by first | (with_reducible assumption) | assumption)
                      obtain ⟨ad272, e272, hx272_0⟩ := Kd.at_int (Kd.R_reads' HO_6.out).2.2 0 p272 q272
                      obtain rfl : ad270 = ad272 := (by injection e272)
                      have qi272 : (0 < t267.length) = True := eq_true (by omega)
                      (try rw [show ((0 : Int)).toNat = 0 from rfl] at hx272_0)
                      (try rw [Addr.add_zero'] at hx272_0)
                      replace p272 := eq_true p272
                      replace q272 := eq_true q272
                      go_wp2
                      go_meet
                      case rel => exact ⟨_, (false), (by first | rfl | (simp; done) | (simp [*]; done)), H', ⟨by have := HJ4.out; first | omega | exact Nat.le_refl _⟩, ⟨by (with_reducible repeat (first | apply Kd.R_alloc | apply Kd.R_drewN | apply Kd.R_drew)); exact HO_6.out⟩, ⟨by repeat (first | (with_reducible first | exact HB.out | apply below_alloc | apply pw_below_drewN | apply below_drew1) | exact HB.out)⟩⟩
                · rw [if_neg c16] at H
                  exact absurd H (by simp)
              · rw [if_neg c15] at H
                have c15b0 : ((rd t267 0) == 0) = false := beq_eq_false_iff_ne.mpr c15
                have c15b1 : ((rd t267 0) != 0) = true := bne_iff_ne.mpr c15
                by_cases c22 : (rd t267 0) = 255
                · rw [if_pos c22] at H
                  have c22b0 : ((rd t267 0) == 255) = true := beq_iff_eq.mpr c22
                  have c22b1 : ((rd t267 0) != 255) = false := bne_eq_false_iff_eq.mpr c22
                  clear c22
                  by_cases c23 : 1 < (t267.length : Int)
                  · rw [if_pos c23] at H
                    have c23b0 : decide (1 < (t267.length : Int)) = true := decide_eq_true c23
                    have c23b1 : decide (1 < t267.length) = true := decide_eq_true (by omega)
                    clear c23
                    have H' := Aside0.mk H
                    clear H
                    obtain ⟨Ao24, co24, eo24⟩ := Kd.R_slice HO_6.out
                    subst eo24
                    have p270 : 0 ≤ (0 : Int) := (by omega)
                    have q270 : 0 < (t267.length : Int) := of_decide_eq_true (by first | (with_reducible assumption) | assumption)
                    obtain ⟨ad270, e270, hx270_0⟩ := Kd.at_int (Kd.R_reads' HO_6.out).2.2 0 p270 q270
                    cases e270
                    have qi270 : (0 < t267.length) = True := eq_true (by omega)
                    (try rw [show ((0 : Int)).toNat = 0 from rfl] at hx270_0)
                    (try rw [Addr.add_zero'] at hx270_0)
                    replace p270 := eq_true p270
                    replace q270 := eq_true q270
                    have p274 : 0 ≤ (0 : Int) := (by omega)
                    have q274 : 0 < (t267.length : Int) := of_decide_eq_true (by first | (with_reducible assumption) | assumption)
                    obtain ⟨ad274, e274, hx274_0⟩ := Kd.at_int (Kd.R_reads' HO_6.out).2.2 0 p274 q274
                    obtain rfl : ad270 = ad274 := (by injection e274)
                    have qi274 : (0 < t267.length) = True := eq_true (by omega)
                    (try rw [show ((0 : Int)).toNat = 0 from rfl] at hx274_0)
                    (try rw [Addr.add_zero'] at hx274_0)
                    replace p274 := eq_true p274
                    replace q274 := eq_true q274
                    have p275 : 0 ≤ (1 : Int) := (by omega)
                    have q275 : 1 < (t267.length : Int) := of_decide_eq_true (by first | (with_reducible assumption) | assumption)
                    obtain ⟨ad275, e275, hx275_0⟩ := Kd.at_int (Kd.R_reads' HO_6.out).2.2 1 p275 q275
                    obtain rfl : ad270 = ad275 := (by injection e275)
                    (try simp only [show (1 : Int).toNat = 1 from rfl, Nat.reduceMul, Nat.reduceEqDiff, Go.Addr.add, ↓reduceIte] at hx275_0)
                    have qi275 : (1 < t267.length) = True := eq_true (by omega)
                    (try rw [show ((1 : Int)).toNat = 1 from rfl] at hx275_0)
                    replace p275 := eq_true p275
                    replace q275 := eq_true q275
                    go_wp2
                    go_meet
                    case rel => exact ⟨_, (decide ((rd t267 1) ≥ 128)), (by first | rfl | (simp; done) | (simp [*]; done)), H', ⟨by have := HJ4.out; first | omega | exact Nat.le_refl _⟩, ⟨by (with_reducible repeat (first | apply Kd.R_alloc | apply Kd.R_drewN | apply Kd.R_drew)); exact HO_6.out⟩, ⟨by repeat (first | (with_reducible first | exact HB.out | apply below_alloc | apply pw_below_drewN | apply below_drew1) | exact HB.out)⟩⟩
                  · rw [if_neg c23] at H
                    exact absurd H (by simp)
                · rw [if_neg c22] at H
                  have c22b0 : ((rd t267 0) == 255) = false := beq_eq_false_iff_ne.mpr c22
                  have c22b1 : ((rd t267 0) != 255) = true := bne_iff_ne.mpr c22
                  have H' := Aside0.mk H
                  clear H
                  obtain ⟨Ao25, co25, eo25⟩ := Kd.R_slice HO_6.out
                  subst eo25
                  have p270 : 0 ≤ (0 : Int) := (by omega)
                  have q270 : 0 < (t267.length : Int) := of_decide_eq_true (by first | (with_reducible assumption) | assumption)
                  obtain ⟨ad270, e270, hx270_0⟩ := Kd.at_int (Kd.R_reads' HO_6.out).2.2 0 p270 q270
                  cases e270
                  have qi270 : (0 < t267.length) = True := eq_true (by omega)
                  (try rw [show ((0 : Int)).toNat = 0 from rfl] at hx270_0)
                  (try rw [Addr.add_zero'] at hx270_0)
                  replace p270 := eq_true p270
                  replace q270 := eq_true q270
                  have p274 : 0 ≤ (0 : Int) := (by omega)
                  have q274 : 0 < (t267.length : Int) := of_decide_eq_true (by first | (with_reducible assumption) | assumption)
                  obtain ⟨ad274, e274, hx274_0⟩ := Kd.at_int (Kd.R_reads' HO_6.out).2.2 0 p274 q274
                  obtain rfl : ad270 = ad274 := (by injection e274)
                  have qi274 : (0 < t267.length) = True := eq_true (by omega)
                  (try rw [show ((0 : Int)).toNat = 0 from rfl] at hx274_0)
                  (try rw [Addr.add_zero'] at hx274_0)
                  replace p274 := eq_true p274
                  replace q274 := eq_true q274
                  go_wp2
                  go_meet
                  case rel => exact ⟨_, (false), (by first | rfl | (simp; done) | (simp [*]; done)), H', ⟨by have := HJ4.out; first | omega | exact Nat.le_refl _⟩, ⟨by (with_reducible repeat (first | apply Kd.R_alloc | apply Kd.R_drewN | apply Kd.R_drew)); exact HO_6.out⟩, ⟨by repeat (first | (with_reducible first | exact HB.out | apply below_alloc | apply pw_below_drewN | apply below_drew1) | exact HB.out)⟩⟩
            · rw [if_neg c14] at H
              exact absurd H (by simp)
          · rw [if_neg c13] at H
            have c13b0 : decide (1 < (t267.length : Int)) = false := decide_eq_false c13
            have c13b1 : decide (1 < t267.length) = false := decide_eq_false (by omega)
            clear c13
            (first | rw [c13b0] | (simp only [i64_w, i32_w]; rw [c13b0]) | skip)
            have H' := Aside0.mk H
            clear H
            obtain ⟨Ao26, co26, eo26⟩ := Kd.R_slice HO_6.out
            subst eo26
            go_wp2
            go_meet
            case rel => exact ⟨_, (false), (by first | rfl | (simp; done) | (simp [*]; done)), H', ⟨by have := HJ4.out; first | omega | exact Nat.le_refl _⟩, ⟨by (with_reducible repeat (first | apply Kd.R_alloc | apply Kd.R_drewN | apply Kd.R_drew)); exact HO_6.out⟩, ⟨by repeat (first | (with_reducible first | exact HB.out | apply below_alloc | apply pw_below_drewN | apply below_drew1) | exact HB.out)⟩⟩
        case rest =>
          clear HC12
          try clear c1
          try clear c2
          try clear p2
          try clear q2
          try clear hx2
          try clear qi2
          try clear c6
          try clear c8
          try clear c8b0
          try clear c8b1
          try clear c9
          try clear c11
          try clear c12
          try clear c13
          try clear c13b0
          try clear c13b1
          try clear c14
          try clear c14b0
          try clear c14b1
          try clear c15
          try clear c15b0
          try clear c15b1
          try clear c16
          try clear c16b0
          try clear c16b1
          try clear c17
          try clear c17b0
          try clear c19
          try clear c19b0
          try clear c19b1
          try clear c22
          try clear c22b0
          try clear c22b1
          try clear c23
          try clear c23b0
          try clear c23b1
          try clear hx270_0
          try clear hx271_0
          try clear hx272_0
          try clear hx273_0
          try clear hx274_0
          try clear hx275_0
          try clear p2
          try clear p270
          try clear p271
          try clear p272
          try clear p273
          try clear p274
          try clear p275
          try clear q270
          try clear q271
          try clear q272
          try clear q273
          try clear q274
          try clear q275
          obtain ⟨kq, x47_11, rfl, HA, HJ11, HO_6, HB⟩ := hcut
          cases kq with
          | zero => exact absurd HA.out (by simp [warderlaw02_IntsShort.j1])
          | succ kj11 =>
            have H := HA.out
            clear HA
            simp only [warderlaw02_IntsShort.j1] at H
            by_cases c27 : x47_11 = true
            · subst c27
              have H1 : (some false) = some r := by rw [if_pos rfl] at H; exact H
              clear H
              have H := H1
              clear H1
              obtain rfl := Option.some.inj H
              go_wp2
              go_ret
              exact ⟨by first | rfl | (simp [errW_none, errW_some] <;> rfl) | (simp [*, errW_none, errW_some] <;> rfl), by repeat (first | (with_reducible first | exact HB.out | apply below_alloc | apply pw_below_drewN | apply below_drew1) | exact HB.out)⟩
            · replace c27 := Bool.eq_false_iff.mpr c27
              subst c27
              have H1 : (if 0 < (t267.length : Int) then (if (rd t267 0) ≥ 128 then (warderlaw02_IntsShort.j2 kj11 a0 a1 t266 t267 (-1)) else (warderlaw02_IntsShort.j2 kj11 a0 a1 t266 t267 0)) else (none)) = some r := by rw [if_neg (show ¬ (false = true) by decide)] at H; exact H
              clear H
              have H := H1
              clear H1
              by_cases c28 : 0 < (t267.length : Int)
              · rw [if_pos c28] at H
                have c28b0 : decide (0 < (t267.length : Int)) = true := decide_eq_true c28
                have c28b1 : decide (0 < t267.length) = true := decide_eq_true (by omega)
                clear c28
                have HC29 := Aside0.mk H
                clear H
                obtain ⟨Ao30, co30, eo30⟩ := Kd.R_slice HO_6.out
                subst eo30
                have p276 : 0 ≤ (0 : Int) := (by omega)
                have q276 : 0 < (t267.length : Int) := of_decide_eq_true (by first | (with_reducible assumption) | assumption)
                obtain ⟨ad276, e276, hx276_0⟩ := Kd.at_int (Kd.R_reads' HO_6.out).2.2 0 p276 q276
                cases e276
                have qi276 : (0 < t267.length) = True := eq_true (by omega)
                (try rw [show ((0 : Int)).toNat = 0 from rfl] at hx276_0)
                (try rw [Addr.add_zero'] at hx276_0)
                replace p276 := eq_true p276
                replace q276 := eq_true q276
                go_upto_if 51 with (fail)
                go_cut [7] (fun v7 wc => ∃ (kq : Nat) (x7_28 : Int), v7 = .int .i64 x7_28 ∧ Aside0 (warderlaw02_IntsShort.j2 kq a0 a1 t266 t267 x7_28 = some r) ∧ Aside0 (kq ≤ kj11) ∧ Aside0 (Kd.R (Kd.int .u8) 5 wc w.heap.size (fun _ => True) (.slice (some ad276) t267.length co30) t267) ∧ Aside0 (Below w.heap.size w wc))
                case first =>
                  have H := HC29.out
                  clear HC29
                  by_cases c31 : (rd t267 0) ≥ 128
                  · rw [if_pos c31] at H
                    have c31b0 : decide (128 ≤ (rd t267 0)) = true := decide_eq_true c31
                    clear c31
                    (first | rw [c31b0] | (simp only [i64_w, i32_w]; rw [c31b0]) | skip)
                    have H' := Aside0.mk H
                    clear H
                    go_wp2
                    go_meet
                    case rel => exact ⟨_, ((-1)), (by first | rfl | (simp; done) | (simp [*]; done)), H', ⟨by have := HJ4.out; have := HJ11.out; first | omega | exact Nat.le_refl _⟩, ⟨by (with_reducible repeat (first | apply Kd.R_alloc | apply Kd.R_drewN | apply Kd.R_drew)); exact HO_6.out⟩, ⟨by repeat (first | (with_reducible first | exact HB.out | apply below_alloc | apply pw_below_drewN | apply below_drew1) | exact HB.out)⟩⟩
                  · rw [if_neg c31] at H
                    have c31b0 : decide (128 ≤ (rd t267 0)) = false := decide_eq_false c31
                    clear c31
                    (first | rw [c31b0] | (simp only [i64_w, i32_w]; rw [c31b0]) | skip)
                    have H' := Aside0.mk H
                    clear H
                    go_wp2
                    go_meet
                    case rel => exact ⟨_, (0), (by first | rfl | (simp; done) | (simp [*]; done)), H', ⟨by have := HJ4.out; have := HJ11.out; first | omega | exact Nat.le_refl _⟩, ⟨by (with_reducible repeat (first | apply Kd.R_alloc | apply Kd.R_drewN | apply Kd.R_drew)); exact HO_6.out⟩, ⟨by repeat (first | (with_reducible first | exact HB.out | apply below_alloc | apply pw_below_drewN | apply below_drew1) | exact HB.out)⟩⟩
                case rest =>
                  clear HC29
                  try clear c1
                  try clear c2
                  try clear p2
                  try clear q2
                  try clear hx2
                  try clear qi2
                  try clear c3
                  try clear c6
                  try clear c8
                  try clear c8b0
                  try clear c8b1
                  try clear c9
                  try clear c11
                  try clear c12
                  try clear c13
                  try clear c13b0
                  try clear c13b1
                  try clear c14
                  try clear c14b0
                  try clear c14b1
                  try clear c15
                  try clear c15b0
                  try clear c15b1
                  try clear c16
                  try clear c16b0
                  try clear c16b1
                  try clear c17
                  try clear c17b0
                  try clear c19
                  try clear c19b0
                  try clear c19b1
                  try clear c22
                  try clear c22b0
                  try clear c22b1
                  try clear c23
                  try clear c23b0
                  try clear c23b1
                  try clear c27
                  try clear p27
                  try clear q27
                  try clear hx27
                  try clear qi27
                  try clear c28
                  try clear c28b0
                  try clear c28b1
                  try clear c31
                  try clear c31b0
                  try clear hx270_0
                  try clear hx271_0
                  try clear hx272_0
                  try clear hx273_0
                  try clear hx274_0
                  try clear hx275_0
                  try clear hx276_0
                  try clear p2
                  try clear p270
                  try clear p271
                  try clear p272
                  try clear p273
                  try clear p274
                  try clear p275
                  try clear p276
                  try clear q2
                  try clear q270
                  try clear q271
                  try clear q272
                  try clear q273
                  try clear q274
                  try clear q275
                  try clear q276
                  obtain ⟨kq, x7_28, rfl, HA, HJ28, HO_6, HB⟩ := hcut
                  cases kq with
                  | zero => exact absurd HA.out (by simp [warderlaw02_IntsShort.j2])
                  | succ kj28 =>
                    have H := HA.out
                    clear HA
                    simp only [warderlaw02_IntsShort.j2] at H
                    have H' := Aside0.mk H
                    clear H
                    go_wp2
                    go_loopg [7, 8] kj28 (fun kq v7 v8 w' => ∃ (x7_4 : Int) (x8_4 : Int), v7 = .int .i64 x7_4 ∧ v8 = .int .i64 x8_4 ∧ Aside0 (warderlaw02_IntsShort.l0 kq a0 a1 t266 t267 x7_4 x8_4 = some r) ∧ Aside0 (kq ≤ kj28) ∧ Aside0 (Kd.R (Kd.int .u8) 5 w' w.heap.size (fun _ => True) (.slice (some ad276) t267.length co30) t267) ∧ Aside0 (Below w.heap.size w w'))
                    case atStart => exact ⟨(x7_28), (0), (by first | rfl | (simp; done) | (simp [*]; done)), (by first | rfl | (simp; done) | (simp [*]; done)), H', ⟨Nat.le_refl _⟩, ⟨by (with_reducible repeat (first | apply Kd.R_alloc | apply Kd.R_drewN | apply Kd.R_drew)); exact HO_6.out⟩, ⟨by repeat (first | (with_reducible first | exact HB.out | apply below_alloc | apply pw_below_drewN | apply below_drew1) | exact HB.out)⟩⟩
                    case round =>
                      clear H'
                      try clear c1
                      try clear c2
                      try clear p2
                      try clear q2
                      try clear hx2
                      try clear qi2
                      try clear c3
                      try clear c6
                      try clear c8
                      try clear c8b0
                      try clear c8b1
                      try clear c9
                      try clear c11
                      try clear c12
                      try clear c13
                      try clear c13b0
                      try clear c13b1
                      try clear c14
                      try clear c14b0
                      try clear c14b1
                      try clear c15
                      try clear c15b0
                      try clear c15b1
                      try clear c16
                      try clear c16b0
                      try clear c16b1
                      try clear c17
                      try clear c17b0
                      try clear c19
                      try clear c19b0
                      try clear c19b1
                      try clear c22
                      try clear c22b0
                      try clear c22b1
                      try clear c23
                      try clear c23b0
                      try clear c23b1
                      try clear c27
                      try clear p27
                      try clear q27
                      try clear hx27
                      try clear qi27
                      try clear c28
                      try clear c28b0
                      try clear c28b1
                      try clear c31
                      try clear c31b0
                      try clear hx270_0
                      try clear hx271_0
                      try clear hx272_0
                      try clear hx273_0
                      try clear hx274_0
                      try clear hx275_0
                      try clear hx276_0
                      try clear p2
                      try clear p27
                      try clear p270
                      try clear p271
                      try clear p272
                      try clear p273
                      try clear p274
                      try clear p275
                      try clear p276
                      try clear q2
                      try clear q27
                      try clear q270
                      try clear q271
                      try clear q272
                      try clear q273
                      try clear q274
                      try clear q275
                      try clear q276
                      obtain ⟨x7_4, x8_4, rfl, rfl, HA, HK4, HO_6, HB⟩ := hrel
                      cases gk with
                      | zero => exact absurd HA.out (by simp [warderlaw02_IntsShort.l0])
                      | succ k4 =>
                        have H := HA.out
                        clear HA
                        simp only [warderlaw02_IntsShort.l0] at H
                        by_cases c32 : x8_4 < (t267.length : Int)
                        · rw [if_pos c32] at H
                          have c32b0 : decide (x8_4 < (t267.length : Int)) = true := decide_eq_true c32
                          clear c32
                          by_cases c33 : 0 ≤ x8_4
                          · rw [if_pos c33] at H
                            have c33b0 : decide (0 ≤ x8_4) = true := decide_eq_true c33
                            clear c33
                            have H' := Aside0.mk H
                            clear H
                            have p277 : 0 ≤ (x8_4 : Int) := of_decide_eq_true (by first | (with_reducible assumption) | assumption)
                            have q277 : x8_4 < (t267.length : Int) := of_decide_eq_true (by first | (with_reducible assumption) | assumption)
                            obtain ⟨ad277, e277, hx277_0⟩ := Kd.at_int (Kd.R_reads' HO_6.out).2.2 x8_4 p277 q277
                            obtain rfl : ad276 = ad277 := (by injection e277)
                            replace p277 := eq_true p277
                            replace q277 := eq_true q277
                            go_wp2
                            go_roundg k4
                            case measure => have := HJ4.out; have := HJ11.out; have := HJ28.out; have := HK4.out; omega
                            case rel => exact ⟨(Go.bits .or .i64 (wrap64 (x7_4 * 256)) (wrap64 (rd t267 x8_4))), (wrap64 (x8_4 + 1)), (by first | rfl | (simp; done) | (simp [*]; done)), (by first | rfl | (simp; done) | (simp [*]; done)), H', ⟨by have := HJ4.out; have := HJ11.out; have := HJ28.out; have := HK4.out; omega⟩, ⟨by (with_reducible repeat (first | apply Kd.R_alloc | apply Kd.R_drewN | apply Kd.R_drew)); exact HO_6.out⟩, ⟨by repeat (first | (with_reducible first | exact HB.out | apply below_alloc | apply pw_below_drewN | apply below_drew1) | exact HB.out)⟩⟩
                          · rw [if_neg c33] at H
                            exact absurd H (by simp)
                        · rw [if_neg c32] at H
                          have c32b0 : decide (x8_4 < (t267.length : Int)) = false := decide_eq_false c32
                          clear c32
                          replace H := Option.bind_eq_some_iff.mp H
                          obtain ⟨t278, A340, H⟩ := H
                          replace H : (if t266 = true then (if x7_4 = a0 then (if (t278.length : Int) = 1 then (if 0 < (t278.length : Int) then (some ((rd t278 0) == (Go.bits .and .u8 a1 127))) else (none)) else (some false)) else (some false)) else (some false)) = some r := H
                          have A34 := Aside0.mk A340
                          clear A340
                          by_cases c35 : t266 = true
                          · subst c35
                            have H1 : (if x7_4 = a0 then (if (t278.length : Int) = 1 then (if 0 < (t278.length : Int) then (some ((rd t278 0) == (Go.bits .and .u8 a1 127))) else (none)) else (some false)) else (some false)) = some r := by rw [if_pos rfl] at H; exact H
                            clear H
                            have H := H1
                            clear H1
                            by_cases c36 : x7_4 = a0
                            · rw [if_pos c36] at H
                              have c36b0 : (x7_4 == a0) = true := beq_iff_eq.mpr c36
                              have c36b1 : (x7_4 != a0) = false := bne_eq_false_iff_eq.mpr c36
                              clear c36
                              by_cases c37 : (t278.length : Int) = 1
                              · rw [if_pos c37] at H
                                have c37b0 : ((t278.length : Int) == 1) = true := beq_iff_eq.mpr c37
                                have c37b1 : ((t278.length : Int) != 1) = false := bne_eq_false_iff_eq.mpr c37
                                clear c37
                                by_cases c38 : 0 < (t278.length : Int)
                                · rw [if_pos c38] at H
                                  have c38b0 : decide (0 < (t278.length : Int)) = true := decide_eq_true c38
                                  have c38b1 : decide (0 < t278.length) = true := decide_eq_true (by omega)
                                  clear c38
                                  obtain rfl := Option.some.inj H
                                  go_wp2_with (first | ((with_reducible refine gate_callee (f := 12) rfl ?_); refine goesL_ (some 69) rfl rfl Try.func12 (by kernel_rfl) rfl #[.int .i64 (wrap64 (Go.bits .and .u8 a1 127))] rfl (by (try simp only [List.map_toArray, List.map_cons, List.map_nil]); first | done | rfl | (simp only [List.length_drop, List.length_take]; rfl)) ?_; (with_reducible refine (ints_PutInt.calls k4 (wrap64 (Go.bits .and .u8 a1 127)) t278 _ A34.out).mono ?_); rintro e w39 ⟨v279, rfl, ho0, hb⟩; refine ⟨_, rfl, ?_⟩; have n0_ := Aside0.mk (Kd.R_elder' (by (with_reducible repeat (first | apply Kd.R_alloc | apply Kd.R_drewN | apply Kd.R_drew)); exact HO_6.out) (Kd.R_base ho0) hb); have n1_ := Aside0.mk (Kd.R_lower (Kd.R_new' ho0 (Kd.R_lt (by (with_reducible repeat (first | apply Kd.R_alloc | apply Kd.R_drewN | apply Kd.R_drew)); exact HO_6.out))) (below_size (by repeat (first | (with_reducible first | exact HB.out | apply below_alloc | apply pw_below_drewN | apply below_drew1) | exact HB.out)))); have n2_ := Aside0.mk (below_step (by repeat (first | (with_reducible first | exact HB.out | apply below_alloc | apply pw_below_drewN | apply below_drew1) | exact HB.out)) hb); clear HO_6; clear HB; have HO_6 := n0_; have HO280 := n1_; have HB := n2_; clear n0_ n1_ n2_; (try clear hb); (try clear hb2); (try clear hk); (try clear hi); (try clear ho0); obtain ⟨Ao40, co40, eo40⟩ := Kd.R_slice HO280.out; subst eo40; have p281 : 0 ≤ (0 : Int) := (by omega); have q281 : 0 < (t278.length : Int) := of_decide_eq_true (by first | (with_reducible assumption) | assumption); obtain ⟨ad281, e281, hx281_0⟩ := Kd.at_int (Kd.R_reads' HO280.out).2.2 0 p281 q281; cases e281; have qi281 : (0 < t278.length) = True := eq_true (by omega); (try rw [show ((0 : Int)).toNat = 0 from rfl] at hx281_0); (try rw [Addr.add_zero'] at hx281_0); replace p281 := eq_true p281; replace q281 := eq_true q281))
                                  go_ret
                                  exact ⟨by first | rfl | (simp [errW_none, errW_some] <;> rfl) | (simp [*, errW_none, errW_some] <;> rfl), by repeat (first | (with_reducible first | exact HB.out | apply below_alloc | apply pw_below_drewN | apply below_drew1) | exact HB.out)⟩
                                · rw [if_neg c38] at H
                                  exact absurd H (by simp)
                              · rw [if_neg c37] at H
                                have c37b0 : ((t278.length : Int) == 1) = false := beq_eq_false_iff_ne.mpr c37
                                have c37b1 : ((t278.length : Int) != 1) = true := bne_iff_ne.mpr c37
                                obtain rfl := Option.some.inj H
                                go_wp2_with (first | ((with_reducible refine gate_callee (f := 12) rfl ?_); refine goesL_ (some 69) rfl rfl Try.func12 (by kernel_rfl) rfl #[.int .i64 (wrap64 (Go.bits .and .u8 a1 127))] rfl (by (try simp only [List.map_toArray, List.map_cons, List.map_nil]); first | done | rfl | (simp only [List.length_drop, List.length_take]; rfl)) ?_; (with_reducible refine (ints_PutInt.calls k4 (wrap64 (Go.bits .and .u8 a1 127)) t278 _ A34.out).mono ?_); rintro e w41 ⟨v279, rfl, ho0, hb⟩; refine ⟨_, rfl, ?_⟩; have n0_ := Aside0.mk (Kd.R_elder' (by (with_reducible repeat (first | apply Kd.R_alloc | apply Kd.R_drewN | apply Kd.R_drew)); exact HO_6.out) (Kd.R_base ho0) hb); have n1_ := Aside0.mk (Kd.R_lower (Kd.R_new' ho0 (Kd.R_lt (by (with_reducible repeat (first | apply Kd.R_alloc | apply Kd.R_drewN | apply Kd.R_drew)); exact HO_6.out))) (below_size (by repeat (first | (with_reducible first | exact HB.out | apply below_alloc | apply pw_below_drewN | apply below_drew1) | exact HB.out)))); have n2_ := Aside0.mk (below_step (by repeat (first | (with_reducible first | exact HB.out | apply below_alloc | apply pw_below_drewN | apply below_drew1) | exact HB.out)) hb); clear HO_6; clear HB; have HO_6 := n0_; have HO280 := n1_; have HB := n2_; clear n0_ n1_ n2_; (try clear hb); (try clear hb2); (try clear hk); (try clear hi); (try clear ho0); obtain ⟨Ao42, co42, eo42⟩ := Kd.R_slice HO280.out; subst eo42))
                                go_ret
                                exact ⟨by first | rfl | (simp [errW_none, errW_some] <;> rfl) | (simp [*, errW_none, errW_some] <;> rfl), by repeat (first | (with_reducible first | exact HB.out | apply below_alloc | apply pw_below_drewN | apply below_drew1) | exact HB.out)⟩
                            · rw [if_neg c36] at H
                              have c36b0 : (x7_4 == a0) = false := beq_eq_false_iff_ne.mpr c36
                              have c36b1 : (x7_4 != a0) = true := bne_iff_ne.mpr c36
                              obtain rfl := Option.some.inj H
                              go_wp2_with (first | ((with_reducible refine gate_callee (f := 12) rfl ?_); refine goesL_ (some 69) rfl rfl Try.func12 (by kernel_rfl) rfl #[.int .i64 (wrap64 (Go.bits .and .u8 a1 127))] rfl (by (try simp only [List.map_toArray, List.map_cons, List.map_nil]); first | done | rfl | (simp only [List.length_drop, List.length_take]; rfl)) ?_; (with_reducible refine (ints_PutInt.calls k4 (wrap64 (Go.bits .and .u8 a1 127)) t278 _ A34.out).mono ?_); rintro e w43 ⟨v279, rfl, ho0, hb⟩; refine ⟨_, rfl, ?_⟩; have n0_ := Aside0.mk (Kd.R_elder' (by (with_reducible repeat (first | apply Kd.R_alloc | apply Kd.R_drewN | apply Kd.R_drew)); exact HO_6.out) (Kd.R_base ho0) hb); have n1_ := Aside0.mk (Kd.R_lower (Kd.R_new' ho0 (Kd.R_lt (by (with_reducible repeat (first | apply Kd.R_alloc | apply Kd.R_drewN | apply Kd.R_drew)); exact HO_6.out))) (below_size (by repeat (first | (with_reducible first | exact HB.out | apply below_alloc | apply pw_below_drewN | apply below_drew1) | exact HB.out)))); have n2_ := Aside0.mk (below_step (by repeat (first | (with_reducible first | exact HB.out | apply below_alloc | apply pw_below_drewN | apply below_drew1) | exact HB.out)) hb); clear HO_6; clear HB; have HO_6 := n0_; have HO280 := n1_; have HB := n2_; clear n0_ n1_ n2_; (try clear hb); (try clear hb2); (try clear hk); (try clear hi); (try clear ho0)))
                              go_ret
                              exact ⟨by first | rfl | (simp [errW_none, errW_some] <;> rfl) | (simp [*, errW_none, errW_some] <;> rfl), by repeat (first | (with_reducible first | exact HB.out | apply below_alloc | apply pw_below_drewN | apply below_drew1) | exact HB.out)⟩
                          · replace c35 := Bool.eq_false_iff.mpr c35
                            subst c35
                            have H1 : (some false) = some r := by rw [if_neg (show ¬ (false = true) by decide)] at H; exact H
                            clear H
                            have H := H1
                            clear H1
                            obtain rfl := Option.some.inj H
                            go_wp2_with (first | ((with_reducible refine gate_callee (f := 12) rfl ?_); refine goesL_ (some 69) rfl rfl Try.func12 (by kernel_rfl) rfl #[.int .i64 (wrap64 (Go.bits .and .u8 a1 127))] rfl (by (try simp only [List.map_toArray, List.map_cons, List.map_nil]); first | done | rfl | (simp only [List.length_drop, List.length_take]; rfl)) ?_; (with_reducible refine (ints_PutInt.calls k4 (wrap64 (Go.bits .and .u8 a1 127)) t278 _ A34.out).mono ?_); rintro e w44 ⟨v279, rfl, ho0, hb⟩; refine ⟨_, rfl, ?_⟩; have n0_ := Aside0.mk (Kd.R_elder' (by (with_reducible repeat (first | apply Kd.R_alloc | apply Kd.R_drewN | apply Kd.R_drew)); exact HO_6.out) (Kd.R_base ho0) hb); have n1_ := Aside0.mk (Kd.R_lower (Kd.R_new' ho0 (Kd.R_lt (by (with_reducible repeat (first | apply Kd.R_alloc | apply Kd.R_drewN | apply Kd.R_drew)); exact HO_6.out))) (below_size (by repeat (first | (with_reducible first | exact HB.out | apply below_alloc | apply pw_below_drewN | apply below_drew1) | exact HB.out)))); have n2_ := Aside0.mk (below_step (by repeat (first | (with_reducible first | exact HB.out | apply below_alloc | apply pw_below_drewN | apply below_drew1) | exact HB.out)) hb); clear HO_6; clear HB; have HO_6 := n0_; have HO280 := n1_; have HB := n2_; clear n0_ n1_ n2_; (try clear hb); (try clear hb2); (try clear hk); (try clear hi); (try clear ho0)))
                            go_ret
                            exact ⟨by first | rfl | (simp [errW_none, errW_some] <;> rfl) | (simp [*, errW_none, errW_some] <;> rfl), by repeat (first | (with_reducible first | exact HB.out | apply below_alloc | apply pw_below_drewN | apply below_drew1) | exact HB.out)⟩
              · rw [if_neg c28] at H
                exact absurd H (by simp)

/-- THE ONE PURE STATEMENT of warderlaw02_IntsShort: yours. -/
def warderlaw02_IntsShort.Pure : Prop := ∀ (a0 : Int) (a1 : Int), (Lit.int .i64 a0).wf = true → (Lit.int .u8 a1).wf = true → ∃ k, warderlaw02_IntsShort.f k a0 a1 = some true
theorem warderlaw02_IntsShort.walk (P : warderlaw02_IntsShort.Pure) (a0 : Int) (a1 : Int) (w : World) (w0 : (Lit.int .i64 a0).wf = true) (w1 : (Lit.int .u8 a1).wf = true) :
    Calls Try.prog 6 #[.int .i64 a0, .int .u8 a1] w fun e w' => e = .returned (.bool true) ∧ Below w.heap.size w w' := by
  obtain ⟨k, h⟩ := P a0 a1 w0 w1
  refine (warderlaw02_IntsShort.calls k a0 a1 true w h).mono ?_
  rintro e w' ⟨rfl, hd⟩
  exact ⟨rfl, hd⟩

end Go.Proofs.Ytekebbbalackkaa.PA
