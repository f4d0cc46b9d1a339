/- Printed by a program of this session's (wip/xprint.py), for this claim: Go functions as plain Lean functions, and the proof that each call does what its function says. No condition beside those in each theorem's own line. -/
import Derived.Test.YtkceebgncfggjaaDoorPAx0
import Derived.Test.YtkceebgncfggjaaDoorPAx6
namespace Go.Proofs.YtkceebgncfggjaaDoor.PA
open Go.RowKit Go.Proofs.YtkceebgncfggjaaDoorW.PrintWords Go.Proofs.YtkceebgncfggjaaDoorW.PrintLast Go.Proofs.YtkceebgncfggjaaDoorW.PrintMore Go.Proofs.YtkceebgncfggjaaDoorX
attribute [local go_sem] max2_int min2_int max_two min_two max_three min_three max_four min_four   -- for this text's walks alone
set_option linter.unusedVariables false
set_option linter.unusedSimpArgs false

/-! ### warderlaw02_IntsMasks: function 3 -/
mutual
def warderlaw02_IntsMasks.j0 : Nat → Int → Bool → Bool → Option (Bool)
  | 0, _, _, _ => none
  | k + 1, x1, x5, x46 => if x46 = true then (some false) else ((ints_PutBits.f x1).bind fun t178 => (if (t178.length : Int) < 1 then (warderlaw02_IntsMasks.j1 k x1 x5 t178 true) else (warderlaw02_IntsMasks.j1 k x1 x5 t178 (decide ((t178.length : Int) > 3)))))
def warderlaw02_IntsMasks.j1 : Nat → Int → Bool → List Int → Bool → Option (Bool)
  | 0, _, _, _, _ => none
  | k + 1, x1, x5, x8, x56 => if x56 = true then (some false) else (warderlaw02_IntsMasks.l0 k x1 x5 x8 0)
def warderlaw02_IntsMasks.l0 : Nat → Int → Bool → List Int → Int → Option (Bool)
  | 0, _, _, _, _ => none
  | k + 1, x1, x5, x8, x9 => if x9 < 16 then (if (wrap64 (1 + (wrap64 (Int.tdiv x9 8)))) < (x8.length : Int) then (if 0 ≤ (wrap64 (1 + (wrap64 (Int.tdiv x9 8)))) then (if 0 ≤ (wrap64 (7 - (Int.tmod x9 8))) then (if 0 ≤ x9 then (if (((Go.bits .and .u8 (shr .u8 (rd x8 (wrap64 (1 + (wrap64 (Int.tdiv x9 8))))) (wrap64 (7 - (Int.tmod x9 8)))) 1) == 1) != ((Go.bits .and .u16 (shr .u16 x1 x9) 1) == 1)) = true then (some false) else (warderlaw02_IntsMasks.l0 k x1 x5 x8 (wrap64 (x9 + 1)))) else (none)) else (none)) else (none)) else (if 0 ≤ x9 then (if (false != ((Go.bits .and .u16 (shr .u16 x1 x9) 1) == 1)) = true then (some false) else (warderlaw02_IntsMasks.l0 k x1 x5 x8 (wrap64 (x9 + 1)))) else (none))) else (some x5)
end
def warderlaw02_IntsMasks.f (k : Nat) (a0 : Int) (a1 : Int) : Option (Bool) := (warderlaw02_head.f k).bind fun t172 => (if 0 ≤ (wrap64 (Int.tmod a0 16)) then ((ints_PutBits.f (shl .u16 1 (wrap64 (Int.tmod a0 16)))).bind fun t173 => (if (t173.length : Int) = (wrap64 (2 + (wrap64 (Int.tdiv (wrap64 (Int.tmod a0 16)) 8)))) then (if 0 < (t173.length : Int) then (if (wrap64 (rd t173 0)) = (wrap64 (7 - (Int.tmod (wrap64 (Int.tmod a0 16)) 8))) then (if 0 ≤ (wrap64 ((t173.length : Int) - 1)) then (if (wrap64 ((t173.length : Int) - 1)) < (t173.length : Int) then (if 0 ≤ (wrap64 (7 - (Int.tmod (wrap64 (Int.tmod a0 16)) 8))) then (warderlaw02_IntsMasks.j0 k a1 t172 ((rd t173 (wrap64 ((t173.length : Int) - 1))) != (shl .u8 1 (wrap64 (7 - (Int.tmod (wrap64 (Int.tmod a0 16)) 8)))))) else (none)) else (none)) else (none)) else (warderlaw02_IntsMasks.j0 k a1 t172 true)) else (none)) else (warderlaw02_IntsMasks.j0 k a1 t172 true))) else (none))
theorem warderlaw02_IntsMasks.mono_l : ∀ k, (∀ y0 y1 y2, LeO (warderlaw02_IntsMasks.j0 k y0 y1 y2) (warderlaw02_IntsMasks.j0 (k + 1) y0 y1 y2)) ∧ (∀ y0 y1 y2 y3, LeO (warderlaw02_IntsMasks.j1 k y0 y1 y2 y3) (warderlaw02_IntsMasks.j1 (k + 1) y0 y1 y2 y3)) ∧ (∀ y0 y1 y2 y3, LeO (warderlaw02_IntsMasks.l0 k y0 y1 y2 y3) (warderlaw02_IntsMasks.l0 (k + 1) y0 y1 y2 y3))
  | 0 => ⟨fun _ _ _ r h => by simp [warderlaw02_IntsMasks.j0] at h, fun _ _ _ _ r h => by simp [warderlaw02_IntsMasks.j1] at h, fun _ _ _ _ r h => by simp [warderlaw02_IntsMasks.l0] at h⟩
  | k + 1 => by
    obtain ⟨ih0, ih1, ih2⟩ := warderlaw02_IntsMasks.mono_l k
    refine ⟨?_, ?_, ?_⟩
    · intro y0 y1 y2
      unfold warderlaw02_IntsMasks.j0
      repeat' first
      | (with_reducible exact ih0 _ _ _)
      | (with_reducible exact ih1 _ _ _ _)
      | (with_reducible exact ih2 _ _ _ _)
      | (with_reducible exact warderlaw02_head.mono _)
      | (with_reducible exact LeO.refl _)
      | (with_reducible exact LeO.none _)
      | (with_reducible refine LeO.ite ?_ ?_)
      | (with_reducible refine LeO.bind ?_ (fun _ => ?_))
      | exact ih0 _ _ _
      | exact ih1 _ _ _ _
      | exact ih2 _ _ _ _
      | exact warderlaw02_head.mono _
      | exact LeO.none _
      | refine LeO.ite ?_ ?_
      | refine LeO.bind ?_ (fun _ => ?_)
    · intro y0 y1 y2 y3
      unfold warderlaw02_IntsMasks.j1
      repeat' first
      | (with_reducible exact ih0 _ _ _)
      | (with_reducible exact ih1 _ _ _ _)
      | (with_reducible exact ih2 _ _ _ _)
      | (with_reducible exact warderlaw02_head.mono _)
      | (with_reducible exact LeO.refl _)
      | (with_reducible exact LeO.none _)
      | (with_reducible refine LeO.ite ?_ ?_)
      | (with_reducible refine LeO.bind ?_ (fun _ => ?_))
      | exact ih0 _ _ _
      | exact ih1 _ _ _ _
      | exact ih2 _ _ _ _
      | exact warderlaw02_head.mono _
      | exact LeO.none _
      | refine LeO.ite ?_ ?_
      | refine LeO.bind ?_ (fun _ => ?_)
    · intro y0 y1 y2 y3
      unfold warderlaw02_IntsMasks.l0
      repeat' first
      | (with_reducible exact ih0 _ _ _)
      | (with_reducible exact ih1 _ _ _ _)
      | (with_reducible exact ih2 _ _ _ _)
      | (with_reducible exact warderlaw02_head.mono _)
      | (with_reducible exact LeO.refl _)
      | (with_reducible exact LeO.none _)
      | (with_reducible refine LeO.ite ?_ ?_)
      | (with_reducible refine LeO.bind ?_ (fun _ => ?_))
      | exact ih0 _ _ _
      | exact ih1 _ _ _ _
      | exact ih2 _ _ _ _
      | exact warderlaw02_head.mono _
      | exact LeO.none _
      | refine LeO.ite ?_ ?_
      | refine LeO.bind ?_ (fun _ => ?_)
theorem warderlaw02_IntsMasks.mono : ∀ a0 a1 k, LeO (warderlaw02_IntsMasks.f k a0 a1) (warderlaw02_IntsMasks.f (k + 1) a0 a1) := by
  intro a0 a1 k
  obtain ⟨ih0, ih1, ih2⟩ := warderlaw02_IntsMasks.mono_l k
  unfold warderlaw02_IntsMasks.f
  repeat' first
      | (with_reducible exact ih0 _ _ _)
      | (with_reducible exact ih1 _ _ _ _)
      | (with_reducible exact ih2 _ _ _ _)
      | (with_reducible exact warderlaw02_head.mono _)
      | (with_reducible exact LeO.refl _)
      | (with_reducible exact LeO.none _)
      | (with_reducible refine LeO.ite ?_ ?_)
      | (with_reducible refine LeO.bind ?_ (fun _ => ?_))
      | exact ih0 _ _ _
      | exact ih1 _ _ _ _
      | exact ih2 _ _ _ _
      | exact warderlaw02_head.mono _
      | exact LeO.none _
      | refine LeO.ite ?_ ?_
      | refine LeO.bind ?_ (fun _ => ?_)
set_option maxHeartbeats 8000000 in
set_option maxRecDepth 100000 in
theorem warderlaw02_IntsMasks.calls (k : Nat) (a0 : Int) (a1 : Int) (r : Bool) (w : World) (hT : TabB w) (h : warderlaw02_IntsMasks.f k a0 a1 = some r) :
    Calls Tryd.prog 3 #[.int .u8 a0, .int .u16 a1] w fun e w' => e = .returned (.bool r) ∧ Below w.heap.size w w' := by
  have HT := Aside0.mk hT
  clear hT
  have HB := Aside0.mk (Below.refl w.heap.size w)
  have H : ((warderlaw02_head.f k).bind fun t172 => (if 0 ≤ (wrap64 (Int.tmod a0 16)) then ((ints_PutBits.f (shl .u16 1 (wrap64 (Int.tmod a0 16)))).bind fun t173 => (if (t173.length : Int) = (wrap64 (2 + (wrap64 (Int.tdiv (wrap64 (Int.tmod a0 16)) 8)))) then (if 0 < (t173.length : Int) then (if (wrap64 (rd t173 0)) = (wrap64 (7 - (Int.tmod (wrap64 (Int.tmod a0 16)) 8))) then (if 0 ≤ (wrap64 ((t173.length : Int) - 1)) then (if (wrap64 ((t173.length : Int) - 1)) < (t173.length : Int) then (if 0 ≤ (wrap64 (7 - (Int.tmod (wrap64 (Int.tmod a0 16)) 8))) then (warderlaw02_IntsMasks.j0 k a1 t172 ((rd t173 (wrap64 ((t173.length : Int) - 1))) != (shl .u8 1 (wrap64 (7 - (Int.tmod (wrap64 (Int.tmod a0 16)) 8)))))) else (none)) else (none)) else (none)) else (warderlaw02_IntsMasks.j0 k a1 t172 true)) else (none)) else (warderlaw02_IntsMasks.j0 k a1 t172 true))) else (none))) = some r := h
  clear h
  replace H := Option.bind_eq_some_iff.mp H
  obtain ⟨t172, A30, H⟩ := H
  replace H : (if 0 ≤ (wrap64 (Int.tmod a0 16)) then ((ints_PutBits.f (shl .u16 1 (wrap64 (Int.tmod a0 16)))).bind fun t173 => (if (t173.length : Int) = (wrap64 (2 + (wrap64 (Int.tdiv (wrap64 (Int.tmod a0 16)) 8)))) then (if 0 < (t173.length : Int) then (if (wrap64 (rd t173 0)) = (wrap64 (7 - (Int.tmod (wrap64 (Int.tmod a0 16)) 8))) then (if 0 ≤ (wrap64 ((t173.length : Int) - 1)) then (if (wrap64 ((t173.length : Int) - 1)) < (t173.length : Int) then (if 0 ≤ (wrap64 (7 - (Int.tmod (wrap64 (Int.tmod a0 16)) 8))) then (warderlaw02_IntsMasks.j0 k a1 t172 ((rd t173 (wrap64 ((t173.length : Int) - 1))) != (shl .u8 1 (wrap64 (7 - (Int.tmod (wrap64 (Int.tmod a0 16)) 8)))))) else (none)) else (none)) else (none)) else (warderlaw02_IntsMasks.j0 k a1 t172 true)) else (none)) else (warderlaw02_IntsMasks.j0 k a1 t172 true))) else (none)) = some r := H
  have A3 := Aside0.mk A30
  clear A30
  obtain ⟨ji4, hji4⟩ : ∃ j_ : Int, (wrap64 (Int.tmod a0 16)) = j_ := ⟨_, rfl⟩
  replace H : (if 0 ≤ (ji4) then ((ints_PutBits.f (shl .u16 1 (ji4))).bind fun t173 => (if (t173.length : Int) = (wrap64 (2 + (wrap64 (Int.tdiv (ji4) 8)))) then (if 0 < (t173.length : Int) then (if (wrap64 (rd t173 0)) = (wrap64 (7 - (Int.tmod (ji4) 8))) then (if 0 ≤ (wrap64 ((t173.length : Int) - 1)) then (if (wrap64 ((t173.length : Int) - 1)) < (t173.length : Int) then (if 0 ≤ (wrap64 (7 - (Int.tmod (ji4) 8))) then (warderlaw02_IntsMasks.j0 k a1 t172 ((rd t173 (wrap64 ((t173.length : Int) - 1))) != (shl .u8 1 (wrap64 (7 - (Int.tmod (ji4) 8)))))) else (none)) else (none)) else (none)) else (warderlaw02_IntsMasks.j0 k a1 t172 true)) else (none)) else (warderlaw02_IntsMasks.j0 k a1 t172 true))) else (none)) = some r := by first | (rw [hji4] at H; exact H) | (simp only [hji4] at H ⊢; exact H)
  (try rw [hji4] at A3)
  have hji4w : (IntKind.i64.wrap (Int.tmod a0 16)) = ji4 := (i64_w _).trans hji4
  by_cases c5 : 0 ≤ (ji4)
  · rw [if_pos c5] at H
    have c5b0 := eq_true c5
    have c5b1 : decide (0 ≤ (ji4)) = true := decide_eq_true c5
    clear c5
    obtain ⟨ji6, hji6⟩ : ∃ j_ : Int, (shl .u16 1 (ji4)) = j_ := ⟨_, rfl⟩
    replace H : ((ints_PutBits.f (ji6)).bind fun t173 => (if (t173.length : Int) = (wrap64 (2 + (wrap64 (Int.tdiv (ji4) 8)))) then (if 0 < (t173.length : Int) then (if (wrap64 (rd t173 0)) = (wrap64 (7 - (Int.tmod (ji4) 8))) then (if 0 ≤ (wrap64 ((t173.length : Int) - 1)) then (if (wrap64 ((t173.length : Int) - 1)) < (t173.length : Int) then (if 0 ≤ (wrap64 (7 - (Int.tmod (ji4) 8))) then (warderlaw02_IntsMasks.j0 k a1 t172 ((rd t173 (wrap64 ((t173.length : Int) - 1))) != (shl .u8 1 (wrap64 (7 - (Int.tmod (ji4) 8)))))) else (none)) else (none)) else (none)) else (warderlaw02_IntsMasks.j0 k a1 t172 true)) else (none)) else (warderlaw02_IntsMasks.j0 k a1 t172 true))) = some r := by first | (rw [hji6] at H; exact H) | (simp only [hji6] at H ⊢; exact H)
    (try rw [hji6] at A3)
    have hji6_ : (IntKind.u16.wrap (1 * 2 ^ min (ji4).toNat 16)) = ji6 := hji6
    have hji6z : (ji4) ≤ 16 → (IntKind.u16.wrap (1 * 2 ^ (ji4).toNat)) = ji6 := shl_small hji6
    have hji6u : (IntKind.u16.wrap (2 ^ min (ji4).toNat 16)) = ji6 := by have h_ := hji6_; rw [Int.one_mul] at h_; exact h_
    have hji6v : (ji4) ≤ 16 → (IntKind.u16.wrap (2 ^ (ji4).toNat)) = ji6 := fun hle_ => by have h_ := hji6z hle_; rw [Int.one_mul] at h_; exact h_
    replace H := Option.bind_eq_some_iff.mp H
    obtain ⟨t173, A70, H⟩ := H
    replace H : (if (t173.length : Int) = (wrap64 (2 + (wrap64 (Int.tdiv (ji4) 8)))) then (if 0 < (t173.length : Int) then (if (wrap64 (rd t173 0)) = (wrap64 (7 - (Int.tmod (ji4) 8))) then (if 0 ≤ (wrap64 ((t173.length : Int) - 1)) then (if (wrap64 ((t173.length : Int) - 1)) < (t173.length : Int) then (if 0 ≤ (wrap64 (7 - (Int.tmod (ji4) 8))) then (warderlaw02_IntsMasks.j0 k a1 t172 ((rd t173 (wrap64 ((t173.length : Int) - 1))) != (shl .u8 1 (wrap64 (7 - (Int.tmod (ji4) 8)))))) else (none)) else (none)) else (none)) else (warderlaw02_IntsMasks.j0 k a1 t172 true)) else (none)) else (warderlaw02_IntsMasks.j0 k a1 t172 true)) = some r := H
    have A7 := Aside0.mk A70
    clear A70
    have HC8 := Aside0.mk H
    clear H
    go_enter Tryd.func3, Tryd.ntmps3
    go_upto_region 4 with (first | (go_at_call 12; (with_reducible refine (warderlaw02_head.calls k  t172 _ A3.out).mono ?_); rintro e w9 ⟨rfl, hb⟩; have n0_ := Aside0.mk (below_step (by repeat (first | (with_reducible first | exact HB.out | apply below_alloc | apply pw_below_drewN | apply below_drew1) | exact HB.out)) hb); clear HB; have HB := n0_; clear n0_; (try clear hb); (try clear hb2); (try clear hk); (try clear hi)) | (go_at_call 13; (with_reducible refine (ints_PutBits.calls ji6 t173 _ ?side1 A7.out).mono ?_); (case side1 => exact (by first | exact HT.out | exact TabB.drewN HT.out _ | exact TabB.below HT.out (by repeat (first | (with_reducible first | exact HB.out | apply below_alloc | apply pw_below_drewN | apply below_drew1) | exact HB.out)) | exact TabB.below HT.out (pw_below_drewN (by repeat (first | (with_reducible first | exact HB.out | apply below_alloc | apply pw_below_drewN | apply below_drew1) | exact HB.out)) _))); rintro e w10 ⟨v174, rfl, ho0, hb⟩; have n0_ := Aside0.mk (Kd.R_lower ho0 (below_size (by repeat (first | (with_reducible first | exact HB.out | apply below_alloc | apply pw_below_drewN | apply below_drew1) | exact HB.out)))); have n1_ := Aside0.mk (below_step (by repeat (first | (with_reducible first | exact HB.out | apply below_alloc | apply pw_below_drewN | apply below_drew1) | exact HB.out)) hb); clear HB; have HO175 := n0_; have HB := n1_; clear n0_ n1_; (try clear hb); (try clear hb2); (try clear hk); (try clear hi); (try clear ho0)))
    repeat (go_quiet (first | (go_at_call 12; (with_reducible refine (warderlaw02_head.calls k  t172 _ A3.out).mono ?_); rintro e w9 ⟨rfl, hb⟩; have n0_ := Aside0.mk (below_step (by repeat (first | (with_reducible first | exact HB.out | apply below_alloc | apply pw_below_drewN | apply below_drew1) | exact HB.out)) hb); clear HB; have HB := n0_; clear n0_; (try clear hb); (try clear hb2); (try clear hk); (try clear hi)) | (go_at_call 13; (with_reducible refine (ints_PutBits.calls ji6 t173 _ ?side1 A7.out).mono ?_); (case side1 => exact (by first | exact HT.out | exact TabB.drewN HT.out _ | exact TabB.below HT.out (by repeat (first | (with_reducible first | exact HB.out | apply below_alloc | apply pw_below_drewN | apply below_drew1) | exact HB.out)) | exact TabB.below HT.out (pw_below_drewN (by repeat (first | (with_reducible first | exact HB.out | apply below_alloc | apply pw_below_drewN | apply below_drew1) | exact HB.out)) _))); rintro e w10 ⟨v174, rfl, ho0, hb⟩; have n0_ := Aside0.mk (Kd.R_lower ho0 (below_size (by repeat (first | (with_reducible first | exact HB.out | apply below_alloc | apply pw_below_drewN | apply below_drew1) | exact HB.out)))); have n1_ := Aside0.mk (below_step (by repeat (first | (with_reducible first | exact HB.out | apply below_alloc | apply pw_below_drewN | apply below_drew1) | exact HB.out)) hb); clear HB; have HO175 := n0_; have HB := n1_; clear n0_ n1_; (try clear hb); (try clear hb2); (try clear hk); (try clear hi); (try clear ho0))); go_upto_region 4 with (first | (go_at_call 12; (with_reducible refine (warderlaw02_head.calls k  t172 _ A3.out).mono ?_); rintro e w9 ⟨rfl, hb⟩; have n0_ := Aside0.mk (below_step (by repeat (first | (with_reducible first | exact HB.out | apply below_alloc | apply pw_below_drewN | apply below_drew1) | exact HB.out)) hb); clear HB; have HB := n0_; clear n0_; (try clear hb); (try clear hb2); (try clear hk); (try clear hi)) | (go_at_call 13; (with_reducible refine (ints_PutBits.calls ji6 t173 _ ?side1 A7.out).mono ?_); (case side1 => exact (by first | exact HT.out | exact TabB.drewN HT.out _ | exact TabB.below HT.out (by repeat (first | (with_reducible first | exact HB.out | apply below_alloc | apply pw_below_drewN | apply below_drew1) | exact HB.out)) | exact TabB.below HT.out (pw_below_drewN (by repeat (first | (with_reducible first | exact HB.out | apply below_alloc | apply pw_below_drewN | apply below_drew1) | exact HB.out)) _))); rintro e w10 ⟨v174, rfl, ho0, hb⟩; have n0_ := Aside0.mk (Kd.R_lower ho0 (below_size (by repeat (first | (with_reducible first | exact HB.out | apply below_alloc | apply pw_below_drewN | apply below_drew1) | exact HB.out)))); have n1_ := Aside0.mk (below_step (by repeat (first | (with_reducible first | exact HB.out | apply below_alloc | apply pw_below_drewN | apply below_drew1) | exact HB.out)) hb); clear HB; have HO175 := n0_; have HB := n1_; clear n0_ n1_; (try clear hb); (try clear hb2); (try clear hk); (try clear hi); (try clear ho0))))
    (try simp only [Act.put, List.setIfInBounds_toArray, List.set_cons_zero, List.set_cons_succ])
    go_cut [46] (fun v46 wc => ∃ (kq : Nat) (x46_7 : Bool), v46 = .bool x46_7 ∧ Aside0 (warderlaw02_IntsMasks.j0 kq a1 t172 x46_7 = some r) ∧ Aside0 (kq ≤ k) ∧ Aside0 (Below w.heap.size w wc))
    case first =>
      have H := HC8.out
      clear HC8
      by_cases c11 : (t173.length : Int) = (wrap64 (2 + (wrap64 (Int.tdiv (ji4) 8))))
      · rw [if_pos c11] at H
        have c11b0 : ((t173.length : Int) == (wrap64 (2 + (wrap64 (Int.tdiv (ji4) 8))))) = true := beq_iff_eq.mpr c11
        have c11b1 : ((t173.length : Int) != (wrap64 (2 + (wrap64 (Int.tdiv (ji4) 8))))) = false := bne_eq_false_iff_eq.mpr c11
        clear c11
        (first | rw [c11b0] | (simp only [i64_w, i32_w]; rw [c11b0]) | skip)
        by_cases c12 : 0 < (t173.length : Int)
        · rw [if_pos c12] at H
          have c12b0 : decide (0 < (t173.length : Int)) = true := decide_eq_true c12
          have c12b1 : decide (0 < t173.length) = true := decide_eq_true (by omega)
          clear c12
          by_cases c13 : (wrap64 (rd t173 0)) = (wrap64 (7 - (Int.tmod (ji4) 8)))
          · rw [if_pos c13] at H
            have c13b0 : ((wrap64 (rd t173 0)) == (wrap64 (7 - (Int.tmod (ji4) 8)))) = true := beq_iff_eq.mpr c13
            have c13b1 : ((wrap64 (rd t173 0)) != (wrap64 (7 - (Int.tmod (ji4) 8)))) = false := bne_eq_false_iff_eq.mpr c13
            clear c13
            obtain ⟨ji14, hji14⟩ : ∃ j_ : Int, (wrap64 ((t173.length : Int) - 1)) = j_ := ⟨_, rfl⟩
            replace H : (if 0 ≤ (ji14) then (if (ji14) < (t173.length : Int) then (if 0 ≤ (wrap64 (7 - (Int.tmod (ji4) 8))) then (warderlaw02_IntsMasks.j0 k a1 t172 ((rd t173 (ji14)) != (shl .u8 1 (wrap64 (7 - (Int.tmod (ji4) 8)))))) else (none)) else (none)) else (none)) = some r := by first | (rw [hji14] at H; exact H) | (simp only [hji14] at H ⊢; exact H)
            have hji14w : (IntKind.i64.wrap ((t173.length : Int) - 1)) = ji14 := (i64_w _).trans hji14
            by_cases c15 : 0 ≤ (ji14)
            · rw [if_pos c15] at H
              have c15b0 : decide (0 ≤ (ji14)) = true := decide_eq_true c15
              clear c15
              by_cases c16 : (ji14) < (t173.length : Int)
              · rw [if_pos c16] at H
                have c16b0 : decide ((ji14) < (t173.length : Int)) = true := decide_eq_true c16
                clear c16
                obtain ⟨ji17, hji17⟩ : ∃ j_ : Int, (wrap64 (7 - (Int.tmod (ji4) 8))) = j_ := ⟨_, rfl⟩
                replace H : (if 0 ≤ (ji17) then (warderlaw02_IntsMasks.j0 k a1 t172 ((rd t173 (ji14)) != (shl .u8 1 (ji17)))) else (none)) = some r := by first | (rw [hji17] at H; exact H) | (simp only [hji17] at H ⊢; exact H)
                (try rw [hji17] at c13b0)
                (try rw [hji17] at c13b1)
                have hji17w : (IntKind.i64.wrap (7 - (Int.tmod (ji4) 8))) = ji17 := (i64_w _).trans hji17
                by_cases c18 : 0 ≤ (ji17)
                · rw [if_pos c18] at H
                  have c18b0 := eq_true c18
                  have c18b1 : decide (0 ≤ (ji17)) = true := decide_eq_true c18
                  clear c18
                  obtain ⟨ji19, hji19⟩ : ∃ j_ : Int, (shl .u8 1 (ji17)) = j_ := ⟨_, rfl⟩
                  replace H : (warderlaw02_IntsMasks.j0 k a1 t172 ((rd t173 (ji14)) != (ji19))) = some r := by first | (rw [hji19] at H; exact H) | (simp only [hji19] at H ⊢; exact H)
                  have hji19_ : (IntKind.u8.wrap (1 * 2 ^ min (ji17).toNat 8)) = ji19 := hji19
                  have hji19z : (ji17) ≤ 8 → (IntKind.u8.wrap (1 * 2 ^ (ji17).toNat)) = ji19 := shl_small hji19
                  have hji19u : (IntKind.u8.wrap (2 ^ min (ji17).toNat 8)) = ji19 := by have h_ := hji19_; rw [Int.one_mul] at h_; exact h_
                  have hji19v : (ji17) ≤ 8 → (IntKind.u8.wrap (2 ^ (ji17).toNat)) = ji19 := fun hle_ => by have h_ := hji19z hle_; rw [Int.one_mul] at h_; exact h_
                  have H' := Aside0.mk H
                  clear H
                  obtain ⟨Ao20, co20, eo20⟩ := Kd.R_slice HO175.out
                  subst eo20
                  have p176 : 0 ≤ (0 : Int) := (by omega)
                  have q176 : 0 < (t173.length : Int) := of_decide_eq_true (by first | (with_reducible assumption) | assumption)
                  obtain ⟨ad176, e176, hx176_0⟩ := Kd.at_int (Kd.R_reads' HO175.out).2.2 0 p176 q176
                  cases e176
                  have qi176 : (0 < t173.length) = True := eq_true (by omega)
                  (try rw [show ((0 : Int)).toNat = 0 from rfl] at hx176_0)
                  (try rw [Addr.add_zero'] at hx176_0)
                  replace p176 := eq_true p176
                  replace q176 := eq_true q176
                  have p177 : 0 ≤ ((ji14) : Int) := of_decide_eq_true (by first | (with_reducible assumption) | assumption)
                  have q177 : (ji14) < (t173.length : Int) := of_decide_eq_true (by first | (with_reducible assumption) | assumption)
                  obtain ⟨ad177, e177, hx177_0⟩ := Kd.at_int (Kd.R_reads' HO175.out).2.2 (ji14) p177 q177
                  obtain rfl : ad176 = ad177 := (by injection e177)
                  replace p177 := eq_true p177
                  replace q177 := eq_true q177
                  go_wp2
                  repeat (go_quiet (fail); try go_wp2)
                  go_meet
                  case rel => exact ⟨_, (((rd t173 (ji14)) != (ji19))), (by first | rfl | (simp; done) | (simp only [← hji14, ← hji19] <;> (first | rfl | simp)) | (simp [*]; done)), H', ⟨by first | omega | exact Nat.le_refl _⟩, ⟨by repeat (first | (with_reducible first | exact HB.out | apply below_alloc | apply pw_below_drewN | apply below_drew1) | exact HB.out)⟩⟩
                · rw [if_neg c18] at H
                  exact absurd H (by simp)
              · rw [if_neg c16] at H
                exact absurd H (by simp)
            · rw [if_neg c15] at H
              exact absurd H (by simp)
          · rw [if_neg c13] at H
            have c13b0 : ((wrap64 (rd t173 0)) == (wrap64 (7 - (Int.tmod (ji4) 8)))) = false := beq_eq_false_iff_ne.mpr c13
            have c13b1 : ((wrap64 (rd t173 0)) != (wrap64 (7 - (Int.tmod (ji4) 8)))) = true := bne_iff_ne.mpr c13
            have H' := Aside0.mk H
            clear H
            obtain ⟨Ao21, co21, eo21⟩ := Kd.R_slice HO175.out
            subst eo21
            have p176 : 0 ≤ (0 : Int) := (by omega)
            have q176 : 0 < (t173.length : Int) := of_decide_eq_true (by first | (with_reducible assumption) | assumption)
            obtain ⟨ad176, e176, hx176_0⟩ := Kd.at_int (Kd.R_reads' HO175.out).2.2 0 p176 q176
            cases e176
            have qi176 : (0 < t173.length) = True := eq_true (by omega)
            (try rw [show ((0 : Int)).toNat = 0 from rfl] at hx176_0)
            (try rw [Addr.add_zero'] at hx176_0)
            replace p176 := eq_true p176
            replace q176 := eq_true q176
            go_wp2
            repeat (go_quiet (fail); try go_wp2)
            go_meet
            case rel => exact ⟨_, (true), (by first | rfl | (simp; done) | (simp [*]; done)), H', ⟨by first | omega | exact Nat.le_refl _⟩, ⟨by repeat (first | (with_reducible first | exact HB.out | apply below_alloc | apply pw_below_drewN | apply below_drew1) | exact HB.out)⟩⟩
        · rw [if_neg c12] at H
          exact absurd H (by simp)
      · rw [if_neg c11] at H
        have c11b0 : ((t173.length : Int) == (wrap64 (2 + (wrap64 (Int.tdiv (ji4) 8))))) = false := beq_eq_false_iff_ne.mpr c11
        have c11b1 : ((t173.length : Int) != (wrap64 (2 + (wrap64 (Int.tdiv (ji4) 8))))) = true := bne_iff_ne.mpr c11
        (first | rw [c11b0] | (simp only [i64_w, i32_w]; rw [c11b0]) | skip)
        have H' := Aside0.mk H
        clear H
        obtain ⟨Ao22, co22, eo22⟩ := Kd.R_slice HO175.out
        subst eo22
        go_wp2
        repeat (go_quiet (fail); try go_wp2)
        go_meet
        case rel => exact ⟨_, (true), (by first | rfl | (simp; done) | (simp [*]; done)), H', ⟨by first | omega | exact Nat.le_refl _⟩, ⟨by repeat (first | (with_reducible first | exact HB.out | apply below_alloc | apply pw_below_drewN | apply below_drew1) | exact HB.out)⟩⟩
    case rest =>
      clear HC8
      try clear c1
      try clear p1
      try clear q1
      try clear hx1
      try clear qi1
      try clear p2
      try clear c3
      try clear c5
      try clear c5b0
      try clear c5b1
      try clear p6
      try clear c11
      try clear c11b0
      try clear c11b1
      try clear c12
      try clear c12b0
      try clear c12b1
      try clear c13
      try clear c13b0
      try clear c13b1
      try clear c15
      try clear c15b0
      try clear c16
      try clear c16b0
      try clear p17
      try clear q17
      try clear hx17
      try clear qi17
      try clear c18
      try clear c18b0
      try clear c18b1
      try clear hx176_0
      try clear hx177_0
      try clear p176
      try clear p177
      try clear q176
      try clear q177
      obtain ⟨kq, x46_7, rfl, HA, HJ7, HB⟩ := hcut
      cases kq with
      | zero => exact absurd HA.out (by simp [warderlaw02_IntsMasks.j0])
      | succ kj7 =>
        have H := HA.out
        clear HA
        simp only [warderlaw02_IntsMasks.j0] at H
        by_cases c23 : x46_7 = true
        · subst c23
          have H1 : (some false) = some r := by rw [if_pos rfl] at H; exact H
          clear H
          have H := H1
          clear H1
          obtain rfl := Option.some.inj H
          go_wp2
          repeat (go_quiet (fail); try go_wp2)
          go_ret
          exact ⟨by first | rfl | (simp [errW_none, errW_some] <;> rfl) | (simp only [← hji4, ← hji6]; first | rfl | (simp [errW_none, errW_some] <;> rfl)) | (simp [*, errW_none, errW_some] <;> rfl), by repeat (first | (with_reducible first | exact HB.out | apply below_alloc | apply pw_below_drewN | apply below_drew1) | exact HB.out)⟩
        · replace c23 := Bool.eq_false_iff.mpr c23
          subst c23
          have H1 : ((ints_PutBits.f a1).bind fun t178 => (if (t178.length : Int) < 1 then (warderlaw02_IntsMasks.j1 kj7 a1 t172 t178 true) else (warderlaw02_IntsMasks.j1 kj7 a1 t172 t178 (decide ((t178.length : Int) > 3))))) = some r := by rw [if_neg (show ¬ (false = true) by decide)] at H; exact H
          clear H
          have H := H1
          clear H1
          replace H := Option.bind_eq_some_iff.mp H
          obtain ⟨t178, A240, H⟩ := H
          replace H : (if (t178.length : Int) < 1 then (warderlaw02_IntsMasks.j1 kj7 a1 t172 t178 true) else (warderlaw02_IntsMasks.j1 kj7 a1 t172 t178 (decide ((t178.length : Int) > 3)))) = some r := H
          have A24 := Aside0.mk A240
          clear A240
          have HC25 := Aside0.mk H
          clear H
          go_upto_region 7 with (first | (go_at_call 13; (with_reducible refine (ints_PutBits.calls a1 t178 _ ?side1 A24.out).mono ?_); (case side1 => exact (by first | exact HT.out | exact TabB.drewN HT.out _ | exact TabB.below HT.out (by repeat (first | (with_reducible first | exact HB.out | apply below_alloc | apply pw_below_drewN | apply below_drew1) | exact HB.out)) | exact TabB.below HT.out (pw_below_drewN (by repeat (first | (with_reducible first | exact HB.out | apply below_alloc | apply pw_below_drewN | apply below_drew1) | exact HB.out)) _))); rintro e w26 ⟨v179, rfl, ho0, hb⟩; have n0_ := Aside0.mk (Kd.R_lower ho0 (below_size (by repeat (first | (with_reducible first | exact HB.out | apply below_alloc | apply pw_below_drewN | apply below_drew1) | exact HB.out)))); have n1_ := Aside0.mk (below_step (by repeat (first | (with_reducible first | exact HB.out | apply below_alloc | apply pw_below_drewN | apply below_drew1) | exact HB.out)) hb); clear HB; have HO180 := n0_; have HB := n1_; clear n0_ n1_; (try clear hb); (try clear hb2); (try clear hk); (try clear hi); (try clear ho0)))
          repeat (go_quiet (first | (go_at_call 13; (with_reducible refine (ints_PutBits.calls a1 t178 _ ?side1 A24.out).mono ?_); (case side1 => exact (by first | exact HT.out | exact TabB.drewN HT.out _ | exact TabB.below HT.out (by repeat (first | (with_reducible first | exact HB.out | apply below_alloc | apply pw_below_drewN | apply below_drew1) | exact HB.out)) | exact TabB.below HT.out (pw_below_drewN (by repeat (first | (with_reducible first | exact HB.out | apply below_alloc | apply pw_below_drewN | apply below_drew1) | exact HB.out)) _))); rintro e w26 ⟨v179, rfl, ho0, hb⟩; have n0_ := Aside0.mk (Kd.R_lower ho0 (below_size (by repeat (first | (with_reducible first | exact HB.out | apply below_alloc | apply pw_below_drewN | apply below_drew1) | exact HB.out)))); have n1_ := Aside0.mk (below_step (by repeat (first | (with_reducible first | exact HB.out | apply below_alloc | apply pw_below_drewN | apply below_drew1) | exact HB.out)) hb); clear HB; have HO180 := n0_; have HB := n1_; clear n0_ n1_; (try clear hb); (try clear hb2); (try clear hk); (try clear hi); (try clear ho0))); go_upto_region 7 with (first | (go_at_call 13; (with_reducible refine (ints_PutBits.calls a1 t178 _ ?side1 A24.out).mono ?_); (case side1 => exact (by first | exact HT.out | exact TabB.drewN HT.out _ | exact TabB.below HT.out (by repeat (first | (with_reducible first | exact HB.out | apply below_alloc | apply pw_below_drewN | apply below_drew1) | exact HB.out)) | exact TabB.below HT.out (pw_below_drewN (by repeat (first | (with_reducible first | exact HB.out | apply below_alloc | apply pw_below_drewN | apply below_drew1) | exact HB.out)) _))); rintro e w26 ⟨v179, rfl, ho0, hb⟩; have n0_ := Aside0.mk (Kd.R_lower ho0 (below_size (by repeat (first | (with_reducible first | exact HB.out | apply below_alloc | apply pw_below_drewN | apply below_drew1) | exact HB.out)))); have n1_ := Aside0.mk (below_step (by repeat (first | (with_reducible first | exact HB.out | apply below_alloc | apply pw_below_drewN | apply below_drew1) | exact HB.out)) hb); clear HB; have HO180 := n0_; have HB := n1_; clear n0_ n1_; (try clear hb); (try clear hb2); (try clear hk); (try clear hi); (try clear ho0))))
          (try simp only [Act.put, List.setIfInBounds_toArray, List.set_cons_zero, List.set_cons_succ])
          go_cut [56] (fun v56 wc => ∃ (kq : Nat) (x56_24 : Bool), v56 = .bool x56_24 ∧ Aside0 (warderlaw02_IntsMasks.j1 kq a1 t172 t178 x56_24 = some r) ∧ Aside0 (kq ≤ kj7) ∧ Aside0 (Kd.R (Kd.int .u8) 5 wc w.heap.size (fun _ => True) v179 t178) ∧ Aside0 (Below w.heap.size w wc))
          case first =>
            have H := HC25.out
            clear HC25
            by_cases c27 : (t178.length : Int) < 1
            · rw [if_pos c27] at H
              have c27b0 : decide ((t178.length : Int) < 1) = true := decide_eq_true c27
              have c27b1 : decide (t178.length < 1) = true := decide_eq_true (by omega)
              clear c27
              (first | rw [c27b0] | (simp only [i64_w, i32_w]; rw [c27b0]) | skip)
              have H' := Aside0.mk H
              clear H
              obtain ⟨Ao28, co28, eo28⟩ := Kd.R_slice HO180.out
              subst eo28
              go_wp2
              repeat (go_quiet (fail); try go_wp2)
              go_meet
              case rel => exact ⟨_, (true), (by first | rfl | (simp; done) | (simp [*]; done)), H', ⟨by have := HJ7.out; first | omega | exact Nat.le_refl _⟩, ⟨by (with_reducible repeat (first | apply Kd.R_alloc | apply Kd.R_drewN | apply Kd.R_drew)); exact HO180.out⟩, ⟨by repeat (first | (with_reducible first | exact HB.out | apply below_alloc | apply pw_below_drewN | apply below_drew1) | exact HB.out)⟩⟩
            · rw [if_neg c27] at H
              have c27b0 : decide ((t178.length : Int) < 1) = false := decide_eq_false c27
              have c27b1 : decide (t178.length < 1) = false := decide_eq_false (by omega)
              clear c27
              (first | rw [c27b0] | (simp only [i64_w, i32_w]; rw [c27b0]) | skip)
              have H' := Aside0.mk H
              clear H
              obtain ⟨Ao29, co29, eo29⟩ := Kd.R_slice HO180.out
              subst eo29
              go_wp2
              repeat (go_quiet (fail); try go_wp2)
              go_meet
              case rel => exact ⟨_, (decide ((t178.length : Int) > 3)), (by first | rfl | (simp; done) | (simp [*]; done)), H', ⟨by have := HJ7.out; first | omega | exact Nat.le_refl _⟩, ⟨by (with_reducible repeat (first | apply Kd.R_alloc | apply Kd.R_drewN | apply Kd.R_drew)); exact HO180.out⟩, ⟨by repeat (first | (with_reducible first | exact HB.out | apply below_alloc | apply pw_below_drewN | apply below_drew1) | exact HB.out)⟩⟩
          case rest =>
            clear HC25
            try clear c1
            try clear p1
            try clear q1
            try clear hx1
            try clear qi1
            try clear c2
            try clear p2
            try clear c3
            try clear c5
            try clear c5b0
            try clear c5b1
            try clear p6
            try clear c11
            try clear c11b0
            try clear c11b1
            try clear c12
            try clear c12b0
            try clear c12b1
            try clear c13
            try clear c13b0
            try clear c13b1
            try clear c15
            try clear c15b0
            try clear c16
            try clear c16b0
            try clear p17
            try clear q17
            try clear hx17
            try clear qi17
            try clear c18
            try clear c18b0
            try clear c18b1
            try clear c23
            try clear c27
            try clear c27b0
            try clear c27b1
            try clear hx176_0
            try clear hx177_0
            try clear p1
            try clear p17
            try clear p176
            try clear p177
            try clear p2
            try clear p6
            try clear q1
            try clear q17
            try clear q176
            try clear q177
            obtain ⟨kq, x56_24, rfl, HA, HJ24, HO_8, HB⟩ := hcut
            cases kq with
            | zero => exact absurd HA.out (by simp [warderlaw02_IntsMasks.j1])
            | succ kj24 =>
              have H := HA.out
              clear HA
              simp only [warderlaw02_IntsMasks.j1] at H
              by_cases c30 : x56_24 = true
              · subst c30
                have H1 : (some false) = some r := by rw [if_pos rfl] at H; exact H
                clear H
                have H := H1
                clear H1
                obtain rfl := Option.some.inj H
                go_wp2
                repeat (go_quiet (fail); try go_wp2)
                go_ret
                exact ⟨by first | rfl | (simp [errW_none, errW_some] <;> rfl) | (simp only [← hji4, ← hji6]; first | rfl | (simp [errW_none, errW_some] <;> rfl)) | (simp [*, errW_none, errW_some] <;> rfl), by repeat (first | (with_reducible first | exact HB.out | apply below_alloc | apply pw_below_drewN | apply below_drew1) | exact HB.out)⟩
              · replace c30 := Bool.eq_false_iff.mpr c30
                subst c30
                have H1 : (warderlaw02_IntsMasks.l0 kj24 a1 t172 t178 0) = some r := by rw [if_neg (show ¬ (false = true) by decide)] at H; exact H
                clear H
                have H := H1
                clear H1
                have H' := Aside0.mk H
                clear H
                go_wp2
                repeat (go_quiet (fail); try go_wp2)
                go_loopg [9] kj24 (fun kq v9 w' => ∃ (x9_3 : Int), v9 = .int .i64 x9_3 ∧ Aside0 (warderlaw02_IntsMasks.l0 kq a1 t172 t178 x9_3 = some r) ∧ Aside0 (kq ≤ kj24) ∧ Aside0 (Kd.R (Kd.int .u8) 5 w' w.heap.size (fun _ => True) v179 t178) ∧ Aside0 (Below w.heap.size w w'))
                case atStart => exact ⟨(0), (by first | rfl | (simp; done) | (simp [*]; done)), H', ⟨Nat.le_refl _⟩, ⟨by (with_reducible repeat (first | apply Kd.R_alloc | apply Kd.R_drewN | apply Kd.R_drew)); exact HO_8.out⟩, ⟨by repeat (first | (with_reducible first | exact HB.out | apply below_alloc | apply pw_below_drewN | apply below_drew1) | exact HB.out)⟩⟩
                case round =>
                  clear H'
                  try clear c1
                  try clear p1
                  try clear q1
                  try clear hx1
                  try clear qi1
                  try clear c2
                  try clear p2
                  try clear c3
                  try clear c5
                  try clear c5b0
                  try clear c5b1
                  try clear p6
                  try clear c11
                  try clear c11b0
                  try clear c11b1
                  try clear c12
                  try clear c12b0
                  try clear c12b1
                  try clear c13
                  try clear c13b0
                  try clear c13b1
                  try clear c15
                  try clear c15b0
                  try clear c16
                  try clear c16b0
                  try clear p17
                  try clear q17
                  try clear hx17
                  try clear qi17
                  try clear c18
                  try clear c18b0
                  try clear c18b1
                  try clear c23
                  try clear c27
                  try clear c27b0
                  try clear c27b1
                  try clear c30
                  try clear hx176_0
                  try clear hx177_0
                  try clear p1
                  try clear p17
                  try clear p176
                  try clear p177
                  try clear p2
                  try clear p6
                  try clear q1
                  try clear q17
                  try clear q176
                  try clear q177
                  obtain ⟨x9_3, rfl, HA, HK3, HO_8, HB⟩ := hrel
                  cases gk with
                  | zero => exact absurd HA.out (by simp [warderlaw02_IntsMasks.l0])
                  | succ k3 =>
                    have H := HA.out
                    clear HA
                    simp only [warderlaw02_IntsMasks.l0] at H
                    by_cases c31 : x9_3 < 16
                    · rw [if_pos c31] at H
                      have c31b0 : decide (x9_3 < 16) = true := decide_eq_true c31
                      clear c31
                      by_cases c32 : (wrap64 (1 + (wrap64 (Int.tdiv x9_3 8)))) < (t178.length : Int)
                      · rw [if_pos c32] at H
                        have c32b0 : decide ((wrap64 (1 + (wrap64 (Int.tdiv x9_3 8)))) < (t178.length : Int)) = true := decide_eq_true c32
                        clear c32
                        obtain ⟨ji33, hji33⟩ : ∃ j_ : Int, (wrap64 (1 + (wrap64 (Int.tdiv x9_3 8)))) = j_ := ⟨_, rfl⟩
                        replace H : (if 0 ≤ (ji33) then (if 0 ≤ (wrap64 (7 - (Int.tmod x9_3 8))) then (if 0 ≤ x9_3 then (if (((Go.bits .and .u8 (shr .u8 (rd t178 (ji33)) (wrap64 (7 - (Int.tmod x9_3 8)))) 1) == 1) != ((Go.bits .and .u16 (shr .u16 a1 x9_3) 1) == 1)) = true then (some false) else (warderlaw02_IntsMasks.l0 k3 a1 t172 t178 (wrap64 (x9_3 + 1)))) else (none)) else (none)) else (none)) = some r := by first | (rw [hji33] at H; exact H) | (simp only [hji33] at H ⊢; exact H)
                        (try rw [hji33] at c32b0)
                        have hji33w : (IntKind.i64.wrap (1 + (wrap64 (Int.tdiv x9_3 8)))) = ji33 := (i64_w _).trans hji33
                        by_cases c34 : 0 ≤ (ji33)
                        · rw [if_pos c34] at H
                          have c34b0 : decide (0 ≤ (ji33)) = true := decide_eq_true c34
                          clear c34
                          obtain ⟨ji35, hji35⟩ : ∃ j_ : Int, (wrap64 (7 - (Int.tmod x9_3 8))) = j_ := ⟨_, rfl⟩
                          replace H : (if 0 ≤ (ji35) then (if 0 ≤ x9_3 then (if (((Go.bits .and .u8 (shr .u8 (rd t178 (ji33)) (ji35)) 1) == 1) != ((Go.bits .and .u16 (shr .u16 a1 x9_3) 1) == 1)) = true then (some false) else (warderlaw02_IntsMasks.l0 k3 a1 t172 t178 (wrap64 (x9_3 + 1)))) else (none)) else (none)) = some r := by first | (rw [hji35] at H; exact H) | (simp only [hji35] at H ⊢; exact H)
                          have hji35w : (IntKind.i64.wrap (7 - (Int.tmod x9_3 8))) = ji35 := (i64_w _).trans hji35
                          by_cases c36 : 0 ≤ (ji35)
                          · rw [if_pos c36] at H
                            have c36b0 := eq_true c36
                            have c36b1 : decide (0 ≤ (ji35)) = true := decide_eq_true c36
                            clear c36
                            obtain ⟨ji37, hji37⟩ : ∃ j_ : Int, (shr .u8 (rd t178 (ji33)) (ji35)) = j_ := ⟨_, rfl⟩
                            replace H : (if 0 ≤ x9_3 then (if (((Go.bits .and .u8 (ji37) 1) == 1) != ((Go.bits .and .u16 (shr .u16 a1 x9_3) 1) == 1)) = true then (some false) else (warderlaw02_IntsMasks.l0 k3 a1 t172 t178 (wrap64 (x9_3 + 1)))) else (none)) = some r := by first | (rw [hji37] at H; exact H) | (simp only [hji37] at H ⊢; exact H)
                            have hji37_ : ((rd t178 (ji33)) / 2 ^ min (ji35).toNat 8) = ji37 := hji37
                            have hji37z : (ji35) ≤ 8 → ((rd t178 (ji33)) / 2 ^ (ji35).toNat) = ji37 := shr_small hji37
                            by_cases c38 : 0 ≤ x9_3
                            · rw [if_pos c38] at H
                              have c38b0 := eq_true c38
                              have c38b1 : decide (0 ≤ x9_3) = true := decide_eq_true c38
                              clear c38
                              obtain ⟨ji39, hji39⟩ : ∃ j_ : Int, (shr .u16 a1 x9_3) = j_ := ⟨_, rfl⟩
                              replace H : (if (((Go.bits .and .u8 (ji37) 1) == 1) != ((Go.bits .and .u16 (ji39) 1) == 1)) = true then (some false) else (warderlaw02_IntsMasks.l0 k3 a1 t172 t178 (wrap64 (x9_3 + 1)))) = some r := by first | (rw [hji39] at H; exact H) | (simp only [hji39] at H ⊢; exact H)
                              have hji39_ : (a1 / 2 ^ min x9_3.toNat 16) = ji39 := hji39
                              have hji39z : x9_3 ≤ 16 → (a1 / 2 ^ x9_3.toNat) = ji39 := shr_small hji39
                              by_cases c40 : (((Go.bits .and .u8 (ji37) 1) == 1) != ((Go.bits .and .u16 (ji39) 1) == 1)) = true
                              · rw [if_pos c40] at H
                                have c40b0 : (((Go.bits .and .u8 (ji37) 1) == 1) != ((Go.bits .and .u16 (ji39) 1) == 1)) = true := c40
                                (try (have c40b1 : decide (((Go.bits .and .u8 (ji37) 1) == 1) = ((Go.bits .and .u16 (ji39) 1) == 1)) = false := by simpa using c40))
                                (try (have c40b2 : (((Go.bits .and .u8 (ji37) 1) == 1) == ((Go.bits .and .u16 (ji39) 1) == 1)) = false := by simpa using c40))
                                (try (have c40b3 : ¬ (((Go.bits .and .u8 (ji37) 1) == 1) = ((Go.bits .and .u16 (ji39) 1) == 1)) := by simpa using c40))
                                clear c40
                                obtain rfl := Option.some.inj H
                                obtain ⟨Ao41, co41, eo41⟩ := Kd.R_slice HO_8.out
                                subst eo41
                                have p181 : 0 ≤ ((ji33) : Int) := of_decide_eq_true (by first | (with_reducible assumption) | assumption)
                                have q181 : (ji33) < (t178.length : Int) := of_decide_eq_true (by first | (with_reducible assumption) | assumption)
                                obtain ⟨ad181, e181, hx181_0⟩ := Kd.at_int (Kd.R_reads' HO_8.out).2.2 (ji33) p181 q181
                                cases e181
                                replace p181 := eq_true p181
                                replace q181 := eq_true q181
                                go_wp2
                                repeat (go_quiet (fail); try go_wp2)
                                go_ret
                                exact ⟨by first | rfl | (simp [errW_none, errW_some] <;> rfl) | (simp only [← hji4, ← hji6, ← hji33, ← hji35, ← hji37, ← hji39]; first | rfl | (simp [errW_none, errW_some] <;> rfl)) | (simp [*, errW_none, errW_some] <;> rfl), by repeat (first | (with_reducible first | exact HB.out | apply below_alloc | apply pw_below_drewN | apply below_drew1) | exact HB.out)⟩
                              · rw [if_neg c40] at H
                                have c40b0 : (((Go.bits .and .u8 (ji37) 1) == 1) != ((Go.bits .and .u16 (ji39) 1) == 1)) = false := by simpa using c40
                                (try (have c40b1 : decide (((Go.bits .and .u8 (ji37) 1) == 1) = ((Go.bits .and .u16 (ji39) 1) == 1)) = true := by simpa using c40))
                                (try (have c40b2 : (((Go.bits .and .u8 (ji37) 1) == 1) == ((Go.bits .and .u16 (ji39) 1) == 1)) = true := by simpa using c40))
                                clear c40
                                have H' := Aside0.mk H
                                clear H
                                obtain ⟨Ao42, co42, eo42⟩ := Kd.R_slice HO_8.out
                                subst eo42
                                have p181 : 0 ≤ ((ji33) : Int) := of_decide_eq_true (by first | (with_reducible assumption) | assumption)
                                have q181 : (ji33) < (t178.length : Int) := of_decide_eq_true (by first | (with_reducible assumption) | assumption)
                                obtain ⟨ad181, e181, hx181_0⟩ := Kd.at_int (Kd.R_reads' HO_8.out).2.2 (ji33) p181 q181
                                cases e181
                                replace p181 := eq_true p181
                                replace q181 := eq_true q181
                                go_wp2
                                repeat (go_quiet (fail); try go_wp2)
                                go_roundg k3
                                case measure => have := HJ7.out; have := HJ24.out; have := HK3.out; omega
                                case rel => exact ⟨(wrap64 (x9_3 + 1)), (by first | rfl | (simp; done) | (simp [*]; done)), H', ⟨by have := HJ7.out; have := HJ24.out; have := HK3.out; omega⟩, ⟨by (with_reducible repeat (first | apply Kd.R_alloc | apply Kd.R_drewN | apply Kd.R_drew)); exact HO_8.out⟩, ⟨by repeat (first | (with_reducible first | exact HB.out | apply below_alloc | apply pw_below_drewN | apply below_drew1) | exact HB.out)⟩⟩
                            · rw [if_neg c38] at H
                              exact absurd H (by simp)
                          · rw [if_neg c36] at H
                            exact absurd H (by simp)
                        · rw [if_neg c34] at H
                          exact absurd H (by simp)
                      · rw [if_neg c32] at H
                        have c32b0 : decide ((wrap64 (1 + (wrap64 (Int.tdiv x9_3 8)))) < (t178.length : Int)) = false := decide_eq_false c32
                        clear c32
                        by_cases c43 : 0 ≤ x9_3
                        · rw [if_pos c43] at H
                          have c43b0 := eq_true c43
                          have c43b1 : decide (0 ≤ x9_3) = true := decide_eq_true c43
                          clear c43
                          obtain ⟨ji44, hji44⟩ : ∃ j_ : Int, (shr .u16 a1 x9_3) = j_ := ⟨_, rfl⟩
                          replace H : (if (false != ((Go.bits .and .u16 (ji44) 1) == 1)) = true then (some false) else (warderlaw02_IntsMasks.l0 k3 a1 t172 t178 (wrap64 (x9_3 + 1)))) = some r := by first | (rw [hji44] at H; exact H) | (simp only [hji44] at H ⊢; exact H)
                          have hji44_ : (a1 / 2 ^ min x9_3.toNat 16) = ji44 := hji44
                          have hji44z : x9_3 ≤ 16 → (a1 / 2 ^ x9_3.toNat) = ji44 := shr_small hji44
                          by_cases c45 : (false != ((Go.bits .and .u16 (ji44) 1) == 1)) = true
                          · rw [if_pos c45] at H
                            have c45b0 : (false != ((Go.bits .and .u16 (ji44) 1) == 1)) = true := c45
                            (try (have c45b1 : decide (false = ((Go.bits .and .u16 (ji44) 1) == 1)) = false := by simpa using c45))
                            (try (have c45b2 : (false == ((Go.bits .and .u16 (ji44) 1) == 1)) = false := by simpa using c45))
                            (try (have c45b3 : ¬ (false = ((Go.bits .and .u16 (ji44) 1) == 1)) := by simpa using c45))
                            clear c45
                            obtain rfl := Option.some.inj H
                            obtain ⟨Ao46, co46, eo46⟩ := Kd.R_slice HO_8.out
                            subst eo46
                            go_wp2
                            repeat (go_quiet (fail); try go_wp2)
                            go_ret
                            exact ⟨by first | rfl | (simp [errW_none, errW_some] <;> rfl) | (simp only [← hji4, ← hji6, ← hji44]; first | rfl | (simp [errW_none, errW_some] <;> rfl)) | (simp [*, errW_none, errW_some] <;> rfl), by repeat (first | (with_reducible first | exact HB.out | apply below_alloc | apply pw_below_drewN | apply below_drew1) | exact HB.out)⟩
                          · rw [if_neg c45] at H
                            have c45b0 : (false != ((Go.bits .and .u16 (ji44) 1) == 1)) = false := by simpa using c45
                            (try (have c45b1 : decide (false = ((Go.bits .and .u16 (ji44) 1) == 1)) = true := by simpa using c45))
                            (try (have c45b2 : (false == ((Go.bits .and .u16 (ji44) 1) == 1)) = true := by simpa using c45))
                            clear c45
                            have H' := Aside0.mk H
                            clear H
                            obtain ⟨Ao47, co47, eo47⟩ := Kd.R_slice HO_8.out
                            subst eo47
                            go_wp2
                            repeat (go_quiet (fail); try go_wp2)
                            go_roundg k3
                            case measure => have := HJ7.out; have := HJ24.out; have := HK3.out; omega
                            case rel => exact ⟨(wrap64 (x9_3 + 1)), (by first | rfl | (simp; done) | (simp [*]; done)), H', ⟨by have := HJ7.out; have := HJ24.out; have := HK3.out; omega⟩, ⟨by (with_reducible repeat (first | apply Kd.R_alloc | apply Kd.R_drewN | apply Kd.R_drew)); exact HO_8.out⟩, ⟨by repeat (first | (with_reducible first | exact HB.out | apply below_alloc | apply pw_below_drewN | apply below_drew1) | exact HB.out)⟩⟩
                        · rw [if_neg c43] at H
                          exact absurd H (by simp)
                    · rw [if_neg c31] at H
                      have c31b0 : decide (x9_3 < 16) = false := decide_eq_false c31
                      clear c31
                      obtain rfl := Option.some.inj H
                      go_wp2
                      repeat (go_quiet (fail); try go_wp2)
                      go_ret
                      exact ⟨by first | rfl | (simp [errW_none, errW_some] <;> rfl) | (simp only [← hji4, ← hji6]; first | rfl | (simp [errW_none, errW_some] <;> rfl)) | (simp [*, errW_none, errW_some] <;> rfl), by repeat (first | (with_reducible first | exact HB.out | apply below_alloc | apply pw_below_drewN | apply below_drew1) | exact HB.out)⟩
  · rw [if_neg c5] at H
    exact absurd H (by simp)

end Go.Proofs.YtkceebgncfggjaaDoor.PA
