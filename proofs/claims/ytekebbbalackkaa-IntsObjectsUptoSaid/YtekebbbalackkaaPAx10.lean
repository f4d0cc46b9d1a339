/- Printed by a program of this session's (wip/xprint.py), for this claim: Go functions as plain Lean functions, and the proof that each call does what its function says. No condition beside those in each theorem's own line. -/
import Derived.Test.YtekebbbalackkaaPAx0
import Derived.Test.YtekebbbalackkaaHOID
import Derived.Test.YtekebbbalackkaaPAx1
import Derived.Test.YtekebbbalackkaaPAx3
import Derived.Test.YtekebbbalackkaaPAx5
import Derived.Test.YtekebbbalackkaaPAx6
import Derived.Test.YtekebbbalackkaaPAx8
namespace Go.Proofs.Ytekebbbalackkaa.PA
open Go.RowKit Go.Proofs.YtekebbbalackkaaW.PrintWords Go.Proofs.YtekebbbalackkaaW.PrintLast Go.Proofs.YtekebbbalackkaaW.PrintMore Go.Proofs.YtekebbbalackkaaX
attribute [local go_sem] max2_int min2_int max_two min_two max_three min_three max_four min_four   -- for this text's walks alone
set_option linter.unusedVariables false
set_option linter.unusedSimpArgs false

/-! ### warderlaw02_IntsObjects: function 4 -/
def warderlaw02_IntsObjects.f (k : Nat) (l0 : List Int) (l1 : List Int) : Option (Bool) := (warderlaw02_head.f k).bind fun t241 => ((ints_PutOID.f k l0).bind fun bt242 => ((warderref02_PutOID.f k l0).bind fun bt246 => ((ints_OID.f k l1).bind fun bt250 => ((warderref02_OID.f k l1).bind fun bt254 => (if t241 = true then (if (strOfNums bt242.1).toList = (strOfNums bt246.1).toList then (if bt242.2 = bt246.2 then ((warderref02_Same.f k bt250.1 bt254.1).bind fun t258 => (if t258 = true then (some (bt250.2 == bt254.2)) else (some false))) else (some false)) else (some false)) else (some false))))))
theorem warderlaw02_IntsObjects.mono : ∀ a0 a1 k, LeO (warderlaw02_IntsObjects.f k a0 a1) (warderlaw02_IntsObjects.f (k + 1) a0 a1) := by
  intro a0 a1 k
  unfold warderlaw02_IntsObjects.f
  repeat' first
      | (with_reducible exact ints_OID.mono _ _)
      | (with_reducible exact ints_PutOID.mono _ _)
      | (with_reducible exact warderlaw02_head.mono _)
      | (with_reducible exact warderref02_OID.mono _ _)
      | (with_reducible exact warderref02_PutOID.mono _ _)
      | (with_reducible exact warderref02_Same.mono _ _ _)
      | (with_reducible exact LeO.refl _)
      | (with_reducible exact LeO.none _)
      | (with_reducible refine LeO.ite ?_ ?_)
      | (with_reducible refine LeO.bind ?_ (fun _ => ?_))
      | exact ints_OID.mono _ _
      | exact ints_PutOID.mono _ _
      | exact warderlaw02_head.mono _
      | exact warderref02_OID.mono _ _
      | exact warderref02_PutOID.mono _ _
      | exact warderref02_Same.mono _ _ _
      | exact LeO.none _
      | refine LeO.ite ?_ ?_
      | refine LeO.bind ?_ (fun _ => ?_)
set_option maxHeartbeats 8000000 in
set_option maxRecDepth 100000 in
theorem warderlaw02_IntsObjects.calls (k : Nat) (A0 : Option Addr) (c0 : Nat) (l0 : List Int) (A1 : Option Addr) (c1 : Nat) (l1 : List Int) (r : Bool) (w : World) (hr0 : Kd.C (Kd.int .i64) w A0 l0.length l0) (hc0 : l0.length ≤ c0) (hr1 : Kd.C (Kd.int .u8) w A1 l1.length l1) (hc1 : l1.length ≤ c1) (h : warderlaw02_IntsObjects.f k l0 l1 = some r) :
    Calls Try.prog 4 #[.slice A0 l0.length c0, .slice A1 l1.length c1] w fun e w' => e = .returned (.bool r) ∧ Below w.heap.size w w' := by
  have HR0 := Aside0.mk hr0
  have HC0 := Aside0.mk hc0
  clear hr0 hc0
  have HR1 := Aside0.mk hr1
  have HC1 := Aside0.mk hc1
  clear hr1 hc1
  have HB := Aside0.mk (Below.refl w.heap.size w)
  have H : ((warderlaw02_head.f k).bind fun t241 => ((ints_PutOID.f k l0).bind fun bt242 => ((warderref02_PutOID.f k l0).bind fun bt246 => ((ints_OID.f k l1).bind fun bt250 => ((warderref02_OID.f k l1).bind fun bt254 => (if t241 = true then (if (strOfNums bt242.1).toList = (strOfNums bt246.1).toList then (if bt242.2 = bt246.2 then ((warderref02_Same.f k bt250.1 bt254.1).bind fun t258 => (if t258 = true then (some (bt250.2 == bt254.2)) else (some false))) else (some false)) else (some false)) else (some false))))))) = some r := h
  clear h
  replace H := Option.bind_eq_some_iff.mp H
  obtain ⟨t241, A30, H⟩ := H
  replace H : ((ints_PutOID.f k l0).bind fun bt242 => ((warderref02_PutOID.f k l0).bind fun bt246 => ((ints_OID.f k l1).bind fun bt250 => ((warderref02_OID.f k l1).bind fun bt254 => (if t241 = true then (if (strOfNums bt242.1).toList = (strOfNums bt246.1).toList then (if bt242.2 = bt246.2 then ((warderref02_Same.f k bt250.1 bt254.1).bind fun t258 => (if t258 = true then (some (bt250.2 == bt254.2)) else (some false))) else (some false)) else (some false)) else (some false)))))) = some r := H
  have A3 := Aside0.mk A30
  clear A30
  replace H := Option.bind_eq_some_iff.mp H
  obtain ⟨⟨t242, t243⟩, A40, H⟩ := H
  replace H : ((warderref02_PutOID.f k l0).bind fun bt246 => ((ints_OID.f k l1).bind fun bt250 => ((warderref02_OID.f k l1).bind fun bt254 => (if t241 = true then (if (strOfNums t242).toList = (strOfNums bt246.1).toList then (if t243 = bt246.2 then ((warderref02_Same.f k bt250.1 bt254.1).bind fun t258 => (if t258 = true then (some (bt250.2 == bt254.2)) else (some false))) else (some false)) else (some false)) else (some false))))) = some r := H
  have A4 := Aside0.mk A40
  clear A40
  replace H := Option.bind_eq_some_iff.mp H
  obtain ⟨⟨t246, t247⟩, A50, H⟩ := H
  replace H : ((ints_OID.f k l1).bind fun bt250 => ((warderref02_OID.f k l1).bind fun bt254 => (if t241 = true then (if (strOfNums t242).toList = (strOfNums t246).toList then (if t243 = t247 then ((warderref02_Same.f k bt250.1 bt254.1).bind fun t258 => (if t258 = true then (some (bt250.2 == bt254.2)) else (some false))) else (some false)) else (some false)) else (some false)))) = some r := H
  have A5 := Aside0.mk A50
  clear A50
  replace H := Option.bind_eq_some_iff.mp H
  obtain ⟨⟨t250, t251⟩, A60, H⟩ := H
  replace H : ((warderref02_OID.f k l1).bind fun bt254 => (if t241 = true then (if (strOfNums t242).toList = (strOfNums t246).toList then (if t243 = t247 then ((warderref02_Same.f k t250 bt254.1).bind fun t258 => (if t258 = true then (some (t251 == bt254.2)) else (some false))) else (some false)) else (some false)) else (some false))) = some r := H
  have A6 := Aside0.mk A60
  clear A60
  replace H := Option.bind_eq_some_iff.mp H
  obtain ⟨⟨t254, t255⟩, A70, H⟩ := H
  replace H : (if t241 = true then (if (strOfNums t242).toList = (strOfNums t246).toList then (if t243 = t247 then ((warderref02_Same.f k t250 t254).bind fun t258 => (if t258 = true then (some (t251 == t255)) else (some false))) else (some false)) else (some false)) else (some false)) = some r := H
  have A7 := Aside0.mk A70
  clear A70
  by_cases c8 : t241 = true
  · subst c8
    have H1 : (if (strOfNums t242).toList = (strOfNums t246).toList then (if t243 = t247 then ((warderref02_Same.f k t250 t254).bind fun t258 => (if t258 = true then (some (t251 == t255)) else (some false))) else (some false)) else (some false)) = some r := by rw [if_pos rfl] at H; exact H
    clear H
    have H := H1
    clear H1
    by_cases c9 : (strOfNums t242).toList = (strOfNums t246).toList
    · rw [if_pos c9] at H
      have c9b0 : ((strOfNums t242).toList == (strOfNums t246).toList) = true := beq_iff_eq.mpr c9
      have c9b1 : ((strOfNums t242).toList != (strOfNums t246).toList) = false := bne_eq_false_iff_eq.mpr c9
      clear c9
      by_cases c10 : t243 = t247
      · rw [if_pos c10] at H
        have c10b0 : (t243 == t247) = true := beq_iff_eq.mpr c10
        have c10b1 : (t243 != t247) = false := bne_eq_false_iff_eq.mpr c10
        clear c10
        replace H := Option.bind_eq_some_iff.mp H
        obtain ⟨t258, A110, H⟩ := H
        replace H : (if t258 = true then (some (t251 == t255)) else (some false)) = some r := H
        have A11 := Aside0.mk A110
        clear A110
        by_cases c12 : t258 = true
        · subst c12
          have H1 : (some (t251 == t255)) = some r := by rw [if_pos rfl] at H; exact H
          clear H
          have H := H1
          clear H1
          obtain rfl := Option.some.inj H
          go_enter Try.func4, Try.ntmps4
          go_wp2_with (first | ((with_reducible refine gate_callee (f := 9) rfl ?_); refine goesL_ (some 14) rfl rfl Try.func9 (by kernel_rfl) rfl #[] rfl (by (try simp only [List.map_toArray, List.map_cons, List.map_nil]); first | done | rfl | (simp only [List.length_drop, List.length_take]; rfl)) ?_; (with_reducible refine (warderlaw02_head.calls k  true _ A3.out).mono ?_); rintro e w13 ⟨rfl, hb⟩; refine ⟨_, rfl, ?_⟩; have n0_ := Aside0.mk (below_step (by repeat (first | (with_reducible first | exact HB.out | apply below_alloc | apply pw_below_drewN | apply below_drew1) | exact HB.out)) hb); clear HB; have HB := n0_; clear n0_; (try clear hb); (try clear hb2); (try clear hk); (try clear hi)) | ((with_reducible refine gate_callee (f := 14) rfl ?_); refine goesL_ (some 17) rfl rfl Try.func14 (by kernel_rfl) rfl #[.slice A0 l0.length c0] rfl (by (try simp only [List.map_toArray, List.map_cons, List.map_nil]); first | done | rfl | (simp only [List.length_drop, List.length_take]; rfl)) ?_; (with_reducible refine (ints_PutOID.calls k _ _ l0 t242 t243 _ ?side1 ?side2 A4.out).mono ?_); (case side1 => repeat (first | exact (Kd.C_below HR0.out HB.out) | (with_reducible refine Kd.C_alloc ?_ _) | (with_reducible refine Kd.C_drewN ?_ _) | (with_reducible refine Kd.C_drew ?_))); (case side2 => exact HC0.out); rintro e w14 ⟨v244, rfl, ho0, hb⟩; refine ⟨_, rfl, ?_⟩; have n0_ := Aside0.mk (Kd.R_lower ho0 (below_size (by repeat (first | (with_reducible first | exact HB.out | apply below_alloc | apply pw_below_drewN | apply below_drew1) | exact HB.out)))); have n1_ := Aside0.mk (below_step (by repeat (first | (with_reducible first | exact HB.out | apply below_alloc | apply pw_below_drewN | apply below_drew1) | exact HB.out)) hb); clear HB; have HO245 := n0_; have HB := n1_; clear n0_ n1_; (try clear hb); (try clear hb2); (try clear hk); (try clear hi); (try clear ho0)) | ((with_reducible refine gate_callee (f := 15) rfl ?_); refine goesL_ (some 22) rfl rfl Try.func15 (by kernel_rfl) rfl #[.slice A0 l0.length c0] rfl (by (try simp only [List.map_toArray, List.map_cons, List.map_nil]); first | done | rfl | (simp only [List.length_drop, List.length_take]; rfl)) ?_; (with_reducible refine (warderref02_PutOID.calls k _ _ l0 t246 t247 _ ?side1 ?side2 A5.out).mono ?_); (case side1 => repeat (first | exact (Kd.C_below HR0.out HB.out) | (with_reducible refine Kd.C_alloc ?_ _) | (with_reducible refine Kd.C_drewN ?_ _) | (with_reducible refine Kd.C_drew ?_))); (case side2 => exact HC0.out); rintro e w15 ⟨v248, rfl, ho0, hb⟩; refine ⟨_, rfl, ?_⟩; have n0_ := Aside0.mk (Kd.R_elder' (by (with_reducible repeat (first | apply Kd.R_alloc | apply Kd.R_drewN | apply Kd.R_drew)); exact HO245.out) (Kd.R_base ho0) hb); have n1_ := Aside0.mk (Kd.R_lower (Kd.R_new' ho0 (Kd.R_lt (by (with_reducible repeat (first | apply Kd.R_alloc | apply Kd.R_drewN | apply Kd.R_drew)); exact HO245.out))) (below_size (by repeat (first | (with_reducible first | exact HB.out | apply below_alloc | apply pw_below_drewN | apply below_drew1) | exact HB.out)))); have n2_ := Aside0.mk (below_step (by repeat (first | (with_reducible first | exact HB.out | apply below_alloc | apply pw_below_drewN | apply below_drew1) | exact HB.out)) hb); clear HO245; clear HB; have HO245 := n0_; have HO249 := n1_; have HB := n2_; clear n0_ n1_ n2_; (try clear hb); (try clear hb2); (try clear hk); (try clear hi); (try clear ho0)) | ((with_reducible refine gate_callee (f := 16) rfl ?_); refine goesL_ (some 27) rfl rfl Try.func16 (by kernel_rfl) rfl #[.slice A1 l1.length c1] rfl (by (try simp only [List.map_toArray, List.map_cons, List.map_nil]); first | done | rfl | (simp only [List.length_drop, List.length_take]; rfl)) ?_; (with_reducible refine (ints_OID.calls k _ _ l1 t250 t251 _ ?side1 ?side2 A6.out).mono ?_); (case side1 => repeat (first | exact (Kd.C_below HR1.out HB.out) | (with_reducible refine Kd.C_alloc ?_ _) | (with_reducible refine Kd.C_drewN ?_ _) | (with_reducible refine Kd.C_drew ?_))); (case side2 => exact HC1.out); rintro e w16 ⟨v252, rfl, ho0, hb⟩; refine ⟨_, rfl, ?_⟩; have n0_ := Aside0.mk (Kd.R_below (by (with_reducible repeat (first | apply Kd.R_alloc | apply Kd.R_drewN | apply Kd.R_drew)); exact HO245.out) hb); have n1_ := Aside0.mk (Kd.R_below (by (with_reducible repeat (first | apply Kd.R_alloc | apply Kd.R_drewN | apply Kd.R_drew)); exact HO249.out) hb); have n2_ := Aside0.mk (Kd.R_lower ho0 (below_size (by repeat (first | (with_reducible first | exact HB.out | apply below_alloc | apply pw_below_drewN | apply below_drew1) | exact HB.out)))); have n3_ := Aside0.mk (below_step (by repeat (first | (with_reducible first | exact HB.out | apply below_alloc | apply pw_below_drewN | apply below_drew1) | exact HB.out)) hb); clear HO245; clear HO249; clear HB; have HO245 := n0_; have HO249 := n1_; have HO253 := n2_; have HB := n3_; clear n0_ n1_ n2_ n3_; (try clear hb); (try clear hb2); (try clear hk); (try clear hi); (try clear ho0)) | ((with_reducible refine gate_callee (f := 17) rfl ?_); refine goesL_ (some 32) rfl rfl Try.func17 (by kernel_rfl) rfl #[.slice A1 l1.length c1] rfl (by (try simp only [List.map_toArray, List.map_cons, List.map_nil]); first | done | rfl | (simp only [List.length_drop, List.length_take]; rfl)) ?_; (with_reducible refine (warderref02_OID.calls k _ _ l1 t254 t255 _ ?side1 ?side2 A7.out).mono ?_); (case side1 => repeat (first | exact (Kd.C_below HR1.out HB.out) | (with_reducible refine Kd.C_alloc ?_ _) | (with_reducible refine Kd.C_drewN ?_ _) | (with_reducible refine Kd.C_drew ?_))); (case side2 => exact HC1.out); rintro e w17 ⟨v256, rfl, ho0, hb⟩; refine ⟨_, rfl, ?_⟩; have n0_ := Aside0.mk (Kd.R_below (by (with_reducible repeat (first | apply Kd.R_alloc | apply Kd.R_drewN | apply Kd.R_drew)); exact HO245.out) hb); have n1_ := Aside0.mk (Kd.R_below (by (with_reducible repeat (first | apply Kd.R_alloc | apply Kd.R_drewN | apply Kd.R_drew)); exact HO249.out) hb); have n2_ := Aside0.mk (Kd.R_elder' (by (with_reducible repeat (first | apply Kd.R_alloc | apply Kd.R_drewN | apply Kd.R_drew)); exact HO253.out) (Kd.R_base ho0) hb); have n3_ := Aside0.mk (Kd.R_lower (Kd.R_new' ho0 (Kd.R_lt (by (with_reducible repeat (first | apply Kd.R_alloc | apply Kd.R_drewN | apply Kd.R_drew)); exact HO253.out))) (below_size (by repeat (first | (with_reducible first | exact HB.out | apply below_alloc | apply pw_below_drewN | apply below_drew1) | exact HB.out)))); have n4_ := Aside0.mk (below_step (by repeat (first | (with_reducible first | exact HB.out | apply below_alloc | apply pw_below_drewN | apply below_drew1) | exact HB.out)) hb); clear HO245; clear HO249; clear HO253; clear HB; have HO245 := n0_; have HO249 := n1_; have HO253 := n2_; have HO257 := n3_; have HB := n4_; clear n0_ n1_ n2_ n3_ n4_; (try clear hb); (try clear hb2); (try clear hk); (try clear hi); (try clear ho0); have hcv18 := own_string (P := Try.prog) Try.underlying22 Try.underlying5 Try.underlying9 (Kd.own_of_R HO245.out); have hcv19 := own_string (P := Try.prog) Try.underlying22 Try.underlying5 Try.underlying9 (Kd.own_of_R HO249.out); obtain ⟨Ao20, co20, eo20⟩ := Kd.R_slice HO253.out; subst eo20; obtain ⟨Ao21, co21, eo21⟩ := Kd.R_slice HO257.out; subst eo21) | (go_at_call 18; (with_reducible refine (warderref02_Same.calls k _ _ t250 _ _ t254 true _ ?side1 ?side2 ?side3 ?side4 A11.out).mono ?_); (case side1 => repeat (first | exact (Kd.R_reads' HO253.out).2.2 | (with_reducible refine Kd.C_alloc ?_ _) | (with_reducible refine Kd.C_drewN ?_ _) | (with_reducible refine Kd.C_drew ?_))); (case side2 => exact (Kd.R_reads' HO253.out).2.1); (case side3 => repeat (first | exact (Kd.R_reads' HO257.out).2.2 | (with_reducible refine Kd.C_alloc ?_ _) | (with_reducible refine Kd.C_drewN ?_ _) | (with_reducible refine Kd.C_drew ?_))); (case side4 => exact (Kd.R_reads' HO257.out).2.1); rintro e w' ⟨rfl, ⟨nd, rfl⟩⟩))
          go_ret
          exact ⟨by first | rfl | (simp [errW_none, errW_some] <;> rfl) | (simp [*, errW_none, errW_some] <;> rfl), by repeat (first | (with_reducible first | exact HB.out | apply below_alloc | apply pw_below_drewN | apply below_drew1) | exact HB.out)⟩
        · replace c12 := Bool.eq_false_iff.mpr c12
          subst c12
          have H1 : (some false) = some r := by rw [if_neg (show ¬ (false = true) by decide)] at H; exact H
          clear H
          have H := H1
          clear H1
          obtain rfl := Option.some.inj H
          go_enter Try.func4, Try.ntmps4
          go_wp2_with (first | ((with_reducible refine gate_callee (f := 9) rfl ?_); refine goesL_ (some 14) rfl rfl Try.func9 (by kernel_rfl) rfl #[] rfl (by (try simp only [List.map_toArray, List.map_cons, List.map_nil]); first | done | rfl | (simp only [List.length_drop, List.length_take]; rfl)) ?_; (with_reducible refine (warderlaw02_head.calls k  true _ A3.out).mono ?_); rintro e w22 ⟨rfl, hb⟩; refine ⟨_, rfl, ?_⟩; have n0_ := Aside0.mk (below_step (by repeat (first | (with_reducible first | exact HB.out | apply below_alloc | apply pw_below_drewN | apply below_drew1) | exact HB.out)) hb); clear HB; have HB := n0_; clear n0_; (try clear hb); (try clear hb2); (try clear hk); (try clear hi)) | ((with_reducible refine gate_callee (f := 14) rfl ?_); refine goesL_ (some 17) rfl rfl Try.func14 (by kernel_rfl) rfl #[.slice A0 l0.length c0] rfl (by (try simp only [List.map_toArray, List.map_cons, List.map_nil]); first | done | rfl | (simp only [List.length_drop, List.length_take]; rfl)) ?_; (with_reducible refine (ints_PutOID.calls k _ _ l0 t242 t243 _ ?side1 ?side2 A4.out).mono ?_); (case side1 => repeat (first | exact (Kd.C_below HR0.out HB.out) | (with_reducible refine Kd.C_alloc ?_ _) | (with_reducible refine Kd.C_drewN ?_ _) | (with_reducible refine Kd.C_drew ?_))); (case side2 => exact HC0.out); rintro e w23 ⟨v244, rfl, ho0, hb⟩; refine ⟨_, rfl, ?_⟩; have n0_ := Aside0.mk (Kd.R_lower ho0 (below_size (by repeat (first | (with_reducible first | exact HB.out | apply below_alloc | apply pw_below_drewN | apply below_drew1) | exact HB.out)))); have n1_ := Aside0.mk (below_step (by repeat (first | (with_reducible first | exact HB.out | apply below_alloc | apply pw_below_drewN | apply below_drew1) | exact HB.out)) hb); clear HB; have HO245 := n0_; have HB := n1_; clear n0_ n1_; (try clear hb); (try clear hb2); (try clear hk); (try clear hi); (try clear ho0)) | ((with_reducible refine gate_callee (f := 15) rfl ?_); refine goesL_ (some 22) rfl rfl Try.func15 (by kernel_rfl) rfl #[.slice A0 l0.length c0] rfl (by (try simp only [List.map_toArray, List.map_cons, List.map_nil]); first | done | rfl | (simp only [List.length_drop, List.length_take]; rfl)) ?_; (with_reducible refine (warderref02_PutOID.calls k _ _ l0 t246 t247 _ ?side1 ?side2 A5.out).mono ?_); (case side1 => repeat (first | exact (Kd.C_below HR0.out HB.out) | (with_reducible refine Kd.C_alloc ?_ _) | (with_reducible refine Kd.C_drewN ?_ _) | (with_reducible refine Kd.C_drew ?_))); (case side2 => exact HC0.out); rintro e w24 ⟨v248, rfl, ho0, hb⟩; refine ⟨_, rfl, ?_⟩; have n0_ := Aside0.mk (Kd.R_elder' (by (with_reducible repeat (first | apply Kd.R_alloc | apply Kd.R_drewN | apply Kd.R_drew)); exact HO245.out) (Kd.R_base ho0) hb); have n1_ := Aside0.mk (Kd.R_lower (Kd.R_new' ho0 (Kd.R_lt (by (with_reducible repeat (first | apply Kd.R_alloc | apply Kd.R_drewN | apply Kd.R_drew)); exact HO245.out))) (below_size (by repeat (first | (with_reducible first | exact HB.out | apply below_alloc | apply pw_below_drewN | apply below_drew1) | exact HB.out)))); have n2_ := Aside0.mk (below_step (by repeat (first | (with_reducible first | exact HB.out | apply below_alloc | apply pw_below_drewN | apply below_drew1) | exact HB.out)) hb); clear HO245; clear HB; have HO245 := n0_; have HO249 := n1_; have HB := n2_; clear n0_ n1_ n2_; (try clear hb); (try clear hb2); (try clear hk); (try clear hi); (try clear ho0)) | ((with_reducible refine gate_callee (f := 16) rfl ?_); refine goesL_ (some 27) rfl rfl Try.func16 (by kernel_rfl) rfl #[.slice A1 l1.length c1] rfl (by (try simp only [List.map_toArray, List.map_cons, List.map_nil]); first | done | rfl | (simp only [List.length_drop, List.length_take]; rfl)) ?_; (with_reducible refine (ints_OID.calls k _ _ l1 t250 t251 _ ?side1 ?side2 A6.out).mono ?_); (case side1 => repeat (first | exact (Kd.C_below HR1.out HB.out) | (with_reducible refine Kd.C_alloc ?_ _) | (with_reducible refine Kd.C_drewN ?_ _) | (with_reducible refine Kd.C_drew ?_))); (case side2 => exact HC1.out); rintro e w25 ⟨v252, rfl, ho0, hb⟩; refine ⟨_, rfl, ?_⟩; have n0_ := Aside0.mk (Kd.R_below (by (with_reducible repeat (first | apply Kd.R_alloc | apply Kd.R_drewN | apply Kd.R_drew)); exact HO245.out) hb); have n1_ := Aside0.mk (Kd.R_below (by (with_reducible repeat (first | apply Kd.R_alloc | apply Kd.R_drewN | apply Kd.R_drew)); exact HO249.out) hb); have n2_ := Aside0.mk (Kd.R_lower ho0 (below_size (by repeat (first | (with_reducible first | exact HB.out | apply below_alloc | apply pw_below_drewN | apply below_drew1) | exact HB.out)))); have n3_ := Aside0.mk (below_step (by repeat (first | (with_reducible first | exact HB.out | apply below_alloc | apply pw_below_drewN | apply below_drew1) | exact HB.out)) hb); clear HO245; clear HO249; clear HB; have HO245 := n0_; have HO249 := n1_; have HO253 := n2_; have HB := n3_; clear n0_ n1_ n2_ n3_; (try clear hb); (try clear hb2); (try clear hk); (try clear hi); (try clear ho0)) | ((with_reducible refine gate_callee (f := 17) rfl ?_); refine goesL_ (some 32) rfl rfl Try.func17 (by kernel_rfl) rfl #[.slice A1 l1.length c1] rfl (by (try simp only [List.map_toArray, List.map_cons, List.map_nil]); first | done | rfl | (simp only [List.length_drop, List.length_take]; rfl)) ?_; (with_reducible refine (warderref02_OID.calls k _ _ l1 t254 t255 _ ?side1 ?side2 A7.out).mono ?_); (case side1 => repeat (first | exact (Kd.C_below HR1.out HB.out) | (with_reducible refine Kd.C_alloc ?_ _) | (with_reducible refine Kd.C_drewN ?_ _) | (with_reducible refine Kd.C_drew ?_))); (case side2 => exact HC1.out); rintro e w26 ⟨v256, rfl, ho0, hb⟩; refine ⟨_, rfl, ?_⟩; have n0_ := Aside0.mk (Kd.R_below (by (with_reducible repeat (first | apply Kd.R_alloc | apply Kd.R_drewN | apply Kd.R_drew)); exact HO245.out) hb); have n1_ := Aside0.mk (Kd.R_below (by (with_reducible repeat (first | apply Kd.R_alloc | apply Kd.R_drewN | apply Kd.R_drew)); exact HO249.out) hb); have n2_ := Aside0.mk (Kd.R_elder' (by (with_reducible repeat (first | apply Kd.R_alloc | apply Kd.R_drewN | apply Kd.R_drew)); exact HO253.out) (Kd.R_base ho0) hb); have n3_ := Aside0.mk (Kd.R_lower (Kd.R_new' ho0 (Kd.R_lt (by (with_reducible repeat (first | apply Kd.R_alloc | apply Kd.R_drewN | apply Kd.R_drew)); exact HO253.out))) (below_size (by repeat (first | (with_reducible first | exact HB.out | apply below_alloc | apply pw_below_drewN | apply below_drew1) | exact HB.out)))); have n4_ := Aside0.mk (below_step (by repeat (first | (with_reducible first | exact HB.out | apply below_alloc | apply pw_below_drewN | apply below_drew1) | exact HB.out)) hb); clear HO245; clear HO249; clear HO253; clear HB; have HO245 := n0_; have HO249 := n1_; have HO253 := n2_; have HO257 := n3_; have HB := n4_; clear n0_ n1_ n2_ n3_ n4_; (try clear hb); (try clear hb2); (try clear hk); (try clear hi); (try clear ho0); have hcv27 := own_string (P := Try.prog) Try.underlying22 Try.underlying5 Try.underlying9 (Kd.own_of_R HO245.out); have hcv28 := own_string (P := Try.prog) Try.underlying22 Try.underlying5 Try.underlying9 (Kd.own_of_R HO249.out); obtain ⟨Ao29, co29, eo29⟩ := Kd.R_slice HO253.out; subst eo29; obtain ⟨Ao30, co30, eo30⟩ := Kd.R_slice HO257.out; subst eo30) | (go_at_call 18; (with_reducible refine (warderref02_Same.calls k _ _ t250 _ _ t254 false _ ?side1 ?side2 ?side3 ?side4 A11.out).mono ?_); (case side1 => repeat (first | exact (Kd.R_reads' HO253.out).2.2 | (with_reducible refine Kd.C_alloc ?_ _) | (with_reducible refine Kd.C_drewN ?_ _) | (with_reducible refine Kd.C_drew ?_))); (case side2 => exact (Kd.R_reads' HO253.out).2.1); (case side3 => repeat (first | exact (Kd.R_reads' HO257.out).2.2 | (with_reducible refine Kd.C_alloc ?_ _) | (with_reducible refine Kd.C_drewN ?_ _) | (with_reducible refine Kd.C_drew ?_))); (case side4 => exact (Kd.R_reads' HO257.out).2.1); rintro e w' ⟨rfl, ⟨nd, rfl⟩⟩))
          go_ret
          exact ⟨by first | rfl | (simp [errW_none, errW_some] <;> rfl) | (simp [*, errW_none, errW_some] <;> rfl), by repeat (first | (with_reducible first | exact HB.out | apply below_alloc | apply pw_below_drewN | apply below_drew1) | exact HB.out)⟩
      · rw [if_neg c10] at H
        have c10b0 : (t243 == t247) = false := beq_eq_false_iff_ne.mpr c10
        have c10b1 : (t243 != t247) = true := bne_iff_ne.mpr c10
        obtain rfl := Option.some.inj H
        go_enter Try.func4, Try.ntmps4
        go_wp2_with (first | ((with_reducible refine gate_callee (f := 9) rfl ?_); refine goesL_ (some 14) rfl rfl Try.func9 (by kernel_rfl) rfl #[] rfl (by (try simp only [List.map_toArray, List.map_cons, List.map_nil]); first | done | rfl | (simp only [List.length_drop, List.length_take]; rfl)) ?_; (with_reducible refine (warderlaw02_head.calls k  true _ A3.out).mono ?_); rintro e w31 ⟨rfl, hb⟩; refine ⟨_, rfl, ?_⟩; have n0_ := Aside0.mk (below_step (by repeat (first | (with_reducible first | exact HB.out | apply below_alloc | apply pw_below_drewN | apply below_drew1) | exact HB.out)) hb); clear HB; have HB := n0_; clear n0_; (try clear hb); (try clear hb2); (try clear hk); (try clear hi)) | ((with_reducible refine gate_callee (f := 14) rfl ?_); refine goesL_ (some 17) rfl rfl Try.func14 (by kernel_rfl) rfl #[.slice A0 l0.length c0] rfl (by (try simp only [List.map_toArray, List.map_cons, List.map_nil]); first | done | rfl | (simp only [List.length_drop, List.length_take]; rfl)) ?_; (with_reducible refine (ints_PutOID.calls k _ _ l0 t242 t243 _ ?side1 ?side2 A4.out).mono ?_); (case side1 => repeat (first | exact (Kd.C_below HR0.out HB.out) | (with_reducible refine Kd.C_alloc ?_ _) | (with_reducible refine Kd.C_drewN ?_ _) | (with_reducible refine Kd.C_drew ?_))); (case side2 => exact HC0.out); rintro e w32 ⟨v244, rfl, ho0, hb⟩; refine ⟨_, rfl, ?_⟩; have n0_ := Aside0.mk (Kd.R_lower ho0 (below_size (by repeat (first | (with_reducible first | exact HB.out | apply below_alloc | apply pw_below_drewN | apply below_drew1) | exact HB.out)))); have n1_ := Aside0.mk (below_step (by repeat (first | (with_reducible first | exact HB.out | apply below_alloc | apply pw_below_drewN | apply below_drew1) | exact HB.out)) hb); clear HB; have HO245 := n0_; have HB := n1_; clear n0_ n1_; (try clear hb); (try clear hb2); (try clear hk); (try clear hi); (try clear ho0)) | ((with_reducible refine gate_callee (f := 15) rfl ?_); refine goesL_ (some 22) rfl rfl Try.func15 (by kernel_rfl) rfl #[.slice A0 l0.length c0] rfl (by (try simp only [List.map_toArray, List.map_cons, List.map_nil]); first | done | rfl | (simp only [List.length_drop, List.length_take]; rfl)) ?_; (with_reducible refine (warderref02_PutOID.calls k _ _ l0 t246 t247 _ ?side1 ?side2 A5.out).mono ?_); (case side1 => repeat (first | exact (Kd.C_below HR0.out HB.out) | (with_reducible refine Kd.C_alloc ?_ _) | (with_reducible refine Kd.C_drewN ?_ _) | (with_reducible refine Kd.C_drew ?_))); (case side2 => exact HC0.out); rintro e w33 ⟨v248, rfl, ho0, hb⟩; refine ⟨_, rfl, ?_⟩; have n0_ := Aside0.mk (Kd.R_elder' (by (with_reducible repeat (first | apply Kd.R_alloc | apply Kd.R_drewN | apply Kd.R_drew)); exact HO245.out) (Kd.R_base ho0) hb); have n1_ := Aside0.mk (Kd.R_lower (Kd.R_new' ho0 (Kd.R_lt (by (with_reducible repeat (first | apply Kd.R_alloc | apply Kd.R_drewN | apply Kd.R_drew)); exact HO245.out))) (below_size (by repeat (first | (with_reducible first | exact HB.out | apply below_alloc | apply pw_below_drewN | apply below_drew1) | exact HB.out)))); have n2_ := Aside0.mk (below_step (by repeat (first | (with_reducible first | exact HB.out | apply below_alloc | apply pw_below_drewN | apply below_drew1) | exact HB.out)) hb); clear HO245; clear HB; have HO245 := n0_; have HO249 := n1_; have HB := n2_; clear n0_ n1_ n2_; (try clear hb); (try clear hb2); (try clear hk); (try clear hi); (try clear ho0)) | ((with_reducible refine gate_callee (f := 16) rfl ?_); refine goesL_ (some 27) rfl rfl Try.func16 (by kernel_rfl) rfl #[.slice A1 l1.length c1] rfl (by (try simp only [List.map_toArray, List.map_cons, List.map_nil]); first | done | rfl | (simp only [List.length_drop, List.length_take]; rfl)) ?_; (with_reducible refine (ints_OID.calls k _ _ l1 t250 t251 _ ?side1 ?side2 A6.out).mono ?_); (case side1 => repeat (first | exact (Kd.C_below HR1.out HB.out) | (with_reducible refine Kd.C_alloc ?_ _) | (with_reducible refine Kd.C_drewN ?_ _) | (with_reducible refine Kd.C_drew ?_))); (case side2 => exact HC1.out); rintro e w34 ⟨v252, rfl, ho0, hb⟩; refine ⟨_, rfl, ?_⟩; have n0_ := Aside0.mk (Kd.R_below (by (with_reducible repeat (first | apply Kd.R_alloc | apply Kd.R_drewN | apply Kd.R_drew)); exact HO245.out) hb); have n1_ := Aside0.mk (Kd.R_below (by (with_reducible repeat (first | apply Kd.R_alloc | apply Kd.R_drewN | apply Kd.R_drew)); exact HO249.out) hb); have n2_ := Aside0.mk (Kd.R_lower ho0 (below_size (by repeat (first | (with_reducible first | exact HB.out | apply below_alloc | apply pw_below_drewN | apply below_drew1) | exact HB.out)))); have n3_ := Aside0.mk (below_step (by repeat (first | (with_reducible first | exact HB.out | apply below_alloc | apply pw_below_drewN | apply below_drew1) | exact HB.out)) hb); clear HO245; clear HO249; clear HB; have HO245 := n0_; have HO249 := n1_; have HO253 := n2_; have HB := n3_; clear n0_ n1_ n2_ n3_; (try clear hb); (try clear hb2); (try clear hk); (try clear hi); (try clear ho0)) | ((with_reducible refine gate_callee (f := 17) rfl ?_); refine goesL_ (some 32) rfl rfl Try.func17 (by kernel_rfl) rfl #[.slice A1 l1.length c1] rfl (by (try simp only [List.map_toArray, List.map_cons, List.map_nil]); first | done | rfl | (simp only [List.length_drop, List.length_take]; rfl)) ?_; (with_reducible refine (warderref02_OID.calls k _ _ l1 t254 t255 _ ?side1 ?side2 A7.out).mono ?_); (case side1 => repeat (first | exact (Kd.C_below HR1.out HB.out) | (with_reducible refine Kd.C_alloc ?_ _) | (with_reducible refine Kd.C_drewN ?_ _) | (with_reducible refine Kd.C_drew ?_))); (case side2 => exact HC1.out); rintro e w35 ⟨v256, rfl, ho0, hb⟩; refine ⟨_, rfl, ?_⟩; have n0_ := Aside0.mk (Kd.R_below (by (with_reducible repeat (first | apply Kd.R_alloc | apply Kd.R_drewN | apply Kd.R_drew)); exact HO245.out) hb); have n1_ := Aside0.mk (Kd.R_below (by (with_reducible repeat (first | apply Kd.R_alloc | apply Kd.R_drewN | apply Kd.R_drew)); exact HO249.out) hb); have n2_ := Aside0.mk (Kd.R_elder' (by (with_reducible repeat (first | apply Kd.R_alloc | apply Kd.R_drewN | apply Kd.R_drew)); exact HO253.out) (Kd.R_base ho0) hb); have n3_ := Aside0.mk (Kd.R_lower (Kd.R_new' ho0 (Kd.R_lt (by (with_reducible repeat (first | apply Kd.R_alloc | apply Kd.R_drewN | apply Kd.R_drew)); exact HO253.out))) (below_size (by repeat (first | (with_reducible first | exact HB.out | apply below_alloc | apply pw_below_drewN | apply below_drew1) | exact HB.out)))); have n4_ := Aside0.mk (below_step (by repeat (first | (with_reducible first | exact HB.out | apply below_alloc | apply pw_below_drewN | apply below_drew1) | exact HB.out)) hb); clear HO245; clear HO249; clear HO253; clear HB; have HO245 := n0_; have HO249 := n1_; have HO253 := n2_; have HO257 := n3_; have HB := n4_; clear n0_ n1_ n2_ n3_ n4_; (try clear hb); (try clear hb2); (try clear hk); (try clear hi); (try clear ho0); have hcv36 := own_string (P := Try.prog) Try.underlying22 Try.underlying5 Try.underlying9 (Kd.own_of_R HO245.out); have hcv37 := own_string (P := Try.prog) Try.underlying22 Try.underlying5 Try.underlying9 (Kd.own_of_R HO249.out)))
        go_ret
        exact ⟨by first | rfl | (simp [errW_none, errW_some] <;> rfl) | (simp [*, errW_none, errW_some] <;> rfl), by repeat (first | (with_reducible first | exact HB.out | apply below_alloc | apply pw_below_drewN | apply below_drew1) | exact HB.out)⟩
    · rw [if_neg c9] at H
      have c9b0 : ((strOfNums t242).toList == (strOfNums t246).toList) = false := beq_eq_false_iff_ne.mpr c9
      have c9b1 : ((strOfNums t242).toList != (strOfNums t246).toList) = true := bne_iff_ne.mpr c9
      obtain rfl := Option.some.inj H
      go_enter Try.func4, Try.ntmps4
      go_wp2_with (first | ((with_reducible refine gate_callee (f := 9) rfl ?_); refine goesL_ (some 14) rfl rfl Try.func9 (by kernel_rfl) rfl #[] rfl (by (try simp only [List.map_toArray, List.map_cons, List.map_nil]); first | done | rfl | (simp only [List.length_drop, List.length_take]; rfl)) ?_; (with_reducible refine (warderlaw02_head.calls k  true _ A3.out).mono ?_); rintro e w38 ⟨rfl, hb⟩; refine ⟨_, rfl, ?_⟩; have n0_ := Aside0.mk (below_step (by repeat (first | (with_reducible first | exact HB.out | apply below_alloc | apply pw_below_drewN | apply below_drew1) | exact HB.out)) hb); clear HB; have HB := n0_; clear n0_; (try clear hb); (try clear hb2); (try clear hk); (try clear hi)) | ((with_reducible refine gate_callee (f := 14) rfl ?_); refine goesL_ (some 17) rfl rfl Try.func14 (by kernel_rfl) rfl #[.slice A0 l0.length c0] rfl (by (try simp only [List.map_toArray, List.map_cons, List.map_nil]); first | done | rfl | (simp only [List.length_drop, List.length_take]; rfl)) ?_; (with_reducible refine (ints_PutOID.calls k _ _ l0 t242 t243 _ ?side1 ?side2 A4.out).mono ?_); (case side1 => repeat (first | exact (Kd.C_below HR0.out HB.out) | (with_reducible refine Kd.C_alloc ?_ _) | (with_reducible refine Kd.C_drewN ?_ _) | (with_reducible refine Kd.C_drew ?_))); (case side2 => exact HC0.out); rintro e w39 ⟨v244, rfl, ho0, hb⟩; refine ⟨_, rfl, ?_⟩; have n0_ := Aside0.mk (Kd.R_lower ho0 (below_size (by repeat (first | (with_reducible first | exact HB.out | apply below_alloc | apply pw_below_drewN | apply below_drew1) | exact HB.out)))); have n1_ := Aside0.mk (below_step (by repeat (first | (with_reducible first | exact HB.out | apply below_alloc | apply pw_below_drewN | apply below_drew1) | exact HB.out)) hb); clear HB; have HO245 := n0_; have HB := n1_; clear n0_ n1_; (try clear hb); (try clear hb2); (try clear hk); (try clear hi); (try clear ho0)) | ((with_reducible refine gate_callee (f := 15) rfl ?_); refine goesL_ (some 22) rfl rfl Try.func15 (by kernel_rfl) rfl #[.slice A0 l0.length c0] rfl (by (try simp only [List.map_toArray, List.map_cons, List.map_nil]); first | done | rfl | (simp only [List.length_drop, List.length_take]; rfl)) ?_; (with_reducible refine (warderref02_PutOID.calls k _ _ l0 t246 t247 _ ?side1 ?side2 A5.out).mono ?_); (case side1 => repeat (first | exact (Kd.C_below HR0.out HB.out) | (with_reducible refine Kd.C_alloc ?_ _) | (with_reducible refine Kd.C_drewN ?_ _) | (with_reducible refine Kd.C_drew ?_))); (case side2 => exact HC0.out); rintro e w40 ⟨v248, rfl, ho0, hb⟩; refine ⟨_, rfl, ?_⟩; have n0_ := Aside0.mk (Kd.R_elder' (by (with_reducible repeat (first | apply Kd.R_alloc | apply Kd.R_drewN | apply Kd.R_drew)); exact HO245.out) (Kd.R_base ho0) hb); have n1_ := Aside0.mk (Kd.R_lower (Kd.R_new' ho0 (Kd.R_lt (by (with_reducible repeat (first | apply Kd.R_alloc | apply Kd.R_drewN | apply Kd.R_drew)); exact HO245.out))) (below_size (by repeat (first | (with_reducible first | exact HB.out | apply below_alloc | apply pw_below_drewN | apply below_drew1) | exact HB.out)))); have n2_ := Aside0.mk (below_step (by repeat (first | (with_reducible first | exact HB.out | apply below_alloc | apply pw_below_drewN | apply below_drew1) | exact HB.out)) hb); clear HO245; clear HB; have HO245 := n0_; have HO249 := n1_; have HB := n2_; clear n0_ n1_ n2_; (try clear hb); (try clear hb2); (try clear hk); (try clear hi); (try clear ho0)) | ((with_reducible refine gate_callee (f := 16) rfl ?_); refine goesL_ (some 27) rfl rfl Try.func16 (by kernel_rfl) rfl #[.slice A1 l1.length c1] rfl (by (try simp only [List.map_toArray, List.map_cons, List.map_nil]); first | done | rfl | (simp only [List.length_drop, List.length_take]; rfl)) ?_; (with_reducible refine (ints_OID.calls k _ _ l1 t250 t251 _ ?side1 ?side2 A6.out).mono ?_); (case side1 => repeat (first | exact (Kd.C_below HR1.out HB.out) | (with_reducible refine Kd.C_alloc ?_ _) | (with_reducible refine Kd.C_drewN ?_ _) | (with_reducible refine Kd.C_drew ?_))); (case side2 => exact HC1.out); rintro e w41 ⟨v252, rfl, ho0, hb⟩; refine ⟨_, rfl, ?_⟩; have n0_ := Aside0.mk (Kd.R_below (by (with_reducible repeat (first | apply Kd.R_alloc | apply Kd.R_drewN | apply Kd.R_drew)); exact HO245.out) hb); have n1_ := Aside0.mk (Kd.R_below (by (with_reducible repeat (first | apply Kd.R_alloc | apply Kd.R_drewN | apply Kd.R_drew)); exact HO249.out) hb); have n2_ := Aside0.mk (Kd.R_lower ho0 (below_size (by repeat (first | (with_reducible first | exact HB.out | apply below_alloc | apply pw_below_drewN | apply below_drew1) | exact HB.out)))); have n3_ := Aside0.mk (below_step (by repeat (first | (with_reducible first | exact HB.out | apply below_alloc | apply pw_below_drewN | apply below_drew1) | exact HB.out)) hb); clear HO245; clear HO249; clear HB; have HO245 := n0_; have HO249 := n1_; have HO253 := n2_; have HB := n3_; clear n0_ n1_ n2_ n3_; (try clear hb); (try clear hb2); (try clear hk); (try clear hi); (try clear ho0)) | ((with_reducible refine gate_callee (f := 17) rfl ?_); refine goesL_ (some 32) rfl rfl Try.func17 (by kernel_rfl) rfl #[.slice A1 l1.length c1] rfl (by (try simp only [List.map_toArray, List.map_cons, List.map_nil]); first | done | rfl | (simp only [List.length_drop, List.length_take]; rfl)) ?_; (with_reducible refine (warderref02_OID.calls k _ _ l1 t254 t255 _ ?side1 ?side2 A7.out).mono ?_); (case side1 => repeat (first | exact (Kd.C_below HR1.out HB.out) | (with_reducible refine Kd.C_alloc ?_ _) | (with_reducible refine Kd.C_drewN ?_ _) | (with_reducible refine Kd.C_drew ?_))); (case side2 => exact HC1.out); rintro e w42 ⟨v256, rfl, ho0, hb⟩; refine ⟨_, rfl, ?_⟩; have n0_ := Aside0.mk (Kd.R_below (by (with_reducible repeat (first | apply Kd.R_alloc | apply Kd.R_drewN | apply Kd.R_drew)); exact HO245.out) hb); have n1_ := Aside0.mk (Kd.R_below (by (with_reducible repeat (first | apply Kd.R_alloc | apply Kd.R_drewN | apply Kd.R_drew)); exact HO249.out) hb); have n2_ := Aside0.mk (Kd.R_elder' (by (with_reducible repeat (first | apply Kd.R_alloc | apply Kd.R_drewN | apply Kd.R_drew)); exact HO253.out) (Kd.R_base ho0) hb); have n3_ := Aside0.mk (Kd.R_lower (Kd.R_new' ho0 (Kd.R_lt (by (with_reducible repeat (first | apply Kd.R_alloc | apply Kd.R_drewN | apply Kd.R_drew)); exact HO253.out))) (below_size (by repeat (first | (with_reducible first | exact HB.out | apply below_alloc | apply pw_below_drewN | apply below_drew1) | exact HB.out)))); have n4_ := Aside0.mk (below_step (by repeat (first | (with_reducible first | exact HB.out | apply below_alloc | apply pw_below_drewN | apply below_drew1) | exact HB.out)) hb); clear HO245; clear HO249; clear HO253; clear HB; have HO245 := n0_; have HO249 := n1_; have HO253 := n2_; have HO257 := n3_; have HB := n4_; clear n0_ n1_ n2_ n3_ n4_; (try clear hb); (try clear hb2); (try clear hk); (try clear hi); (try clear ho0); have hcv43 := own_string (P := Try.prog) Try.underlying22 Try.underlying5 Try.underlying9 (Kd.own_of_R HO245.out); have hcv44 := own_string (P := Try.prog) Try.underlying22 Try.underlying5 Try.underlying9 (Kd.own_of_R HO249.out)))
      go_ret
      exact ⟨by first | rfl | (simp [errW_none, errW_some] <;> rfl) | (simp [*, errW_none, errW_some] <;> rfl), by repeat (first | (with_reducible first | exact HB.out | apply below_alloc | apply pw_below_drewN | apply below_drew1) | exact HB.out)⟩
  · replace c8 := Bool.eq_false_iff.mpr c8
    subst c8
    have H1 : (some false) = some r := by rw [if_neg (show ¬ (false = true) by decide)] at H; exact H
    clear H
    have H := H1
    clear H1
    obtain rfl := Option.some.inj H
    go_enter Try.func4, Try.ntmps4
    go_wp2_with (first | ((with_reducible refine gate_callee (f := 9) rfl ?_); refine goesL_ (some 14) rfl rfl Try.func9 (by kernel_rfl) rfl #[] rfl (by (try simp only [List.map_toArray, List.map_cons, List.map_nil]); first | done | rfl | (simp only [List.length_drop, List.length_take]; rfl)) ?_; (with_reducible refine (warderlaw02_head.calls k  false _ A3.out).mono ?_); rintro e w45 ⟨rfl, hb⟩; refine ⟨_, rfl, ?_⟩; have n0_ := Aside0.mk (below_step (by repeat (first | (with_reducible first | exact HB.out | apply below_alloc | apply pw_below_drewN | apply below_drew1) | exact HB.out)) hb); clear HB; have HB := n0_; clear n0_; (try clear hb); (try clear hb2); (try clear hk); (try clear hi)) | ((with_reducible refine gate_callee (f := 14) rfl ?_); refine goesL_ (some 17) rfl rfl Try.func14 (by kernel_rfl) rfl #[.slice A0 l0.length c0] rfl (by (try simp only [List.map_toArray, List.map_cons, List.map_nil]); first | done | rfl | (simp only [List.length_drop, List.length_take]; rfl)) ?_; (with_reducible refine (ints_PutOID.calls k _ _ l0 t242 t243 _ ?side1 ?side2 A4.out).mono ?_); (case side1 => repeat (first | exact (Kd.C_below HR0.out HB.out) | (with_reducible refine Kd.C_alloc ?_ _) | (with_reducible refine Kd.C_drewN ?_ _) | (with_reducible refine Kd.C_drew ?_))); (case side2 => exact HC0.out); rintro e w46 ⟨v244, rfl, ho0, hb⟩; refine ⟨_, rfl, ?_⟩; have n0_ := Aside0.mk (Kd.R_lower ho0 (below_size (by repeat (first | (with_reducible first | exact HB.out | apply below_alloc | apply pw_below_drewN | apply below_drew1) | exact HB.out)))); have n1_ := Aside0.mk (below_step (by repeat (first | (with_reducible first | exact HB.out | apply below_alloc | apply pw_below_drewN | apply below_drew1) | exact HB.out)) hb); clear HB; have HO245 := n0_; have HB := n1_; clear n0_ n1_; (try clear hb); (try clear hb2); (try clear hk); (try clear hi); (try clear ho0)) | ((with_reducible refine gate_callee (f := 15) rfl ?_); refine goesL_ (some 22) rfl rfl Try.func15 (by kernel_rfl) rfl #[.slice A0 l0.length c0] rfl (by (try simp only [List.map_toArray, List.map_cons, List.map_nil]); first | done | rfl | (simp only [List.length_drop, List.length_take]; rfl)) ?_; (with_reducible refine (warderref02_PutOID.calls k _ _ l0 t246 t247 _ ?side1 ?side2 A5.out).mono ?_); (case side1 => repeat (first | exact (Kd.C_below HR0.out HB.out) | (with_reducible refine Kd.C_alloc ?_ _) | (with_reducible refine Kd.C_drewN ?_ _) | (with_reducible refine Kd.C_drew ?_))); (case side2 => exact HC0.out); rintro e w47 ⟨v248, rfl, ho0, hb⟩; refine ⟨_, rfl, ?_⟩; have n0_ := Aside0.mk (Kd.R_elder' (by (with_reducible repeat (first | apply Kd.R_alloc | apply Kd.R_drewN | apply Kd.R_drew)); exact HO245.out) (Kd.R_base ho0) hb); have n1_ := Aside0.mk (Kd.R_lower (Kd.R_new' ho0 (Kd.R_lt (by (with_reducible repeat (first | apply Kd.R_alloc | apply Kd.R_drewN | apply Kd.R_drew)); exact HO245.out))) (below_size (by repeat (first | (with_reducible first | exact HB.out | apply below_alloc | apply pw_below_drewN | apply below_drew1) | exact HB.out)))); have n2_ := Aside0.mk (below_step (by repeat (first | (with_reducible first | exact HB.out | apply below_alloc | apply pw_below_drewN | apply below_drew1) | exact HB.out)) hb); clear HO245; clear HB; have HO245 := n0_; have HO249 := n1_; have HB := n2_; clear n0_ n1_ n2_; (try clear hb); (try clear hb2); (try clear hk); (try clear hi); (try clear ho0)) | ((with_reducible refine gate_callee (f := 16) rfl ?_); refine goesL_ (some 27) rfl rfl Try.func16 (by kernel_rfl) rfl #[.slice A1 l1.length c1] rfl (by (try simp only [List.map_toArray, List.map_cons, List.map_nil]); first | done | rfl | (simp only [List.length_drop, List.length_take]; rfl)) ?_; (with_reducible refine (ints_OID.calls k _ _ l1 t250 t251 _ ?side1 ?side2 A6.out).mono ?_); (case side1 => repeat (first | exact (Kd.C_below HR1.out HB.out) | (with_reducible refine Kd.C_alloc ?_ _) | (with_reducible refine Kd.C_drewN ?_ _) | (with_reducible refine Kd.C_drew ?_))); (case side2 => exact HC1.out); rintro e w48 ⟨v252, rfl, ho0, hb⟩; refine ⟨_, rfl, ?_⟩; have n0_ := Aside0.mk (Kd.R_below (by (with_reducible repeat (first | apply Kd.R_alloc | apply Kd.R_drewN | apply Kd.R_drew)); exact HO245.out) hb); have n1_ := Aside0.mk (Kd.R_below (by (with_reducible repeat (first | apply Kd.R_alloc | apply Kd.R_drewN | apply Kd.R_drew)); exact HO249.out) hb); have n2_ := Aside0.mk (Kd.R_lower ho0 (below_size (by repeat (first | (with_reducible first | exact HB.out | apply below_alloc | apply pw_below_drewN | apply below_drew1) | exact HB.out)))); have n3_ := Aside0.mk (below_step (by repeat (first | (with_reducible first | exact HB.out | apply below_alloc | apply pw_below_drewN | apply below_drew1) | exact HB.out)) hb); clear HO245; clear HO249; clear HB; have HO245 := n0_; have HO249 := n1_; have HO253 := n2_; have HB := n3_; clear n0_ n1_ n2_ n3_; (try clear hb); (try clear hb2); (try clear hk); (try clear hi); (try clear ho0)) | ((with_reducible refine gate_callee (f := 17) rfl ?_); refine goesL_ (some 32) rfl rfl Try.func17 (by kernel_rfl) rfl #[.slice A1 l1.length c1] rfl (by (try simp only [List.map_toArray, List.map_cons, List.map_nil]); first | done | rfl | (simp only [List.length_drop, List.length_take]; rfl)) ?_; (with_reducible refine (warderref02_OID.calls k _ _ l1 t254 t255 _ ?side1 ?side2 A7.out).mono ?_); (case side1 => repeat (first | exact (Kd.C_below HR1.out HB.out) | (with_reducible refine Kd.C_alloc ?_ _) | (with_reducible refine Kd.C_drewN ?_ _) | (with_reducible refine Kd.C_drew ?_))); (case side2 => exact HC1.out); rintro e w49 ⟨v256, rfl, ho0, hb⟩; refine ⟨_, rfl, ?_⟩; have n0_ := Aside0.mk (Kd.R_below (by (with_reducible repeat (first | apply Kd.R_alloc | apply Kd.R_drewN | apply Kd.R_drew)); exact HO245.out) hb); have n1_ := Aside0.mk (Kd.R_below (by (with_reducible repeat (first | apply Kd.R_alloc | apply Kd.R_drewN | apply Kd.R_drew)); exact HO249.out) hb); have n2_ := Aside0.mk (Kd.R_elder' (by (with_reducible repeat (first | apply Kd.R_alloc | apply Kd.R_drewN | apply Kd.R_drew)); exact HO253.out) (Kd.R_base ho0) hb); have n3_ := Aside0.mk (Kd.R_lower (Kd.R_new' ho0 (Kd.R_lt (by (with_reducible repeat (first | apply Kd.R_alloc | apply Kd.R_drewN | apply Kd.R_drew)); exact HO253.out))) (below_size (by repeat (first | (with_reducible first | exact HB.out | apply below_alloc | apply pw_below_drewN | apply below_drew1) | exact HB.out)))); have n4_ := Aside0.mk (below_step (by repeat (first | (with_reducible first | exact HB.out | apply below_alloc | apply pw_below_drewN | apply below_drew1) | exact HB.out)) hb); clear HO245; clear HO249; clear HO253; clear HB; have HO245 := n0_; have HO249 := n1_; have HO253 := n2_; have HO257 := n3_; have HB := n4_; clear n0_ n1_ n2_ n3_ n4_; (try clear hb); (try clear hb2); (try clear hk); (try clear hi); (try clear ho0)))
    go_ret
    exact ⟨by first | rfl | (simp [errW_none, errW_some] <;> rfl) | (simp [*, errW_none, errW_some] <;> rfl), by repeat (first | (with_reducible first | exact HB.out | apply below_alloc | apply pw_below_drewN | apply below_drew1) | exact HB.out)⟩

/-- THE ONE PURE STATEMENT of warderlaw02_IntsObjects: yours. -/
def warderlaw02_IntsObjects.Pure : Prop := ∀ (l0 : List Int) (l1 : List Int), l0.length ≤ maxLen → l0.length * 8 ≤ 140737488351232 → (∀ x ∈ l0, (Lit.int .i64 x).wf = true) → l1.length ≤ maxLen → l1.length * 1 ≤ 140737488351232 → (∀ x ∈ l1, (Lit.int .u8 x).wf = true) → ∃ k, warderlaw02_IntsObjects.f k l0 l1 = some true
theorem warderlaw02_IntsObjects.walk (P : warderlaw02_IntsObjects.Pure) (a0 : Option Addr) (len0 cap0 : Nat) (z0 : List Int) (a1 : Option Addr) (len1 cap1 : Nat) (z1 : List Int) (w : World) (w0 : (a0 = none ∧ len0 = 0 ∧ cap0 = 0 ∧ z0 = []) ∨ ∃ x, a0 = some x ∧ len0 ≤ cap0 ∧ cap0 ≤ maxLen ∧ z0.length = cap0 ∧ (∀ i, i < z0.length → w.cell? (x.add i) = some (.int .i64 (z0.getD i 0))) ∧ ∀ n ∈ z0, (Lit.int .i64 n).wf = true) (y0 : len0 * 8 ≤ 140737488351232) (w1 : (a1 = none ∧ len1 = 0 ∧ cap1 = 0 ∧ z1 = []) ∨ ∃ x, a1 = some x ∧ len1 ≤ cap1 ∧ cap1 ≤ maxLen ∧ z1.length = cap1 ∧ (∀ i, i < z1.length → w.cell? (x.add i) = some (.int .u8 (z1.getD i 0))) ∧ ∀ n ∈ z1, (Lit.int .u8 n).wf = true) (y1 : len1 * 1 ≤ 140737488351232) :
    Calls Try.prog 4 #[.slice a0 len0 cap0, .slice a1 len1 cap1] w fun e w' => e = .returned (.bool true) ∧ Below w.heap.size w w' := by
  obtain ⟨l0, rfl, hr0, hm0, hw0, hc0⟩ := ReadsInt.ofRowC w0
  obtain ⟨l1, rfl, hr1, hm1, hw1, hc1⟩ := ReadsInt.ofRowC w1
  obtain ⟨k, h⟩ := P l0 l1 hm0 y0 hw0 hm1 y1 hw1
  refine (warderlaw02_IntsObjects.calls k _ _ l0 _ _ l1 true w (Kd.C_of_reads (d := (0 : Int)) (h1 := fun _ => rfl) hr0) hc0 (Kd.C_of_reads (d := (0 : Int)) (h1 := fun _ => rfl) hr1) hc1 h).mono ?_
  rintro e w' ⟨rfl, hd⟩
  exact ⟨rfl, hd⟩

/-! ### warderlaw02_IntsOrder: function 5 -/
def warderlaw02_IntsOrder.j0 : Nat → Int → Int → Bool → List Int → List Int → Bool → Option (Bool)
  | 0, _, _, _, _, _, _ => none
  | k + 1, x0, x1, x5, x6, x7, x30 => if x30 = true then (some false) else (if x0 ≥ 0 then (if x1 ≥ 0 then (if (x6.length : Int) = (x7.length : Int) then (if ((decide (x0 < x1)) != (Op.bytesLess ((strOfNums x6).toList) ((strOfNums x7).toList))) = true then (some false) else (if x5 = true then (if (x6.length : Int) < (x7.length : Int) then (if x0 ≥ x1 then (some false) else (if x0 < 0 then (if x1 < 0 then (some (!(decide (x0 ≤ x1)))) else (some (!false))) else (some (!false)))) else (if x0 < 0 then (if x1 < 0 then (some (!false)) else (some (!false))) else (some (!false)))) else (some false))) else (if x5 = true then (if (x6.length : Int) < (x7.length : Int) then (if x0 ≥ x1 then (some false) else (if x0 < 0 then (if x1 < 0 then (some (!(decide (x0 ≤ x1)))) else (some (!false))) else (some (!false)))) else (if x0 < 0 then (if x1 < 0 then (some (!false)) else (some (!false))) else (some (!false)))) else (some false))) else (if x5 = true then (if x0 < 0 then (if x1 < 0 then (if (x6.length : Int) < (x7.length : Int) then (some (!(decide (x0 ≤ x1)))) else (some (!false))) else (some (!false))) else (some (!false))) else (some false))) else (if x5 = true then (if x0 < 0 then (if x1 < 0 then (if (x6.length : Int) < (x7.length : Int) then (some (!(decide (x0 ≤ x1)))) else (some (!false))) else (some (!false))) else (some (!false))) else (some false)))
def warderlaw02_IntsOrder.f (k : Nat) (a0 : Int) (a1 : Int) : Option (Bool) := (warderlaw02_head.f k).bind fun t259 => ((ints_PutInt.f k a0).bind fun t260 => ((ints_PutInt.f k a1).bind fun t263 => (if (t260.length : Int) < 1 then (warderlaw02_IntsOrder.j0 k a0 a1 t259 t260 t263 true) else (if (t263.length : Int) < 1 then (warderlaw02_IntsOrder.j0 k a0 a1 t259 t260 t263 true) else (if (t260.length : Int) > 8 then (warderlaw02_IntsOrder.j0 k a0 a1 t259 t260 t263 true) else (warderlaw02_IntsOrder.j0 k a0 a1 t259 t260 t263 (decide ((t263.length : Int) > 8))))))))
theorem warderlaw02_IntsOrder.mono_l : ∀ k, (∀ y0 y1 y2 y3 y4 y5, LeO (warderlaw02_IntsOrder.j0 k y0 y1 y2 y3 y4 y5) (warderlaw02_IntsOrder.j0 (k + 1) y0 y1 y2 y3 y4 y5))
  | 0 => fun _ _ _ _ _ _ r h => by simp [warderlaw02_IntsOrder.j0] at h
  | k + 1 => by
    have ih0 := warderlaw02_IntsOrder.mono_l k
    · intro y0 y1 y2 y3 y4 y5
      unfold warderlaw02_IntsOrder.j0
      repeat' first
      | (with_reducible exact ih0 _ _ _ _ _ _)
      | (with_reducible exact ints_PutInt.mono _ _)
      | (with_reducible exact warderlaw02_head.mono _)
      | (with_reducible exact LeO.refl _)
      | (with_reducible exact LeO.none _)
      | (with_reducible refine LeO.ite ?_ ?_)
      | (with_reducible refine LeO.bind ?_ (fun _ => ?_))
      | exact ih0 _ _ _ _ _ _
      | exact ints_PutInt.mono _ _
      | exact warderlaw02_head.mono _
      | exact LeO.none _
      | refine LeO.ite ?_ ?_
      | refine LeO.bind ?_ (fun _ => ?_)
theorem warderlaw02_IntsOrder.mono : ∀ a0 a1 k, LeO (warderlaw02_IntsOrder.f k a0 a1) (warderlaw02_IntsOrder.f (k + 1) a0 a1) := by
  intro a0 a1 k
  have ih0 := warderlaw02_IntsOrder.mono_l k
  unfold warderlaw02_IntsOrder.f
  repeat' first
      | (with_reducible exact ih0 _ _ _ _ _ _)
      | (with_reducible exact ints_PutInt.mono _ _)
      | (with_reducible exact warderlaw02_head.mono _)
      | (with_reducible exact LeO.refl _)
      | (with_reducible exact LeO.none _)
      | (with_reducible refine LeO.ite ?_ ?_)
      | (with_reducible refine LeO.bind ?_ (fun _ => ?_))
      | exact ih0 _ _ _ _ _ _
      | exact ints_PutInt.mono _ _
      | exact warderlaw02_head.mono _
      | exact LeO.none _
      | refine LeO.ite ?_ ?_
      | refine LeO.bind ?_ (fun _ => ?_)
set_option maxHeartbeats 8000000 in
set_option maxRecDepth 100000 in
theorem warderlaw02_IntsOrder.calls (k : Nat) (a0 : Int) (a1 : Int) (r : Bool) (w : World) (h : warderlaw02_IntsOrder.f k a0 a1 = some r) :
    Calls Try.prog 5 #[.int .i64 a0, .int .i64 a1] w fun e w' => e = .returned (.bool r) ∧ Below w.heap.size w w' := by
  have HB := Aside0.mk (Below.refl w.heap.size w)
  have H : ((warderlaw02_head.f k).bind fun t259 => ((ints_PutInt.f k a0).bind fun t260 => ((ints_PutInt.f k a1).bind fun t263 => (if (t260.length : Int) < 1 then (warderlaw02_IntsOrder.j0 k a0 a1 t259 t260 t263 true) else (if (t263.length : Int) < 1 then (warderlaw02_IntsOrder.j0 k a0 a1 t259 t260 t263 true) else (if (t260.length : Int) > 8 then (warderlaw02_IntsOrder.j0 k a0 a1 t259 t260 t263 true) else (warderlaw02_IntsOrder.j0 k a0 a1 t259 t260 t263 (decide ((t263.length : Int) > 8))))))))) = some r := h
  clear h
  replace H := Option.bind_eq_some_iff.mp H
  obtain ⟨t259, A30, H⟩ := H
  replace H : ((ints_PutInt.f k a0).bind fun t260 => ((ints_PutInt.f k a1).bind fun t263 => (if (t260.length : Int) < 1 then (warderlaw02_IntsOrder.j0 k a0 a1 t259 t260 t263 true) else (if (t263.length : Int) < 1 then (warderlaw02_IntsOrder.j0 k a0 a1 t259 t260 t263 true) else (if (t260.length : Int) > 8 then (warderlaw02_IntsOrder.j0 k a0 a1 t259 t260 t263 true) else (warderlaw02_IntsOrder.j0 k a0 a1 t259 t260 t263 (decide ((t263.length : Int) > 8)))))))) = some r := H
  have A3 := Aside0.mk A30
  clear A30
  replace H := Option.bind_eq_some_iff.mp H
  obtain ⟨t260, A40, H⟩ := H
  replace H : ((ints_PutInt.f k a1).bind fun t263 => (if (t260.length : Int) < 1 then (warderlaw02_IntsOrder.j0 k a0 a1 t259 t260 t263 true) else (if (t263.length : Int) < 1 then (warderlaw02_IntsOrder.j0 k a0 a1 t259 t260 t263 true) else (if (t260.length : Int) > 8 then (warderlaw02_IntsOrder.j0 k a0 a1 t259 t260 t263 true) else (warderlaw02_IntsOrder.j0 k a0 a1 t259 t260 t263 (decide ((t263.length : Int) > 8))))))) = some r := H
  have A4 := Aside0.mk A40
  clear A40
  replace H := Option.bind_eq_some_iff.mp H
  obtain ⟨t263, A50, H⟩ := H
  replace H : (if (t260.length : Int) < 1 then (warderlaw02_IntsOrder.j0 k a0 a1 t259 t260 t263 true) else (if (t263.length : Int) < 1 then (warderlaw02_IntsOrder.j0 k a0 a1 t259 t260 t263 true) else (if (t260.length : Int) > 8 then (warderlaw02_IntsOrder.j0 k a0 a1 t259 t260 t263 true) else (warderlaw02_IntsOrder.j0 k a0 a1 t259 t260 t263 (decide ((t263.length : Int) > 8)))))) = some r := H
  have A5 := Aside0.mk A50
  clear A50
  have HC6 := Aside0.mk H
  clear H
  go_enter Try.func5, Try.ntmps5
  go_upto_region 4 with (first | ((with_reducible refine gate_callee (f := 9) rfl ?_); refine goesL_ (some 8) rfl rfl Try.func9 (by kernel_rfl) rfl #[] rfl (by (try simp only [List.map_toArray, List.map_cons, List.map_nil]); first | done | rfl | (simp only [List.length_drop, List.length_take]; rfl)) ?_; (with_reducible refine (warderlaw02_head.calls k  t259 _ A3.out).mono ?_); rintro e w7 ⟨rfl, hb⟩; refine ⟨_, rfl, ?_⟩; have n0_ := Aside0.mk (below_step (by repeat (first | (with_reducible first | exact HB.out | apply below_alloc | apply pw_below_drewN | apply below_drew1) | exact HB.out)) hb); clear HB; have HB := n0_; clear n0_; (try clear hb); (try clear hb2); (try clear hk); (try clear hi)) | ((with_reducible refine gate_callee (f := 12) rfl ?_); refine goesL_ (some 10) rfl rfl Try.func12 (by kernel_rfl) rfl #[.int .i64 a0] rfl (by (try simp only [List.map_toArray, List.map_cons, List.map_nil]); first | done | rfl | (simp only [List.length_drop, List.length_take]; rfl)) ?_; (with_reducible refine (ints_PutInt.calls k a0 t260 _ A4.out).mono ?_); rintro e w8 ⟨v261, rfl, ho0, hb⟩; refine ⟨_, rfl, ?_⟩; have n0_ := Aside0.mk (Kd.R_lower ho0 (below_size (by repeat (first | (with_reducible first | exact HB.out | apply below_alloc | apply pw_below_drewN | apply below_drew1) | exact HB.out)))); have n1_ := Aside0.mk (below_step (by repeat (first | (with_reducible first | exact HB.out | apply below_alloc | apply pw_below_drewN | apply below_drew1) | exact HB.out)) hb); clear HB; have HO262 := n0_; have HB := n1_; clear n0_ n1_; (try clear hb); (try clear hb2); (try clear hk); (try clear hi); (try clear ho0)) | ((with_reducible refine gate_callee (f := 12) rfl ?_); refine goesL_ (some 12) rfl rfl Try.func12 (by kernel_rfl) rfl #[.int .i64 a1] rfl (by (try simp only [List.map_toArray, List.map_cons, List.map_nil]); first | done | rfl | (simp only [List.length_drop, List.length_take]; rfl)) ?_; (with_reducible refine (ints_PutInt.calls k a1 t263 _ A5.out).mono ?_); rintro e w9 ⟨v264, rfl, ho0, hb⟩; refine ⟨_, rfl, ?_⟩; have n0_ := Aside0.mk (Kd.R_elder' (by (with_reducible repeat (first | apply Kd.R_alloc | apply Kd.R_drewN | apply Kd.R_drew)); exact HO262.out) (Kd.R_base ho0) hb); have n1_ := Aside0.mk (Kd.R_lower (Kd.R_new' ho0 (Kd.R_lt (by (with_reducible repeat (first | apply Kd.R_alloc | apply Kd.R_drewN | apply Kd.R_drew)); exact HO262.out))) (below_size (by repeat (first | (with_reducible first | exact HB.out | apply below_alloc | apply pw_below_drewN | apply below_drew1) | exact HB.out)))); have n2_ := Aside0.mk (below_step (by repeat (first | (with_reducible first | exact HB.out | apply below_alloc | apply pw_below_drewN | apply below_drew1) | exact HB.out)) hb); clear HO262; clear HB; have HO262 := n0_; have HO265 := n1_; have HB := n2_; clear n0_ n1_ n2_; (try clear hb); (try clear hb2); (try clear hk); (try clear hi); (try clear ho0)))
  (try simp only [Act.put, List.setIfInBounds_toArray, List.set_cons_zero, List.set_cons_succ])
  go_cut [30] (fun v30 wc => ∃ (kq : Nat) (x30_5 : Bool), v30 = .bool x30_5 ∧ Aside0 (warderlaw02_IntsOrder.j0 kq a0 a1 t259 t260 t263 x30_5 = some r) ∧ Aside0 (kq ≤ k) ∧ Aside0 (Kd.R (Kd.int .u8) 5 wc w.heap.size (fun k_ => some k_ ≠ (v264 : Value).ownBlock) v261 t260) ∧ Aside0 (Kd.R (Kd.int .u8) 5 wc w.heap.size (fun k_ => some k_ ≠ (v261 : Value).ownBlock) v264 t263) ∧ Aside0 (Below w.heap.size w wc))
  case first =>
    have H := HC6.out
    clear HC6
    by_cases c10 : (t260.length : Int) < 1
    · rw [if_pos c10] at H
      have c10b0 : decide ((t260.length : Int) < 1) = true := decide_eq_true c10
      have c10b1 : decide (t260.length < 1) = true := decide_eq_true (by omega)
      clear c10
      (first | rw [c10b0] | (simp only [i64_w, i32_w]; rw [c10b0]) | skip)
      have H' := Aside0.mk H
      clear H
      obtain ⟨Ao11, co11, eo11⟩ := Kd.R_slice HO262.out
      subst eo11
      go_wp2
      go_meet
      case rel => exact ⟨_, (true), (by first | rfl | (simp; done) | (simp [*]; done)), H', ⟨by first | omega | exact Nat.le_refl _⟩, ⟨by (with_reducible repeat (first | apply Kd.R_alloc | apply Kd.R_drewN | apply Kd.R_drew)); exact Kd.R_mono HO262.out (fun _ hk => hk.2)⟩, ⟨by (with_reducible repeat (first | apply Kd.R_alloc | apply Kd.R_drewN | apply Kd.R_drew)); exact Kd.R_mono HO265.out (fun _ hk => hk.2)⟩, ⟨by repeat (first | (with_reducible first | exact HB.out | apply below_alloc | apply pw_below_drewN | apply below_drew1) | exact HB.out)⟩⟩
    · rw [if_neg c10] at H
      have c10b0 : decide ((t260.length : Int) < 1) = false := decide_eq_false c10
      have c10b1 : decide (t260.length < 1) = false := decide_eq_false (by omega)
      clear c10
      (first | rw [c10b0] | (simp only [i64_w, i32_w]; rw [c10b0]) | skip)
      by_cases c12 : (t263.length : Int) < 1
      · rw [if_pos c12] at H
        have c12b0 : decide ((t263.length : Int) < 1) = true := decide_eq_true c12
        have c12b1 : decide (t263.length < 1) = true := decide_eq_true (by omega)
        clear c12
        have H' := Aside0.mk H
        clear H
        obtain ⟨Ao13, co13, eo13⟩ := Kd.R_slice HO262.out
        subst eo13
        obtain ⟨Ao14, co14, eo14⟩ := Kd.R_slice HO265.out
        subst eo14
        go_wp2
        go_meet
        case rel => exact ⟨_, (true), (by first | rfl | (simp; done) | (simp [*]; done)), H', ⟨by first | omega | exact Nat.le_refl _⟩, ⟨by (with_reducible repeat (first | apply Kd.R_alloc | apply Kd.R_drewN | apply Kd.R_drew)); exact Kd.R_mono HO262.out (fun _ hk => hk.2)⟩, ⟨by (with_reducible repeat (first | apply Kd.R_alloc | apply Kd.R_drewN | apply Kd.R_drew)); exact Kd.R_mono HO265.out (fun _ hk => hk.2)⟩, ⟨by repeat (first | (with_reducible first | exact HB.out | apply below_alloc | apply pw_below_drewN | apply below_drew1) | exact HB.out)⟩⟩
      · rw [if_neg c12] at H
        have c12b0 : decide ((t263.length : Int) < 1) = false := decide_eq_false c12
        have c12b1 : decide (t263.length < 1) = false := decide_eq_false (by omega)
        clear c12
        by_cases c15 : (t260.length : Int) > 8
        · rw [if_pos c15] at H
          have c15b0 : decide (8 < (t260.length : Int)) = true := decide_eq_true c15
          have c15b1 : decide (8 < t260.length) = true := decide_eq_true (by omega)
          clear c15
          have H' := Aside0.mk H
          clear H
          obtain ⟨Ao16, co16, eo16⟩ := Kd.R_slice HO262.out
          subst eo16
          obtain ⟨Ao17, co17, eo17⟩ := Kd.R_slice HO265.out
          subst eo17
          go_wp2
          go_meet
          case rel => exact ⟨_, (true), (by first | rfl | (simp; done) | (simp [*]; done)), H', ⟨by first | omega | exact Nat.le_refl _⟩, ⟨by (with_reducible repeat (first | apply Kd.R_alloc | apply Kd.R_drewN | apply Kd.R_drew)); exact Kd.R_mono HO262.out (fun _ hk => hk.2)⟩, ⟨by (with_reducible repeat (first | apply Kd.R_alloc | apply Kd.R_drewN | apply Kd.R_drew)); exact Kd.R_mono HO265.out (fun _ hk => hk.2)⟩, ⟨by repeat (first | (with_reducible first | exact HB.out | apply below_alloc | apply pw_below_drewN | apply below_drew1) | exact HB.out)⟩⟩
        · rw [if_neg c15] at H
          have c15b0 : decide (8 < (t260.length : Int)) = false := decide_eq_false c15
          have c15b1 : decide (8 < t260.length) = false := decide_eq_false (by omega)
          clear c15
          have H' := Aside0.mk H
          clear H
          obtain ⟨Ao18, co18, eo18⟩ := Kd.R_slice HO262.out
          subst eo18
          obtain ⟨Ao19, co19, eo19⟩ := Kd.R_slice HO265.out
          subst eo19
          go_wp2
          go_meet
          case rel => exact ⟨_, (decide ((t263.length : Int) > 8)), (by first | rfl | (simp; done) | (simp [*]; done)), H', ⟨by first | omega | exact Nat.le_refl _⟩, ⟨by (with_reducible repeat (first | apply Kd.R_alloc | apply Kd.R_drewN | apply Kd.R_drew)); exact Kd.R_mono HO262.out (fun _ hk => hk.2)⟩, ⟨by (with_reducible repeat (first | apply Kd.R_alloc | apply Kd.R_drewN | apply Kd.R_drew)); exact Kd.R_mono HO265.out (fun _ hk => hk.2)⟩, ⟨by repeat (first | (with_reducible first | exact HB.out | apply below_alloc | apply pw_below_drewN | apply below_drew1) | exact HB.out)⟩⟩
  case rest =>
    clear HC6
    try clear c1
    try clear p2
    try clear c5
    try clear c9
    try clear c10
    try clear c10b0
    try clear c10b1
    try clear c12
    try clear c12b0
    try clear c12b1
    try clear c15
    try clear c15b0
    try clear c15b1
    obtain ⟨kq, x30_5, rfl, HA, HJ5, HO_6, HO_7, HB⟩ := hcut
    cases kq with
    | zero => exact absurd HA.out (by simp [warderlaw02_IntsOrder.j0])
    | succ kj5 =>
      have H := HA.out
      clear HA
      simp only [warderlaw02_IntsOrder.j0] at H
      by_cases c20 : x30_5 = true
      · subst c20
        have H1 : (some false) = some r := by rw [if_pos rfl] at H; exact H
        clear H
        have H := H1
        clear H1
        obtain rfl := Option.some.inj H
        go_wp2
        go_ret
        exact ⟨by first | rfl | (simp [errW_none, errW_some] <;> rfl) | (simp [*, errW_none, errW_some] <;> rfl), by repeat (first | (with_reducible first | exact HB.out | apply below_alloc | apply pw_below_drewN | apply below_drew1) | exact HB.out)⟩
      · replace c20 := Bool.eq_false_iff.mpr c20
        subst c20
        have H1 : (if a0 ≥ 0 then (if a1 ≥ 0 then (if (t260.length : Int) = (t263.length : Int) then (if ((decide (a0 < a1)) != (Op.bytesLess ((strOfNums t260).toList) ((strOfNums t263).toList))) = true then (some false) else (if t259 = true then (if (t260.length : Int) < (t263.length : Int) then (if a0 ≥ a1 then (some false) else (if a0 < 0 then (if a1 < 0 then (some (!(decide (a0 ≤ a1)))) else (some (!false))) else (some (!false)))) else (if a0 < 0 then (if a1 < 0 then (some (!false)) else (some (!false))) else (some (!false)))) else (some false))) else (if t259 = true then (if (t260.length : Int) < (t263.length : Int) then (if a0 ≥ a1 then (some false) else (if a0 < 0 then (if a1 < 0 then (some (!(decide (a0 ≤ a1)))) else (some (!false))) else (some (!false)))) else (if a0 < 0 then (if a1 < 0 then (some (!false)) else (some (!false))) else (some (!false)))) else (some false))) else (if t259 = true then (if a0 < 0 then (if a1 < 0 then (if (t260.length : Int) < (t263.length : Int) then (some (!(decide (a0 ≤ a1)))) else (some (!false))) else (some (!false))) else (some (!false))) else (some false))) else (if t259 = true then (if a0 < 0 then (if a1 < 0 then (if (t260.length : Int) < (t263.length : Int) then (some (!(decide (a0 ≤ a1)))) else (some (!false))) else (some (!false))) else (some (!false))) else (some false))) = some r := by rw [if_neg (show ¬ (false = true) by decide)] at H; exact H
        clear H
        have H := H1
        clear H1
        by_cases c21 : a0 ≥ 0
        · rw [if_pos c21] at H
          have c21b0 : decide (0 ≤ a0) = true := decide_eq_true c21
          clear c21
          by_cases c22 : a1 ≥ 0
          · rw [if_pos c22] at H
            have c22b0 : decide (0 ≤ a1) = true := decide_eq_true c22
            clear c22
            by_cases c23 : (t260.length : Int) = (t263.length : Int)
            · rw [if_pos c23] at H
              have c23b0 : ((t260.length : Int) == (t263.length : Int)) = true := beq_iff_eq.mpr c23
              have c23b1 : ((t260.length : Int) != (t263.length : Int)) = false := bne_eq_false_iff_eq.mpr c23
              have c23b2 : (t260.length == t263.length) = true := by first | simpa using c23 | (simp at c23 ⊢; omega)
              clear c23
              by_cases c24 : ((decide (a0 < a1)) != (Op.bytesLess ((strOfNums t260).toList) ((strOfNums t263).toList))) = true
              · rw [if_pos c24] at H
                have c24b0 : ((decide (a0 < a1)) != (Op.bytesLess ((strOfNums t260).toList) ((strOfNums t263).toList))) = true := c24
                (try (have c24b1 : decide ((decide (a0 < a1)) = (Op.bytesLess ((strOfNums t260).toList) ((strOfNums t263).toList))) = false := by simpa using c24))
                (try (have c24b2 : ((decide (a0 < a1)) == (Op.bytesLess ((strOfNums t260).toList) ((strOfNums t263).toList))) = false := by simpa using c24))
                (try (have c24b3 : ¬ ((decide (a0 < a1)) = (Op.bytesLess ((strOfNums t260).toList) ((strOfNums t263).toList))) := by simpa using c24))
                clear c24
                obtain rfl := Option.some.inj H
                obtain ⟨Ao25, co25, eo25⟩ := Kd.R_slice HO_6.out
                subst eo25
                obtain ⟨Ao26, co26, eo26⟩ := Kd.R_slice HO_7.out
                subst eo26
                have hcv27 := own_string (P := Try.prog) Try.underlying22 Try.underlying5 Try.underlying9 (Kd.own_of_R HO_6.out)
                have hcv28 := own_string (P := Try.prog) Try.underlying22 Try.underlying5 Try.underlying9 (Kd.own_of_R HO_7.out)
                go_wp2
                go_ret
                exact ⟨by first | rfl | (simp [errW_none, errW_some] <;> rfl) | (simp [*, errW_none, errW_some] <;> rfl), by repeat (first | (with_reducible first | exact HB.out | apply below_alloc | apply pw_below_drewN | apply below_drew1) | exact HB.out)⟩
              · rw [if_neg c24] at H
                have c24b0 : ((decide (a0 < a1)) != (Op.bytesLess ((strOfNums t260).toList) ((strOfNums t263).toList))) = false := by simpa using c24
                (try (have c24b1 : decide ((decide (a0 < a1)) = (Op.bytesLess ((strOfNums t260).toList) ((strOfNums t263).toList))) = true := by simpa using c24))
                (try (have c24b2 : ((decide (a0 < a1)) == (Op.bytesLess ((strOfNums t260).toList) ((strOfNums t263).toList))) = true := by simpa using c24))
                clear c24
                by_cases c29 : t259 = true
                · subst c29
                  have H1 : (if (t260.length : Int) < (t263.length : Int) then (if a0 ≥ a1 then (some false) else (if a0 < 0 then (if a1 < 0 then (some (!(decide (a0 ≤ a1)))) else (some (!false))) else (some (!false)))) else (if a0 < 0 then (if a1 < 0 then (some (!false)) else (some (!false))) else (some (!false)))) = some r := by rw [if_pos rfl] at H; exact H
                  clear H
                  have H := H1
                  clear H1
                  by_cases c30 : (t260.length : Int) < (t263.length : Int)
                  · rw [if_pos c30] at H
                    have c30b0 : decide ((t260.length : Int) < (t263.length : Int)) = true := decide_eq_true c30
                    have c30b1 : decide (t260.length < t263.length) = true := decide_eq_true (Int.ofNat_lt.mp c30)
                    clear c30
                    by_cases c31 : a0 ≥ a1
                    · rw [if_pos c31] at H
                      have c31b0 : decide (a1 ≤ a0) = true := decide_eq_true c31
                      clear c31
                      obtain rfl := Option.some.inj H
                      obtain ⟨Ao32, co32, eo32⟩ := Kd.R_slice HO_6.out
                      subst eo32
                      obtain ⟨Ao33, co33, eo33⟩ := Kd.R_slice HO_7.out
                      subst eo33
                      have hcv34 := own_string (P := Try.prog) Try.underlying22 Try.underlying5 Try.underlying9 (Kd.own_of_R HO_6.out)
                      have hcv35 := own_string (P := Try.prog) Try.underlying22 Try.underlying5 Try.underlying9 (Kd.own_of_R HO_7.out)
                      go_wp2
                      go_ret
                      exact ⟨by first | rfl | (simp [errW_none, errW_some] <;> rfl) | (simp [*, errW_none, errW_some] <;> rfl), by repeat (first | (with_reducible first | exact HB.out | apply below_alloc | apply pw_below_drewN | apply below_drew1) | exact HB.out)⟩
                    · rw [if_neg c31] at H
                      have c31b0 : decide (a1 ≤ a0) = false := decide_eq_false c31
                      clear c31
                      by_cases c36 : a0 < 0
                      · rw [if_pos c36] at H
                        have c36b0 : decide (a0 < 0) = true := decide_eq_true c36
                        clear c36
                        by_cases c37 : a1 < 0
                        · rw [if_pos c37] at H
                          have c37b0 : decide (a1 < 0) = true := decide_eq_true c37
                          clear c37
                          obtain rfl := Option.some.inj H
                          obtain ⟨Ao38, co38, eo38⟩ := Kd.R_slice HO_6.out
                          subst eo38
                          obtain ⟨Ao39, co39, eo39⟩ := Kd.R_slice HO_7.out
                          subst eo39
                          have hcv40 := own_string (P := Try.prog) Try.underlying22 Try.underlying5 Try.underlying9 (Kd.own_of_R HO_6.out)
                          have hcv41 := own_string (P := Try.prog) Try.underlying22 Try.underlying5 Try.underlying9 (Kd.own_of_R HO_7.out)
                          go_wp2
                          go_ret
                          exact ⟨by first | rfl | (simp [errW_none, errW_some] <;> rfl) | (simp [*, errW_none, errW_some] <;> rfl), by repeat (first | (with_reducible first | exact HB.out | apply below_alloc | apply pw_below_drewN | apply below_drew1) | exact HB.out)⟩
                        · rw [if_neg c37] at H
                          have c37b0 : decide (a1 < 0) = false := decide_eq_false c37
                          clear c37
                          obtain rfl := Option.some.inj H
                          obtain ⟨Ao42, co42, eo42⟩ := Kd.R_slice HO_6.out
                          subst eo42
                          obtain ⟨Ao43, co43, eo43⟩ := Kd.R_slice HO_7.out
                          subst eo43
                          have hcv44 := own_string (P := Try.prog) Try.underlying22 Try.underlying5 Try.underlying9 (Kd.own_of_R HO_6.out)
                          have hcv45 := own_string (P := Try.prog) Try.underlying22 Try.underlying5 Try.underlying9 (Kd.own_of_R HO_7.out)
                          go_wp2
                          go_ret
                          exact ⟨by first | rfl | (simp [errW_none, errW_some] <;> rfl) | (simp [*, errW_none, errW_some] <;> rfl), by repeat (first | (with_reducible first | exact HB.out | apply below_alloc | apply pw_below_drewN | apply below_drew1) | exact HB.out)⟩
                      · rw [if_neg c36] at H
                        have c36b0 : decide (a0 < 0) = false := decide_eq_false c36
                        clear c36
                        obtain rfl := Option.some.inj H
                        obtain ⟨Ao46, co46, eo46⟩ := Kd.R_slice HO_6.out
                        subst eo46
                        obtain ⟨Ao47, co47, eo47⟩ := Kd.R_slice HO_7.out
                        subst eo47
                        have hcv48 := own_string (P := Try.prog) Try.underlying22 Try.underlying5 Try.underlying9 (Kd.own_of_R HO_6.out)
                        have hcv49 := own_string (P := Try.prog) Try.underlying22 Try.underlying5 Try.underlying9 (Kd.own_of_R HO_7.out)
                        go_wp2
                        go_ret
                        exact ⟨by first | rfl | (simp [errW_none, errW_some] <;> rfl) | (simp [*, errW_none, errW_some] <;> rfl), by repeat (first | (with_reducible first | exact HB.out | apply below_alloc | apply pw_below_drewN | apply below_drew1) | exact HB.out)⟩
                  · rw [if_neg c30] at H
                    have c30b0 : decide ((t260.length : Int) < (t263.length : Int)) = false := decide_eq_false c30
                    have c30b1 : decide (t260.length < t263.length) = false := decide_eq_false (fun h => c30 (Int.ofNat_lt.mpr h))
                    clear c30
                    by_cases c50 : a0 < 0
                    · rw [if_pos c50] at H
                      have c50b0 : decide (a0 < 0) = true := decide_eq_true c50
                      clear c50
                      by_cases c51 : a1 < 0
                      · rw [if_pos c51] at H
                        have c51b0 : decide (a1 < 0) = true := decide_eq_true c51
                        clear c51
                        obtain rfl := Option.some.inj H
                        obtain ⟨Ao52, co52, eo52⟩ := Kd.R_slice HO_6.out
                        subst eo52
                        obtain ⟨Ao53, co53, eo53⟩ := Kd.R_slice HO_7.out
                        subst eo53
                        have hcv54 := own_string (P := Try.prog) Try.underlying22 Try.underlying5 Try.underlying9 (Kd.own_of_R HO_6.out)
                        have hcv55 := own_string (P := Try.prog) Try.underlying22 Try.underlying5 Try.underlying9 (Kd.own_of_R HO_7.out)
                        go_wp2
                        go_ret
                        exact ⟨by first | rfl | (simp [errW_none, errW_some] <;> rfl) | (simp [*, errW_none, errW_some] <;> rfl), by repeat (first | (with_reducible first | exact HB.out | apply below_alloc | apply pw_below_drewN | apply below_drew1) | exact HB.out)⟩
                      · rw [if_neg c51] at H
                        have c51b0 : decide (a1 < 0) = false := decide_eq_false c51
                        clear c51
                        obtain rfl := Option.some.inj H
                        obtain ⟨Ao56, co56, eo56⟩ := Kd.R_slice HO_6.out
                        subst eo56
                        obtain ⟨Ao57, co57, eo57⟩ := Kd.R_slice HO_7.out
                        subst eo57
                        have hcv58 := own_string (P := Try.prog) Try.underlying22 Try.underlying5 Try.underlying9 (Kd.own_of_R HO_6.out)
                        have hcv59 := own_string (P := Try.prog) Try.underlying22 Try.underlying5 Try.underlying9 (Kd.own_of_R HO_7.out)
                        go_wp2
                        go_ret
                        exact ⟨by first | rfl | (simp [errW_none, errW_some] <;> rfl) | (simp [*, errW_none, errW_some] <;> rfl), by repeat (first | (with_reducible first | exact HB.out | apply below_alloc | apply pw_below_drewN | apply below_drew1) | exact HB.out)⟩
                    · rw [if_neg c50] at H
                      have c50b0 : decide (a0 < 0) = false := decide_eq_false c50
                      clear c50
                      obtain rfl := Option.some.inj H
                      obtain ⟨Ao60, co60, eo60⟩ := Kd.R_slice HO_6.out
                      subst eo60
                      obtain ⟨Ao61, co61, eo61⟩ := Kd.R_slice HO_7.out
                      subst eo61
                      have hcv62 := own_string (P := Try.prog) Try.underlying22 Try.underlying5 Try.underlying9 (Kd.own_of_R HO_6.out)
                      have hcv63 := own_string (P := Try.prog) Try.underlying22 Try.underlying5 Try.underlying9 (Kd.own_of_R HO_7.out)
                      go_wp2
                      go_ret
                      exact ⟨by first | rfl | (simp [errW_none, errW_some] <;> rfl) | (simp [*, errW_none, errW_some] <;> rfl), by repeat (first | (with_reducible first | exact HB.out | apply below_alloc | apply pw_below_drewN | apply below_drew1) | exact HB.out)⟩
                · replace c29 := Bool.eq_false_iff.mpr c29
                  subst c29
                  have H1 : (some false) = some r := by rw [if_neg (show ¬ (false = true) by decide)] at H; exact H
                  clear H
                  have H := H1
                  clear H1
                  obtain rfl := Option.some.inj H
                  obtain ⟨Ao64, co64, eo64⟩ := Kd.R_slice HO_6.out
                  subst eo64
                  obtain ⟨Ao65, co65, eo65⟩ := Kd.R_slice HO_7.out
                  subst eo65
                  have hcv66 := own_string (P := Try.prog) Try.underlying22 Try.underlying5 Try.underlying9 (Kd.own_of_R HO_6.out)
                  have hcv67 := own_string (P := Try.prog) Try.underlying22 Try.underlying5 Try.underlying9 (Kd.own_of_R HO_7.out)
                  go_wp2
                  go_ret
                  exact ⟨by first | rfl | (simp [errW_none, errW_some] <;> rfl) | (simp [*, errW_none, errW_some] <;> rfl), by repeat (first | (with_reducible first | exact HB.out | apply below_alloc | apply pw_below_drewN | apply below_drew1) | exact HB.out)⟩
            · rw [if_neg c23] at H
              have c23b0 : ((t260.length : Int) == (t263.length : Int)) = false := beq_eq_false_iff_ne.mpr c23
              have c23b1 : ((t260.length : Int) != (t263.length : Int)) = true := bne_iff_ne.mpr c23
              have c23b2 : (t260.length == t263.length) = false := by first | simpa using c23 | (simp at c23 ⊢; omega)
              by_cases c68 : t259 = true
              · subst c68
                have H1 : (if (t260.length : Int) < (t263.length : Int) then (if a0 ≥ a1 then (some false) else (if a0 < 0 then (if a1 < 0 then (some (!(decide (a0 ≤ a1)))) else (some (!false))) else (some (!false)))) else (if a0 < 0 then (if a1 < 0 then (some (!false)) else (some (!false))) else (some (!false)))) = some r := by rw [if_pos rfl] at H; exact H
                clear H
                have H := H1
                clear H1
                by_cases c69 : (t260.length : Int) < (t263.length : Int)
                · rw [if_pos c69] at H
                  have c69b0 : decide ((t260.length : Int) < (t263.length : Int)) = true := decide_eq_true c69
                  have c69b1 : decide (t260.length < t263.length) = true := decide_eq_true (Int.ofNat_lt.mp c69)
                  clear c69
                  by_cases c70 : a0 ≥ a1
                  · rw [if_pos c70] at H
                    have c70b0 : decide (a1 ≤ a0) = true := decide_eq_true c70
                    clear c70
                    obtain rfl := Option.some.inj H
                    obtain ⟨Ao71, co71, eo71⟩ := Kd.R_slice HO_6.out
                    subst eo71
                    obtain ⟨Ao72, co72, eo72⟩ := Kd.R_slice HO_7.out
                    subst eo72
                    go_wp2
                    go_ret
                    exact ⟨by first | rfl | (simp [errW_none, errW_some] <;> rfl) | (simp [*, errW_none, errW_some] <;> rfl), by repeat (first | (with_reducible first | exact HB.out | apply below_alloc | apply pw_below_drewN | apply below_drew1) | exact HB.out)⟩
                  · rw [if_neg c70] at H
                    have c70b0 : decide (a1 ≤ a0) = false := decide_eq_false c70
                    clear c70
                    by_cases c73 : a0 < 0
                    · rw [if_pos c73] at H
                      have c73b0 : decide (a0 < 0) = true := decide_eq_true c73
                      clear c73
                      by_cases c74 : a1 < 0
                      · rw [if_pos c74] at H
                        have c74b0 : decide (a1 < 0) = true := decide_eq_true c74
                        clear c74
                        obtain rfl := Option.some.inj H
                        obtain ⟨Ao75, co75, eo75⟩ := Kd.R_slice HO_6.out
                        subst eo75
                        obtain ⟨Ao76, co76, eo76⟩ := Kd.R_slice HO_7.out
                        subst eo76
                        go_wp2
                        go_ret
                        exact ⟨by first | rfl | (simp [errW_none, errW_some] <;> rfl) | (simp [*, errW_none, errW_some] <;> rfl), by repeat (first | (with_reducible first | exact HB.out | apply below_alloc | apply pw_below_drewN | apply below_drew1) | exact HB.out)⟩
                      · rw [if_neg c74] at H
                        have c74b0 : decide (a1 < 0) = false := decide_eq_false c74
                        clear c74
                        obtain rfl := Option.some.inj H
                        obtain ⟨Ao77, co77, eo77⟩ := Kd.R_slice HO_6.out
                        subst eo77
                        obtain ⟨Ao78, co78, eo78⟩ := Kd.R_slice HO_7.out
                        subst eo78
                        go_wp2
                        go_ret
                        exact ⟨by first | rfl | (simp [errW_none, errW_some] <;> rfl) | (simp [*, errW_none, errW_some] <;> rfl), by repeat (first | (with_reducible first | exact HB.out | apply below_alloc | apply pw_below_drewN | apply below_drew1) | exact HB.out)⟩
                    · rw [if_neg c73] at H
                      have c73b0 : decide (a0 < 0) = false := decide_eq_false c73
                      clear c73
                      obtain rfl := Option.some.inj H
                      obtain ⟨Ao79, co79, eo79⟩ := Kd.R_slice HO_6.out
                      subst eo79
                      obtain ⟨Ao80, co80, eo80⟩ := Kd.R_slice HO_7.out
                      subst eo80
                      go_wp2
                      go_ret
                      exact ⟨by first | rfl | (simp [errW_none, errW_some] <;> rfl) | (simp [*, errW_none, errW_some] <;> rfl), by repeat (first | (with_reducible first | exact HB.out | apply below_alloc | apply pw_below_drewN | apply below_drew1) | exact HB.out)⟩
                · rw [if_neg c69] at H
                  have c69b0 : decide ((t260.length : Int) < (t263.length : Int)) = false := decide_eq_false c69
                  have c69b1 : decide (t260.length < t263.length) = false := decide_eq_false (fun h => c69 (Int.ofNat_lt.mpr h))
                  clear c69
                  by_cases c81 : a0 < 0
                  · rw [if_pos c81] at H
                    have c81b0 : decide (a0 < 0) = true := decide_eq_true c81
                    clear c81
                    by_cases c82 : a1 < 0
                    · rw [if_pos c82] at H
                      have c82b0 : decide (a1 < 0) = true := decide_eq_true c82
                      clear c82
                      obtain rfl := Option.some.inj H
                      obtain ⟨Ao83, co83, eo83⟩ := Kd.R_slice HO_6.out
                      subst eo83
                      obtain ⟨Ao84, co84, eo84⟩ := Kd.R_slice HO_7.out
                      subst eo84
                      go_wp2
                      go_ret
                      exact ⟨by first | rfl | (simp [errW_none, errW_some] <;> rfl) | (simp [*, errW_none, errW_some] <;> rfl), by repeat (first | (with_reducible first | exact HB.out | apply below_alloc | apply pw_below_drewN | apply below_drew1) | exact HB.out)⟩
                    · rw [if_neg c82] at H
                      have c82b0 : decide (a1 < 0) = false := decide_eq_false c82
                      clear c82
                      obtain rfl := Option.some.inj H
                      obtain ⟨Ao85, co85, eo85⟩ := Kd.R_slice HO_6.out
                      subst eo85
                      obtain ⟨Ao86, co86, eo86⟩ := Kd.R_slice HO_7.out
                      subst eo86
                      go_wp2
                      go_ret
                      exact ⟨by first | rfl | (simp [errW_none, errW_some] <;> rfl) | (simp [*, errW_none, errW_some] <;> rfl), by repeat (first | (with_reducible first | exact HB.out | apply below_alloc | apply pw_below_drewN | apply below_drew1) | exact HB.out)⟩
                  · rw [if_neg c81] at H
                    have c81b0 : decide (a0 < 0) = false := decide_eq_false c81
                    clear c81
                    obtain rfl := Option.some.inj H
                    obtain ⟨Ao87, co87, eo87⟩ := Kd.R_slice HO_6.out
                    subst eo87
                    obtain ⟨Ao88, co88, eo88⟩ := Kd.R_slice HO_7.out
                    subst eo88
                    go_wp2
                    go_ret
                    exact ⟨by first | rfl | (simp [errW_none, errW_some] <;> rfl) | (simp [*, errW_none, errW_some] <;> rfl), by repeat (first | (with_reducible first | exact HB.out | apply below_alloc | apply pw_below_drewN | apply below_drew1) | exact HB.out)⟩
              · replace c68 := Bool.eq_false_iff.mpr c68
                subst c68
                have H1 : (some false) = some r := by rw [if_neg (show ¬ (false = true) by decide)] at H; exact H
                clear H
                have H := H1
                clear H1
                obtain rfl := Option.some.inj H
                obtain ⟨Ao89, co89, eo89⟩ := Kd.R_slice HO_6.out
                subst eo89
                obtain ⟨Ao90, co90, eo90⟩ := Kd.R_slice HO_7.out
                subst eo90
                go_wp2
                go_ret
                exact ⟨by first | rfl | (simp [errW_none, errW_some] <;> rfl) | (simp [*, errW_none, errW_some] <;> rfl), by repeat (first | (with_reducible first | exact HB.out | apply below_alloc | apply pw_below_drewN | apply below_drew1) | exact HB.out)⟩
          · rw [if_neg c22] at H
            have c22b0 : decide (0 ≤ a1) = false := decide_eq_false c22
            clear c22
            by_cases c91 : t259 = true
            · subst c91
              have H1 : (if a0 < 0 then (if a1 < 0 then (if (t260.length : Int) < (t263.length : Int) then (some (!(decide (a0 ≤ a1)))) else (some (!false))) else (some (!false))) else (some (!false))) = some r := by rw [if_pos rfl] at H; exact H
              clear H
              have H := H1
              clear H1
              by_cases c92 : a0 < 0
              · rw [if_pos c92] at H
                have c92b0 : decide (a0 < 0) = true := decide_eq_true c92
                clear c92
                by_cases c93 : a1 < 0
                · rw [if_pos c93] at H
                  have c93b0 : decide (a1 < 0) = true := decide_eq_true c93
                  clear c93
                  by_cases c94 : (t260.length : Int) < (t263.length : Int)
                  · rw [if_pos c94] at H
                    have c94b0 : decide ((t260.length : Int) < (t263.length : Int)) = true := decide_eq_true c94
                    have c94b1 : decide (t260.length < t263.length) = true := decide_eq_true (Int.ofNat_lt.mp c94)
                    clear c94
                    obtain rfl := Option.some.inj H
                    obtain ⟨Ao95, co95, eo95⟩ := Kd.R_slice HO_6.out
                    subst eo95
                    obtain ⟨Ao96, co96, eo96⟩ := Kd.R_slice HO_7.out
                    subst eo96
                    go_wp2
                    go_ret
                    exact ⟨by first | rfl | (simp [errW_none, errW_some] <;> rfl) | (simp [*, errW_none, errW_some] <;> rfl), by repeat (first | (with_reducible first | exact HB.out | apply below_alloc | apply pw_below_drewN | apply below_drew1) | exact HB.out)⟩
                  · rw [if_neg c94] at H
                    have c94b0 : decide ((t260.length : Int) < (t263.length : Int)) = false := decide_eq_false c94
                    have c94b1 : decide (t260.length < t263.length) = false := decide_eq_false (fun h => c94 (Int.ofNat_lt.mpr h))
                    clear c94
                    obtain rfl := Option.some.inj H
                    obtain ⟨Ao97, co97, eo97⟩ := Kd.R_slice HO_6.out
                    subst eo97
                    obtain ⟨Ao98, co98, eo98⟩ := Kd.R_slice HO_7.out
                    subst eo98
                    go_wp2
                    go_ret
                    exact ⟨by first | rfl | (simp [errW_none, errW_some] <;> rfl) | (simp [*, errW_none, errW_some] <;> rfl), by repeat (first | (with_reducible first | exact HB.out | apply below_alloc | apply pw_below_drewN | apply below_drew1) | exact HB.out)⟩
                · rw [if_neg c93] at H
                  have c93b0 : decide (a1 < 0) = false := decide_eq_false c93
                  clear c93
                  obtain rfl := Option.some.inj H
                  go_wp2
                  go_ret
                  exact ⟨by first | rfl | (simp [errW_none, errW_some] <;> rfl) | (simp [*, errW_none, errW_some] <;> rfl), by repeat (first | (with_reducible first | exact HB.out | apply below_alloc | apply pw_below_drewN | apply below_drew1) | exact HB.out)⟩
              · rw [if_neg c92] at H
                have c92b0 : decide (a0 < 0) = false := decide_eq_false c92
                clear c92
                obtain rfl := Option.some.inj H
                go_wp2
                go_ret
                exact ⟨by first | rfl | (simp [errW_none, errW_some] <;> rfl) | (simp [*, errW_none, errW_some] <;> rfl), by repeat (first | (with_reducible first | exact HB.out | apply below_alloc | apply pw_below_drewN | apply below_drew1) | exact HB.out)⟩
            · replace c91 := Bool.eq_false_iff.mpr c91
              subst c91
              have H1 : (some false) = some r := by rw [if_neg (show ¬ (false = true) by decide)] at H; exact H
              clear H
              have H := H1
              clear H1
              obtain rfl := Option.some.inj H
              go_wp2
              go_ret
              exact ⟨by first | rfl | (simp [errW_none, errW_some] <;> rfl) | (simp [*, errW_none, errW_some] <;> rfl), by repeat (first | (with_reducible first | exact HB.out | apply below_alloc | apply pw_below_drewN | apply below_drew1) | exact HB.out)⟩
        · rw [if_neg c21] at H
          have c21b0 : decide (0 ≤ a0) = false := decide_eq_false c21
          clear c21
          by_cases c99 : t259 = true
          · subst c99
            have H1 : (if a0 < 0 then (if a1 < 0 then (if (t260.length : Int) < (t263.length : Int) then (some (!(decide (a0 ≤ a1)))) else (some (!false))) else (some (!false))) else (some (!false))) = some r := by rw [if_pos rfl] at H; exact H
            clear H
            have H := H1
            clear H1
            by_cases c100 : a0 < 0
            · rw [if_pos c100] at H
              have c100b0 : decide (a0 < 0) = true := decide_eq_true c100
              clear c100
              by_cases c101 : a1 < 0
              · rw [if_pos c101] at H
                have c101b0 : decide (a1 < 0) = true := decide_eq_true c101
                clear c101
                by_cases c102 : (t260.length : Int) < (t263.length : Int)
                · rw [if_pos c102] at H
                  have c102b0 : decide ((t260.length : Int) < (t263.length : Int)) = true := decide_eq_true c102
                  have c102b1 : decide (t260.length < t263.length) = true := decide_eq_true (Int.ofNat_lt.mp c102)
                  clear c102
                  obtain rfl := Option.some.inj H
                  obtain ⟨Ao103, co103, eo103⟩ := Kd.R_slice HO_6.out
                  subst eo103
                  obtain ⟨Ao104, co104, eo104⟩ := Kd.R_slice HO_7.out
                  subst eo104
                  go_wp2
                  go_ret
                  exact ⟨by first | rfl | (simp [errW_none, errW_some] <;> rfl) | (simp [*, errW_none, errW_some] <;> rfl), by repeat (first | (with_reducible first | exact HB.out | apply below_alloc | apply pw_below_drewN | apply below_drew1) | exact HB.out)⟩
                · rw [if_neg c102] at H
                  have c102b0 : decide ((t260.length : Int) < (t263.length : Int)) = false := decide_eq_false c102
                  have c102b1 : decide (t260.length < t263.length) = false := decide_eq_false (fun h => c102 (Int.ofNat_lt.mpr h))
                  clear c102
                  obtain rfl := Option.some.inj H
                  obtain ⟨Ao105, co105, eo105⟩ := Kd.R_slice HO_6.out
                  subst eo105
                  obtain ⟨Ao106, co106, eo106⟩ := Kd.R_slice HO_7.out
                  subst eo106
                  go_wp2
                  go_ret
                  exact ⟨by first | rfl | (simp [errW_none, errW_some] <;> rfl) | (simp [*, errW_none, errW_some] <;> rfl), by repeat (first | (with_reducible first | exact HB.out | apply below_alloc | apply pw_below_drewN | apply below_drew1) | exact HB.out)⟩
              · rw [if_neg c101] at H
                have c101b0 : decide (a1 < 0) = false := decide_eq_false c101
                clear c101
                obtain rfl := Option.some.inj H
                go_wp2
                go_ret
                exact ⟨by first | rfl | (simp [errW_none, errW_some] <;> rfl) | (simp [*, errW_none, errW_some] <;> rfl), by repeat (first | (with_reducible first | exact HB.out | apply below_alloc | apply pw_below_drewN | apply below_drew1) | exact HB.out)⟩
            · rw [if_neg c100] at H
              have c100b0 : decide (a0 < 0) = false := decide_eq_false c100
              clear c100
              obtain rfl := Option.some.inj H
              go_wp2
              go_ret
              exact ⟨by first | rfl | (simp [errW_none, errW_some] <;> rfl) | (simp [*, errW_none, errW_some] <;> rfl), by repeat (first | (with_reducible first | exact HB.out | apply below_alloc | apply pw_below_drewN | apply below_drew1) | exact HB.out)⟩
          · replace c99 := Bool.eq_false_iff.mpr c99
            subst c99
            have H1 : (some false) = some r := by rw [if_neg (show ¬ (false = true) by decide)] at H; exact H
            clear H
            have H := H1
            clear H1
            obtain rfl := Option.some.inj H
            go_wp2
            go_ret
            exact ⟨by first | rfl | (simp [errW_none, errW_some] <;> rfl) | (simp [*, errW_none, errW_some] <;> rfl), by repeat (first | (with_reducible first | exact HB.out | apply below_alloc | apply pw_below_drewN | apply below_drew1) | exact HB.out)⟩

/-- THE ONE PURE STATEMENT of warderlaw02_IntsOrder: yours. -/
def warderlaw02_IntsOrder.Pure : Prop := ∀ (a0 : Int) (a1 : Int), (Lit.int .i64 a0).wf = true → (Lit.int .i64 a1).wf = true → ∃ k, warderlaw02_IntsOrder.f k a0 a1 = some true
theorem warderlaw02_IntsOrder.walk (P : warderlaw02_IntsOrder.Pure) (a0 : Int) (a1 : Int) (w : World) (w0 : (Lit.int .i64 a0).wf = true) (w1 : (Lit.int .i64 a1).wf = true) :
    Calls Try.prog 5 #[.int .i64 a0, .int .i64 a1] w fun e w' => e = .returned (.bool true) ∧ Below w.heap.size w w' := by
  obtain ⟨k, h⟩ := P a0 a1 w0 w1
  refine (warderlaw02_IntsOrder.calls k a0 a1 true w h).mono ?_
  rintro e w' ⟨rfl, hd⟩
  exact ⟨rfl, hd⟩

end Go.Proofs.Ytekebbbalackkaa.PA
