/- NodesSets: words, printed functions and plain laws that the claim uses, laid by a program of this session's. No condition beside those in each theorem's own line. -/
import Derived.Test.YtkceebgncfggjaaDoorZS10
import Derived.Test.YtkceebgncfggjaaDoorZS12
import Derived.Test.YtkceebgncfggjaaDoorZS14
set_option linter.unusedVariables false
set_option linter.unusedSimpArgs false
namespace Go.Proofs.YtkceebgncfggjaaDoor.PQ
open Go.RowKit Go.Proofs.YtkceebgncfggjaaDoorW.PrintWords Go.Proofs.YtkceebgncfggjaaDoorW.PrintLast Go.Proofs.YtkceebgncfggjaaDoorW.PrintMore Go.Proofs.YtkceebgncfggjaaDoorX
set_option maxHeartbeats 8000000
set_option maxRecDepth 100000
attribute [local go_sem] max2_int min2_int max_two min_two
mutual
def nodes_right.j0 : Nat → Int → List Int → Int → Int → Bool → Option (Bool)
 | 0, _, _, _, _, _ => none
 | k + 1, x0, x1, x5, x7, x29 => if x29 = true then ((texts_Time.f k x0 x1).bind fun bt232 => (some (bt232.2 == 0))) else (if x7 = 5 then (some ((x1.length : Int) == 0)) else (if x7 = 12 then (nodes_right.j1 k x0 x1 x5 x7 (x7 == 12)) else (if x7 = 19 then (nodes_right.j1 k x0 x1 x5 x7 (x7 == 19)) else (if x7 = 22 then (nodes_right.j1 k x0 x1 x5 x7 (x7 == 22)) else (nodes_right.j1 k x0 x1 x5 x7 (x7 == 27))))))
def nodes_right.j1 : Nat → Int → List Int → Int → Int → Bool → Option (Bool)
 | 0, _, _, _, _, _ => none
 | k + 1, x0, x1, x5, x7, x43 => if x43 = true then ((texts_Right.f k x0 x1).bind fun t234 => (some t234)) else (if x7 = 3 then (if (x1.length : Int) < 2 then (if (x1.length : Int) = 1 then (if 0 < (x1.length : Int) then (some ((rd x1 0) == 0)) else (none)) else (some false)) else (if 0 < (x1.length : Int) then (if (rd x1 0) < 8 then (if 0 ≤ (wrap64 ((x1.length : Int) - 1)) then (if (wrap64 ((x1.length : Int) - 1)) < (x1.length : Int) then (some ((shl .u8 (rd x1 (wrap64 ((x1.length : Int) - 1))) ((8 - (rd x1 0)) % 256)) == 0)) else (none)) else (none)) else (some false)) else (none))) else (some (x5 == 0)))
end
def nodes_right.f (k : Nat) (a0 : Int) (l1 : List Int) : Option (Bool) := if a0 = 1 then ((ints_Bool.f l1).bind fun bt224 => (some (bt224.2 == 0))) else (if a0 = 2 then ((ints_Int.f k l1).bind fun bt226 => (some (bt226.2 == 0))) else (if a0 = 6 then ((ints_OID.f k l1).bind fun bt228 => (some (bt228.2 == 0))) else (if a0 = 23 then (nodes_right.j0 k a0 l1 0 a0 (a0 == 23)) else (nodes_right.j0 k a0 l1 0 a0 (a0 == 24)))))
theorem nodes_right.mono_l : ∀ k, (∀ y0 y1 y2 y3 y4, LeO (nodes_right.j0 k y0 y1 y2 y3 y4) (nodes_right.j0 (k + 1) y0 y1 y2 y3 y4)) ∧ (∀ y0 y1 y2 y3 y4, LeO (nodes_right.j1 k y0 y1 y2 y3 y4) (nodes_right.j1 (k + 1) y0 y1 y2 y3 y4))
 | 0 => ⟨fun _ _ _ _ _ r h => by simp [nodes_right.j0] at h, fun _ _ _ _ _ r h => by simp [nodes_right.j1] at h⟩
 | k + 1 => by
  obtain ⟨ih0, ih1⟩ := nodes_right.mono_l k
  refine ⟨?_, ?_⟩
  ·intro y0 y1 y2 y3 y4
   unfold nodes_right.j0
   repeat' first
   | (with_reducible exact ih0 _ _ _ _ _)
   | (with_reducible exact ih1 _ _ _ _ _)
   | (with_reducible exact ints_Int.mono _ _)
   | (with_reducible exact ints_OID.mono _ _)
   | (with_reducible exact texts_Right.mono _ _ _)
   | (with_reducible exact texts_Time.mono _ _ _)
   | (with_reducible exact LeO.refl _)
   | (with_reducible exact LeO.none _)
   | (with_reducible refine LeO.ite ?_ ?_)
   | (with_reducible refine LeO.bind ?_ (fun _ => ?_))
   | (with_reducible refine LeO_bindX ?_ (fun _ => ?_))
   | exact ih0 _ _ _ _ _
   | exact ih1 _ _ _ _ _
   | exact ints_Int.mono _ _
   | exact ints_OID.mono _ _
   | exact texts_Right.mono _ _ _
   | exact texts_Time.mono _ _ _
   | exact LeO.none _
   | refine LeO.ite ?_ ?_
   | refine LeO.bind ?_ (fun _ => ?_)
  ·intro y0 y1 y2 y3 y4
   unfold nodes_right.j1
   repeat' first
   | (with_reducible exact ih0 _ _ _ _ _)
   | (with_reducible exact ih1 _ _ _ _ _)
   | (with_reducible exact ints_Int.mono _ _)
   | (with_reducible exact ints_OID.mono _ _)
   | (with_reducible exact texts_Right.mono _ _ _)
   | (with_reducible exact texts_Time.mono _ _ _)
   | (with_reducible exact LeO.refl _)
   | (with_reducible exact LeO.none _)
   | (with_reducible refine LeO.ite ?_ ?_)
   | (with_reducible refine LeO.bind ?_ (fun _ => ?_))
   | (with_reducible refine LeO_bindX ?_ (fun _ => ?_))
   | exact ih0 _ _ _ _ _
   | exact ih1 _ _ _ _ _
   | exact ints_Int.mono _ _
   | exact ints_OID.mono _ _
   | exact texts_Right.mono _ _ _
   | exact texts_Time.mono _ _ _
   | exact LeO.none _
   | refine LeO.ite ?_ ?_
   | refine LeO.bind ?_ (fun _ => ?_)
theorem nodes_right.mono : ∀ a0 a1 k, LeO (nodes_right.f k a0 a1) (nodes_right.f (k + 1) a0 a1) := by
 intro a0 a1 k
 obtain ⟨ih0, ih1⟩ := nodes_right.mono_l k
 unfold nodes_right.f
 repeat' first
   | (with_reducible exact ih0 _ _ _ _ _)
   | (with_reducible exact ih1 _ _ _ _ _)
   | (with_reducible exact ints_Int.mono _ _)
   | (with_reducible exact ints_OID.mono _ _)
   | (with_reducible exact texts_Right.mono _ _ _)
   | (with_reducible exact texts_Time.mono _ _ _)
   | (with_reducible exact LeO.refl _)
   | (with_reducible exact LeO.none _)
   | (with_reducible refine LeO.ite ?_ ?_)
   | (with_reducible refine LeO.bind ?_ (fun _ => ?_))
   | (with_reducible refine LeO_bindX ?_ (fun _ => ?_))
   | exact ih0 _ _ _ _ _
   | exact ih1 _ _ _ _ _
   | exact ints_Int.mono _ _
   | exact ints_OID.mono _ _
   | exact texts_Right.mono _ _ _
   | exact texts_Time.mono _ _ _
   | exact LeO.none _
   | refine LeO.ite ?_ ?_
   | refine LeO.bind ?_ (fun _ => ?_)
theorem nodes_right.calls (k : Nat) (a0 : Int) (A1 : Option Addr) (c1 : Nat) (l1 : List Int) (r : Bool) (w : World) (hT : TabU w) (hr1 : Kd.C (Kd.int .u8) w A1 l1.length l1) (hc1 : l1.length ≤ c1) (h : nodes_right.f k a0 l1 = some r) :
  Calls Tryd.prog 55 #[.int .u8 a0, .slice A1 l1.length c1] w fun e w' => e = .returned (.bool r) ∧ Below w.heap.size w w' := by
 have HT := aZ hT
 clear hT
 have HR1 := aZ hr1
 have HC1 := aZ hc1
 clear hr1 hc1
 have HB := aZ (Below.refl w.heap.size w)
 have H := h
 clear h
 unfold nodes_right.f at H
 by_cases c3 : a0 = 1
 ·rw [if_pos c3] at H
  have c3b0 : (a0 == 1) = true := beq_iff_eq.mpr c3
  have c3b1 : (a0 != 1) = false := bne_eq_false_iff_eq.mpr c3
  clear c3
  replace H := Option.bind_eq_some_iff.mp H
  obtain ⟨⟨t224, t225⟩, A40, H⟩ := H
  try dsimp only at H
  have A4 := aZ A40
  clear A40
  obtain rfl := Option.some.inj H
  go_enter Tryd.func55, Tryd.ntmps55
  go_wp2_with (first | ((with_reducible refine gC 67 rfl ?_); refine goL (some 12) Tryd.func67 #[.slice A1 l1.length c1] ?_; (with_reducible refine (ints_Bool.calls _ _ l1 t224 t225 _ ?side1 ?side2 A4.out).mono ?_); (case side1 => exact kC HR1.out); (case side2 => exact HC1.out); rintro e w5 ⟨rfl, hb⟩; refine ⟨_, rfl, ?_⟩; replace HB := aZ (below_step bB hb); (try clear hb); (try clear hb2); (try clear hk); (try clear hi)))
  go_ret
  exact ⟨rF, bB⟩
 ·rw [if_neg c3] at H
  have c3b0 : (a0 == 1) = false := beq_eq_false_iff_ne.mpr c3
  have c3b1 : (a0 != 1) = true := bne_iff_ne.mpr c3
  by_cases c6 : a0 = 2
  ·rw [if_pos c6] at H
   have c6b0 : (a0 == 2) = true := beq_iff_eq.mpr c6
   have c6b1 : (a0 != 2) = false := bne_eq_false_iff_eq.mpr c6
   clear c6
   replace H := Option.bind_eq_some_iff.mp H
   obtain ⟨⟨t226, t227⟩, A70, H⟩ := H
   try dsimp only at H
   have A7 := aZ A70
   clear A70
   obtain rfl := Option.some.inj H
   go_enter Tryd.func55, Tryd.ntmps55
   go_wp2_with (first | ((with_reducible refine gC 17 rfl ?_); refine goL (some 19) Tryd.func17 #[.slice A1 l1.length c1] ?_; (with_reducible refine (ints_Int.calls k _ _ l1 t226 t227 _ ?side1 ?side2 A7.out).mono ?_); (case side1 => exact kC HR1.out); (case side2 => exact HC1.out); rintro e w8 ⟨rfl, hb⟩; refine ⟨_, rfl, ?_⟩; replace HB := aZ (below_step bB hb); (try clear hb); (try clear hb2); (try clear hk); (try clear hi)))
   go_ret
   exact ⟨rF, bB⟩
  ·rw [if_neg c6] at H
   have c6b0 : (a0 == 2) = false := beq_eq_false_iff_ne.mpr c6
   have c6b1 : (a0 != 2) = true := bne_iff_ne.mpr c6
   by_cases c9 : a0 = 6
   ·rw [if_pos c9] at H
    have c9b0 : (a0 == 6) = true := beq_iff_eq.mpr c9
    have c9b1 : (a0 != 6) = false := bne_eq_false_iff_eq.mpr c9
    clear c9
    replace H := Option.bind_eq_some_iff.mp H
    obtain ⟨⟨t228, t229⟩, A100, H⟩ := H
    try dsimp only at H
    have A10 := aZ A100
    clear A100
    obtain rfl := Option.some.inj H
    go_enter Tryd.func55, Tryd.ntmps55
    go_wp2_with (first | ((with_reducible refine gC 20 rfl ?_); refine goL (some 26) Tryd.func20 #[.slice A1 l1.length c1] ?_; (with_reducible refine (ints_OID.calls k _ _ l1 t228 t229 _ ?side1 ?side2 A10.out).mono ?_); (case side1 => exact kC HR1.out); (case side2 => exact HC1.out); rintro e w11 ⟨v230, rfl, ho0, hb⟩; refine ⟨_, rfl, ?_⟩; have HO231 := aZ (Kd.R_lower ho0 (below_size bB)); replace HB := aZ (below_step bB hb); (try clear hb); (try clear hb2); (try clear hk); (try clear hi); (try clear ho0)))
    go_ret
    exact ⟨rF, bB⟩
   ·rw [if_neg c9] at H
    have c9b0 : (a0 == 6) = false := beq_eq_false_iff_ne.mpr c9
    have c9b1 : (a0 != 6) = true := bne_iff_ne.mpr c9
    have HC12 := aZ H
    clear H
    go_enter Tryd.func55, Tryd.ntmps55
    go_upto_if 29 with (fail)
    go_cut [29] (fun v29 wc => ∃ (kq : Nat) (x29_11 : Bool), v29 = .bool x29_11 ∧ Aside0 (nodes_right.j0 kq a0 l1 0 a0 x29_11 = some r) ∧ Aside0 (kq ≤ k) ∧ Aside0 (Below w.heap.size w wc))
    case first =>
     have H := HC12.out
     clear HC12
     by_cases c13 : a0 = 23
     ·rw [if_pos c13] at H
      have c13b0 : (a0 == 23) = true := beq_iff_eq.mpr c13
      have c13b1 : (a0 != 23) = false := bne_eq_false_iff_eq.mpr c13
      clear c13
      (first | rw [c13b0] | (simp only [i64_w, i32_w]; rw [c13b0]) | skip)
      have H' := aZ H
      clear H
      go_wp2
      go_meet
      case rel => exact ⟨_, ((a0 == 23)), rS, H', ⟨by first | omega | exact Nat.le_refl _⟩, ⟨bB⟩⟩
     ·rw [if_neg c13] at H
      have c13b0 : (a0 == 23) = false := beq_eq_false_iff_ne.mpr c13
      have c13b1 : (a0 != 23) = true := bne_iff_ne.mpr c13
      (first | rw [c13b0] | (simp only [i64_w, i32_w]; rw [c13b0]) | skip)
      have H' := aZ H
      clear H
      go_wp2
      go_meet
      case rel => exact ⟨_, ((a0 == 24)), rS, H', ⟨by first | omega | exact Nat.le_refl _⟩, ⟨bB⟩⟩
    case rest =>
     clear HC12
     try clear c1
     try clear c2
     try clear p2
     try clear c3
     try clear c3b0
     try clear c3b1
     try clear c5
     try clear c6
     try clear c6b0
     try clear c6b1
     try clear c9
     try clear c9b0
     try clear c9b1
     try clear c13
     try clear c13b0
     try clear c13b1
     obtain ⟨kq, x29_11, rfl, HA, HJ11, HB⟩ := hcut
     cases kq with
     | zero => exact absurd HA.out (by simp [nodes_right.j0])
     | succ kj11 =>
      have H := HA.out
      clear HA
      simp only [nodes_right.j0] at H
      by_cases c14 : x29_11 = true
      ·subst c14
       rw [if_pos rfl] at H
       replace H := Option.bind_eq_some_iff.mp H
       obtain ⟨⟨t232, t233⟩, A150, H⟩ := H
       try dsimp only at H
       have A15 := aZ A150
       clear A150
       obtain rfl := Option.some.inj H
       go_wp2_with (first | ((with_reducible refine gC 68 rfl ?_); refine goL (some 35) Tryd.func68 #[.int .u8 a0, .slice A1 l1.length c1] ?_; (with_reducible refine (texts_Time.calls kj11 a0 _ _ l1 t232 t233 _ ?side1 ?side2 A15.out).mono ?_); (case side1 => exact kC (Kd.C_below HR1.out HB.out)); (case side2 => exact HC1.out); rintro e w16 ⟨rfl, hb⟩; refine ⟨_, rfl, ?_⟩; replace HB := aZ (below_step bB hb); (try clear hb); (try clear hb2); (try clear hk); (try clear hi)))
       go_ret
       exact ⟨rF, bB⟩
      ·replace c14 := Bool.eq_false_iff.mpr c14
       subst c14
       rw [if_neg (show ¬ (false = true) by decide)] at H
       by_cases c17 : a0 = 5
       ·rw [if_pos c17] at H
        have c17b0 : (a0 == 5) = true := beq_iff_eq.mpr c17
        have c17b1 : (a0 != 5) = false := bne_eq_false_iff_eq.mpr c17
        clear c17
        obtain rfl := Option.some.inj H
        go_wp2
        go_ret
        exact ⟨rF, bB⟩
       ·rw [if_neg c17] at H
        have c17b0 : (a0 == 5) = false := beq_eq_false_iff_ne.mpr c17
        have c17b1 : (a0 != 5) = true := bne_iff_ne.mpr c17
        have HC18 := aZ H
        clear H
        go_upto_if 43 with (fail)
        go_cut [43] (fun v43 wc => ∃ (kq : Nat) (x43_17 : Bool), v43 = .bool x43_17 ∧ Aside0 (nodes_right.j1 kq a0 l1 0 a0 x43_17 = some r) ∧ Aside0 (kq ≤ kj11) ∧ Aside0 (Below w.heap.size w wc))
        case first =>
         have H := HC18.out
         clear HC18
         by_cases c19 : a0 = 12
         ·rw [if_pos c19] at H
          have c19b0 : (a0 == 12) = true := beq_iff_eq.mpr c19
          have c19b1 : (a0 != 12) = false := bne_eq_false_iff_eq.mpr c19
          clear c19
          (first | rw [c19b0] | (simp only [i64_w, i32_w]; rw [c19b0]) | skip)
          have H' := aZ H
          clear H
          go_wp2
          go_meet
          case rel => exact ⟨_, ((a0 == 12)), rS, H', ⟨by have := HJ11.out; first | omega | exact Nat.le_refl _⟩, ⟨bB⟩⟩
         ·rw [if_neg c19] at H
          have c19b0 : (a0 == 12) = false := beq_eq_false_iff_ne.mpr c19
          have c19b1 : (a0 != 12) = true := bne_iff_ne.mpr c19
          (first | rw [c19b0] | (simp only [i64_w, i32_w]; rw [c19b0]) | skip)
          by_cases c20 : a0 = 19
          ·rw [if_pos c20] at H
           have c20b0 : (a0 == 19) = true := beq_iff_eq.mpr c20
           have c20b1 : (a0 != 19) = false := bne_eq_false_iff_eq.mpr c20
           clear c20
           have H' := aZ H
           clear H
           go_wp2
           go_meet
           case rel => exact ⟨_, ((a0 == 19)), rS, H', ⟨by have := HJ11.out; first | omega | exact Nat.le_refl _⟩, ⟨bB⟩⟩
          ·rw [if_neg c20] at H
           have c20b0 : (a0 == 19) = false := beq_eq_false_iff_ne.mpr c20
           have c20b1 : (a0 != 19) = true := bne_iff_ne.mpr c20
           by_cases c21 : a0 = 22
           ·rw [if_pos c21] at H
            have c21b0 : (a0 == 22) = true := beq_iff_eq.mpr c21
            have c21b1 : (a0 != 22) = false := bne_eq_false_iff_eq.mpr c21
            clear c21
            have H' := aZ H
            clear H
            go_wp2
            go_meet
            case rel => exact ⟨_, ((a0 == 22)), rS, H', ⟨by have := HJ11.out; first | omega | exact Nat.le_refl _⟩, ⟨bB⟩⟩
           ·rw [if_neg c21] at H
            have c21b0 : (a0 == 22) = false := beq_eq_false_iff_ne.mpr c21
            have c21b1 : (a0 != 22) = true := bne_iff_ne.mpr c21
            have H' := aZ H
            clear H
            go_wp2
            go_meet
            case rel => exact ⟨_, ((a0 == 27)), rS, H', ⟨by have := HJ11.out; first | omega | exact Nat.le_refl _⟩, ⟨bB⟩⟩
        case rest =>
         clear HC18
         try clear c1
         try clear c2
         try clear p2
         try clear c3
         try clear c3b0
         try clear c3b1
         try clear c5
         try clear c6
         try clear c6b0
         try clear c6b1
         try clear c9
         try clear c9b0
         try clear c9b1
         try clear c13
         try clear c13b0
         try clear c13b1
         try clear c14
         try clear c17
         try clear c17b0
         try clear c17b1
         try clear c19
         try clear c19b0
         try clear c19b1
         try clear c20
         try clear c20b0
         try clear c20b1
         try clear c21
         try clear c21b0
         try clear c21b1
         try clear p2
         obtain ⟨kq, x43_17, rfl, HA, HJ17, HB⟩ := hcut
         cases kq with
         | zero => exact absurd HA.out (by simp [nodes_right.j1])
         | succ kj17 =>
          have H := HA.out
          clear HA
          simp only [nodes_right.j1] at H
          by_cases c22 : x43_17 = true
          ·subst c22
           rw [if_pos rfl] at H
           replace H := Option.bind_eq_some_iff.mp H
           obtain ⟨t234, A230, H⟩ := H
           try dsimp only at H
           have A23 := aZ A230
           clear A230
           obtain rfl := Option.some.inj H
           go_wp2_with (first | ((with_reducible refine gC 69 rfl ?_); refine goL (some 50) Tryd.func69 #[.int .u8 a0, .slice A1 l1.length c1] ?_; (with_reducible refine (texts_Right.calls kj17 a0 _ _ l1 t234 _ ?side1 ?side2 ?side3 A23.out).mono ?_); (case side1 => exact hTU); (case side2 => exact kC (Kd.C_below HR1.out HB.out)); (case side3 => exact HC1.out); rintro e w24 ⟨rfl, hb⟩; refine ⟨_, rfl, ?_⟩; replace HB := aZ (below_step bB hb); (try clear hb); (try clear hb2); (try clear hk); (try clear hi)))
           go_ret
           exact ⟨rF, bB⟩
          ·replace c22 := Bool.eq_false_iff.mpr c22
           subst c22
           rw [if_neg (show ¬ (false = true) by decide)] at H
           by_cases c25 : a0 = 3
           ·rw [if_pos c25] at H
            have c25b0 : (a0 == 3) = true := beq_iff_eq.mpr c25
            have c25b1 : (a0 != 3) = false := bne_eq_false_iff_eq.mpr c25
            clear c25
            by_cases c26 : (l1.length : Int) < 2
            ·rw [if_pos c26] at H
             have c26b0 : decide ((l1.length : Int) < 2) = true := decide_eq_true c26
             have c26b1 : decide (l1.length < 2) = true := decide_eq_true (by omega)
             clear c26
             by_cases c27 : (l1.length : Int) = 1
             ·rw [if_pos c27] at H
              have c27b0 : ((l1.length : Int) == 1) = true := beq_iff_eq.mpr c27
              have c27b1 : ((l1.length : Int) != 1) = false := bne_eq_false_iff_eq.mpr c27
              clear c27
              by_cases c28 : 0 < (l1.length : Int)
              ·rw [if_pos c28] at H
               have c28b0 : decide (0 < (l1.length : Int)) = true := decide_eq_true c28
               have c28b1 : decide (0 < l1.length) = true := decide_eq_true (by omega)
               clear c28
               obtain rfl := Option.some.inj H
               have p235 : 0 ≤ (0 : Int) := (by omega)
               have q235 : 0 < (l1.length : Int) := oD
               obtain ⟨ad235, e235, hx235_0⟩ := Kd.at_int HR1.out 0 p235 q235
               cases e235
               have qi235 : (0 < l1.length) = True := eq_true (by omega)
               (try rw [show ((0 : Int)).toNat = 0 from rfl] at hx235_0)
               (try rw [Addr.add_zero'] at hx235_0)
               replace hx235_0 := (HB.out.cell (World.block_lt_of_cell? w _ hx235_0)).trans hx235_0
               replace p235 := eq_true p235
               replace q235 := eq_true q235
               go_wp2
               go_ret
               exact ⟨rF, bB⟩
              ·rw [if_neg c28] at H
               exact absurd H (by simp)
             ·rw [if_neg c27] at H
              have c27b0 : ((l1.length : Int) == 1) = false := beq_eq_false_iff_ne.mpr c27
              have c27b1 : ((l1.length : Int) != 1) = true := bne_iff_ne.mpr c27
              obtain rfl := Option.some.inj H
              go_wp2
              go_ret
              exact ⟨rF, bB⟩
            ·rw [if_neg c26] at H
             have c26b0 : decide ((l1.length : Int) < 2) = false := decide_eq_false c26
             have c26b1 : decide (l1.length < 2) = false := decide_eq_false (by omega)
             clear c26
             by_cases c29 : 0 < (l1.length : Int)
             ·rw [if_pos c29] at H
              have c29b0 : decide (0 < (l1.length : Int)) = true := decide_eq_true c29
              have c29b1 : decide (0 < l1.length) = true := decide_eq_true (by omega)
              clear c29
              by_cases c30 : (rd l1 0) < 8
              ·rw [if_pos c30] at H
               have c30b0 : decide ((rd l1 0) < 8) = true := decide_eq_true c30
               clear c30
               obtain ⟨ji31, hji31⟩ : ∃ j_ : Int, (wrap64 ((l1.length : Int) - 1)) = j_ := ⟨_, rfl⟩
               replace H : (if 0 ≤ (ji31) then (if (ji31) < (l1.length : Int) then (some ((shl .u8 (rd l1 (ji31)) ((8 - (rd l1 0)) % 256)) == 0)) else (none)) else (none)) = some r := by first | (rw [hji31] at H; exact H) | (simp only [hji31] at H ⊢; exact H)
               have hji31w : (IntKind.i64.wrap ((l1.length : Int) - 1)) = ji31 := (i64_w _).trans hji31
               by_cases c32 : 0 ≤ (ji31)
               ·rw [if_pos c32] at H
                have c32b0 : decide (0 ≤ (ji31)) = true := decide_eq_true c32
                clear c32
                by_cases c33 : (ji31) < (l1.length : Int)
                ·rw [if_pos c33] at H
                 have c33b0 : decide ((ji31) < (l1.length : Int)) = true := decide_eq_true c33
                 clear c33
                 obtain ⟨ji34, hji34⟩ : ∃ j_ : Int, (shl .u8 (rd l1 (ji31)) ((8 - (rd l1 0)) % 256)) = j_ := ⟨_, rfl⟩
                 replace H : (some ((ji34) == 0)) = some r := by first | (rw [hji34] at H; exact H) | (simp only [hji34] at H ⊢; exact H)
                 have hji34_ : (IntKind.u8.wrap ((rd l1 (ji31)) * 2 ^ min ((8 - (rd l1 0)) % 256).toNat 8)) = ji34 := hji34
                 have hji34r := fun W => shl_run (P := Tryd.prog) .u8 hji34 (Int.emod_nonneg _ (by decide)) W
                 have hji34z : ((8 - (rd l1 0)) % 256) ≤ 8 → (IntKind.u8.wrap ((rd l1 (ji31)) * 2 ^ ((8 - (rd l1 0)) % 256).toNat)) = ji34 := shl_small hji34
                 obtain rfl := Option.some.inj H
                 have p236 : 0 ≤ (0 : Int) := (by omega)
                 have q236 : 0 < (l1.length : Int) := oD
                 obtain ⟨ad236, e236, hx236_0⟩ := Kd.at_int HR1.out 0 p236 q236
                 cases e236
                 have qi236 : (0 < l1.length) = True := eq_true (by omega)
                 (try rw [show ((0 : Int)).toNat = 0 from rfl] at hx236_0)
                 (try rw [Addr.add_zero'] at hx236_0)
                 replace hx236_0 := (HB.out.cell (World.block_lt_of_cell? w _ hx236_0)).trans hx236_0
                 replace p236 := eq_true p236
                 replace q236 := eq_true q236
                 have p237 : 0 ≤ ((ji31) : Int) := oD
                 have q237 : (ji31) < (l1.length : Int) := oD
                 obtain ⟨ad237, e237, hx237_0⟩ := Kd.at_int HR1.out (ji31) p237 q237
                 obtain rfl : ad236 = ad237 := (by injection e237)
                 replace hx237_0 := (HB.out.cell (World.block_lt_of_cell? w _ hx237_0)).trans hx237_0
                 replace p237 := eq_true p237
                 replace q237 := eq_true q237
                 go_wp2
                 go_ret
                 exact ⟨by first | rfl | (simp [errW_none, errW_some] <;> rfl) | (simp only [← hji31, ← hji34]; first | rfl | (simp [errW_none, errW_some] <;> rfl)) | (simp [*, errW_none, errW_some] <;> rfl), bB⟩
                ·rw [if_neg c33] at H
                 exact absurd H (by simp)
               ·rw [if_neg c32] at H
                exact absurd H (by simp)
              ·rw [if_neg c30] at H
               have c30b0 : decide ((rd l1 0) < 8) = false := decide_eq_false c30
               clear c30
               obtain rfl := Option.some.inj H
               have p236 : 0 ≤ (0 : Int) := (by omega)
               have q236 : 0 < (l1.length : Int) := oD
               obtain ⟨ad236, e236, hx236_0⟩ := Kd.at_int HR1.out 0 p236 q236
               cases e236
               have qi236 : (0 < l1.length) = True := eq_true (by omega)
               (try rw [show ((0 : Int)).toNat = 0 from rfl] at hx236_0)
               (try rw [Addr.add_zero'] at hx236_0)
               replace hx236_0 := (HB.out.cell (World.block_lt_of_cell? w _ hx236_0)).trans hx236_0
               replace p236 := eq_true p236
               replace q236 := eq_true q236
               go_wp2
               go_ret
               exact ⟨rF, bB⟩
             ·rw [if_neg c29] at H
              exact absurd H (by simp)
           ·rw [if_neg c25] at H
            have c25b0 : (a0 == 3) = false := beq_eq_false_iff_ne.mpr c25
            have c25b1 : (a0 != 3) = true := bne_iff_ne.mpr c25
            obtain rfl := Option.some.inj H
            go_wp2
            go_ret
            exact ⟨rF, bB⟩
end Go.Proofs.YtkceebgncfggjaaDoor.PQ

