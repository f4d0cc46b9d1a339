/- LawNodesInner: texts of this claim, laid one behind the other by a program of this session's (wip/bundle.py): words, printed functions and plain laws that its theorem uses. No condition beside those in each theorem's own line. -/
import Derived.Test.YtkceebgncfggjaaDoorZJ1
import Derived.Test.YtkceebgncfggjaaDoorZJ10
import Derived.Test.YtkceebgncfggjaaDoorZJ11
import Derived.Test.YtkceebgncfggjaaDoorZJ12
import Derived.Test.YtkceebgncfggjaaDoorZJ13
import Derived.Test.YtkceebgncfggjaaDoorZJ14
import Derived.Test.YtkceebgncfggjaaDoorZJ15
import Derived.Test.YtkceebgncfggjaaDoorZJ16
import Derived.Test.YtkceebgncfggjaaDoorZJ17
import Derived.Test.YtkceebgncfggjaaDoorZJ18
import Derived.Test.YtkceebgncfggjaaDoorZJ19
import Derived.Test.YtkceebgncfggjaaDoorZJ2
import Derived.Test.YtkceebgncfggjaaDoorZJ20
import Derived.Test.YtkceebgncfggjaaDoorZJ21
import Derived.Test.YtkceebgncfggjaaDoorZJ22
import Derived.Test.YtkceebgncfggjaaDoorZJ23
import Derived.Test.YtkceebgncfggjaaDoorZJ24
import Derived.Test.YtkceebgncfggjaaDoorZJ25
import Derived.Test.YtkceebgncfggjaaDoorZJ3
import Derived.Test.YtkceebgncfggjaaDoorZJ4
import Derived.Test.YtkceebgncfggjaaDoorZJ5
import Derived.Test.YtkceebgncfggjaaDoorZJ6
import Derived.Test.YtkceebgncfggjaaDoorZJ7
import Derived.Test.YtkceebgncfggjaaDoorZJ8
import Derived.Test.YtkceebgncfggjaaDoorZJ9
set_option linter.unusedVariables false
set_option linter.unusedSimpArgs false
namespace Go.Proofs.YtkceebgncfggjaaDoor.PQ
open Go.RowKit Go.Proofs.YtkceebgncfggjaaDoorW.PrintWords Go.Proofs.YtkceebgncfggjaaDoorW.PrintLast Go.Proofs.YtkceebgncfggjaaDoorW.PrintMore Go.Proofs.YtkceebgncfggjaaDoorX
set_option maxHeartbeats 8000000
set_option maxRecDepth 100000
attribute [local go_sem] max2_int min2_int max_two min_two
mutual
def warderlaw04_NodesInner.j0 : Nat → List (S43) → Int → Bool → List Int → Bool → Option (Bool)
 | 0, _, _, _, _, _ => none
 | k + 1, x0, x2, x7, x9, x37 => if x37 = true then (some x7) else ((nodes_Parse.f k x9).bind fun bt590 => (if bt590.2.2.2.2 = 0 then (warderlaw04_NodesInner.j1 k x0 x2 x7 x9 ((bt590.2.2.1.length : Int) != (x0.length : Int)) bt590.1 bt590.2.1 bt590.2.2.1) else (warderlaw04_NodesInner.j1 k x0 x2 x7 x9 true bt590.1 bt590.2.1 bt590.2.2.1)))
def warderlaw04_NodesInner.j1 : Nat → List (S43) → Int → Bool → List Int → Bool → Int → List Int → List (S43) → Option (Bool)
 | 0, _, _, _, _, _, _, _, _ => none
 | k + 1, x0, x2, x7, x9, x54, x600000, x600001, x600002 => if x54 = true then (some false) else (warderlaw04_NodesInner.l0 k x0 x2 x7 x9 0 x600000 x600001 x600002)
def warderlaw04_NodesInner.l0 : Nat → List (S43) → Int → Bool → List Int → Int → Int → List Int → List (S43) → Option (Bool)
 | 0, _, _, _, _, _, _, _, _ => none
 | k + 1, x0, x2, x7, x9, x14, x600000, x600001, x600002 => if x14 < (x0.length : Int) then (if 0 ≤ x14 then ((nodes_Print.f k ((rd_T43 x0 x14).f0) ((rd_T43 x0 x14).f1) ((rd_T43 x0 x14).f2)).bind fun bt615 => ((nodes_Parse.f k bt615.1).bind fun bt619 => (if bt615.2 = 0 then (if bt619.2.2.2.2 = 0 then (if x14 < (x600002.length : Int) then ((warderref04_Same.f k bt619.1 bt619.2.1 bt619.2.2.1 ((rd_T43 x600002 x14).f0) ((rd_T43 x600002 x14).f1) ((rd_T43 x600002 x14).f2)).bind fun t630 => (if t630 = true then (warderlaw04_NodesInner.l0 k x0 x2 x7 x9 (wrap64 (x14 + 1)) x600000 x600001 x600002) else (some false))) else (none)) else (some false)) else (some false)))) else (none)) else (if (((x9.length : Int)) % 4294967296) = 0 then (none) else (if 0 ≤ (wrap64 (Int.tmod x2 (((x9.length : Int)) % 4294967296))) then (if (wrap64 (Int.tmod x2 (((x9.length : Int)) % 4294967296))) ≤ (x9.length : Int) then ((nodes_Parse.f k (x9.take ((wrap64 (Int.tmod x2 (((x9.length : Int)) % 4294967296))) : Int).toNat)).bind fun bt605 => (if x7 = true then (some (bt605.2.2.2.2 != 0)) else (some false))) else (none)) else (none)))
end
def warderlaw04_NodesInner.f (k : Nat) (l0 : List (S43)) (a1 : Int) (a2 : Int) : Option (Bool) := (warderlaw04_head.f k).bind fun t583 => ((nodes_Print.f k (Go.bits .or .u8 (Go.bits .and .u8 a1 31) 160) ([] : List Int) l0).bind fun bt585 => (if bt585.2 = 0 then ((warderref04_Parts.f k (Go.bits .or .u8 (Go.bits .and .u8 a1 31) 160) ([] : List Int) l0 20000).bind fun t589 => (warderlaw04_NodesInner.j0 k l0 a2 t583 bt585.1 (decide (t589 > 20000)))) else (warderlaw04_NodesInner.j0 k l0 a2 t583 bt585.1 true)))
def warderlaw04_NodesInner.T14 : Bool × List (List Nat × List Nat) := (true, [([], []), ([0], [0]), ([1], [1]), ([2], [2]), ([3, 2], [2, 3]), ([2, 4], [2, 4]), ([5, 2], [5]), ([6], [6]), ([6], [6]), ([8, 6], [6, 8]), ([6], [6]), ([9, 10, 6], [6, 9, 10]), ([11, 6], [6, 11]), ([7, 12, 6, 6], [6, 7, 12]), ([13, 6], [6, 13]), ([6, 14], [6, 14])])
def warderlaw04_NodesInner.B14 : List Nat := [0, 1, 3, 7, 15, 31, 63, 127, 127, 383, 127, 1919, 3967, 8191, 16383, 32767]
theorem warderlaw04_NodesInner.tab14 : rtab .any (opsOf Tryd.f8 14) = warderlaw04_NodesInner.T14 := by kernel_rfl
theorem warderlaw04_NodesInner.bits14 : waitsOk warderlaw04_NodesInner.T14.2 warderlaw04_NodesInner.B14 = true := by kernel_rfl
theorem warderlaw04_NodesInner.calls (k : Nat) (A0 : Option Addr) (c0 : Nat) (l0 : List (S43)) (a1 : Int) (a2 : Int) (r : Bool) (w : World) (hT : TabU w) (hr0 : Kd.C k43 w A0 l0.length l0) (hc0 : l0.length ≤ c0) (h : warderlaw04_NodesInner.f k l0 a1 a2 = some r) :
  Calls Tryd.prog 8 #[.slice A0 l0.length c0, .int .u8 a1, .int .u32 a2] w fun e w' => e = .returned (.bool r) ∧ Below w.heap.size w w' := by
 have hu43 := Tryd.underlying43
 have HT := aZ hT
 clear hT
 have HR0 := aZ hr0
 have HC0 := aZ hc0
 clear hr0 hc0
 have HB := aZ (Below.refl w.heap.size w)
 have H := h
 clear h
 unfold warderlaw04_NodesInner.f at H
 replace H := Option.bind_eq_some_iff.mp H
 obtain ⟨t583, A40, H⟩ := H
 try dsimp only at H
 have A4 := aZ A40
 clear A40
 replace H := Option.bind_eq_some_iff.mp H
 obtain ⟨⟨t585, t588⟩, A50, H⟩ := H
 try dsimp only at H
 have A5 := aZ A50
 clear A50
 have HC6 := aZ H
 clear H
 go_enter Tryd.func8, Tryd.ntmps8
 go_upto_region 4 with (first | ((with_reducible refine gC 22 rfl ?_); refine goL (some 20) Tryd.func22 #[] ?_; (with_reducible refine (warderlaw04_head.calls k  t583 _ ?side1 A4.out).mono ?_); (case side1 => exact hTU); rintro e w7 ⟨rfl, hb⟩; refine ⟨_, rfl, ?_⟩; replace HB := aZ (below_step bB hb); (try clear hb); (try clear hb2); (try clear hk); (try clear hi)) | ((with_reducible refine gD 8 rfl ?_); (try (refine gate_guard (by rfl) ?_; dsimp only)); refine bxE (N := 8) (cs := #[.int .u8 0, .slice none 0 0, .slice none 0 0]) (t := 43) ?_; intro gb584 hg w8 hbox hb; have BK584 := aZ (hbox); have GW584 := aZ (gwB hg : w.heap.size ≤ gb584); have GE584 := aZ (gwB hg : w.heap.size ≤ gb584); replace HB := aZ (below_step bB hb); clear hb hbox hg; obtain ⟨hcz9_0, hcz9_1, hcz9_2⟩ := cz3 (w := w8) BK584.out; obtain ⟨hfz9_0, hfz9_1, hfz9_2⟩ := fz3 BK584.out) | ((with_reducible refine gC 27 rfl ?_); refine goL (some 28) Tryd.func27 #[.agg #[.int .u8 (Go.bits .or .u8 (Go.bits .and .u8 a1 31) 160), .slice none 0 0, .slice A0 l0.length c0]] ?_; (refine (nodes_Print.calls k (Go.bits .or .u8 (Go.bits .and .u8 a1 31) 160) _ _ ([] : List Int) _ _ l0 t585 t588 _ ?side1 ?side2 ?side3 ?side4 ?side5 A5.out).mono ?_); (case side1 => exact hTU); (case side2 => exact Kd.C_nil _ _); (case side3 => exact Nat.le_refl _); (case side4 => exact Kd.C_below HR0.out bB); (case side5 => exact HC0.out); rintro e w10 ⟨v586, rfl, ho0, hb⟩; refine ⟨_, rfl, ?_⟩; have HO587 := aZ (Kd.R_lower ho0 (below_size bB)); replace BK584 := aZ (blk_below (g := gb584) (o := .cells #[.int .u8 (Go.bits .or .u8 (Go.bits .and .u8 a1 31) 160), .slice none 0 0, .slice A0 l0.length c0] 43 (0, 0)) (by refine kB ?_; refine blk_put (cs := #[.int .u8 (Go.bits .or .u8 (Go.bits .and .u8 a1 31) 160), .slice none 0 0, .slice none 0 0]) ?_ 2 _ rfl; refine kB ?_; refine blk_put (cs := #[.int .u8 (Go.bits .or .u8 (Go.bits .and .u8 a1 31) 160), .slice none 0 0, .slice none 0 0]) ?_ 1 _ rfl; refine kB ?_; refine blk_put (cs := #[.int .u8 0, .slice none 0 0, .slice none 0 0]) ?_ 0 _ rfl; refine kB ?_; exact BK584.out) hb); replace HB := aZ (below_step bB hb); (try clear hb); (try clear hb2); (try clear hk); (try clear hi); (try clear ho0)))
 (try simp only [Act.put, List.setIfInBounds_toArray, List.set_cons_zero, List.set_cons_succ])
 go_cut [37] (fun v37 wc => ∃ (kq : Nat) (x37_5 : Bool), v37 = .bool x37_5 ∧ Aside0 (warderlaw04_NodesInner.j0 kq l0 a2 t583 t585 x37_5 = some r) ∧ Aside0 (kq ≤ k) ∧ Aside0 (Kd.R (Kd.int .u8) 5 wc w.heap.size (fun _ => True) v586 t585) ∧ Aside0 (wc.heap[gb584]? = some (.cells #[.int .u8 (Go.bits .or .u8 (Go.bits .and .u8 a1 31) 160), (.slice none 0 0), (.slice A0 l0.length c0)] 43 (0, 0))) ∧ Aside0 (Below w.heap.size w wc))
 case first =>
  have H := HC6.out
  clear HC6
  by_cases c11 : t588 = 0
  ·rw [if_pos c11] at H
   have c11b0 : (t588 == 0) = true := beq_iff_eq.mpr c11
   have c11b1 : (t588 != 0) = false := bne_eq_false_iff_eq.mpr c11
   clear c11
   (first | rw [c11b0] | (simp only [i64_w, i32_w]; rw [c11b0]) | skip)
   replace H := Option.bind_eq_some_iff.mp H
   obtain ⟨t589, A120, H⟩ := H
   try dsimp only at H
   have A12 := aZ A120
   clear A120
   have H' := aZ H
   clear H
   obtain ⟨hcz13_0, hcz13_1, hcz13_2⟩ := cz3 (w := w10) BK584.out
   obtain ⟨hfz13_0, hfz13_1, hfz13_2⟩ := fz3 BK584.out
   go_wp2_with (first | (go_at_call 26; (refine (warderref04_Parts.calls k (Go.bits .or .u8 (Go.bits .and .u8 a1 31) 160) _ _ ([] : List Int) _ _ l0 20000 t589 _ ?side1 ?side2 ?side3 ?side4 A12.out).mono ?_); (case side1 => exact Kd.C_nil _ _); (case side2 => exact Nat.le_refl _); (case side3 => exact kC (Kd.C_below HR0.out HB.out)); (case side4 => exact HC0.out); rintro e w14 ⟨rfl, hb⟩; replace HO587 := aZ (Kd.R_below (kR HO587.out) hb); replace BK584 := aZ (bkB BK584.out hb); replace HB := aZ (below_step bB hb); (try clear hb); (try clear hb2); (try clear hk); (try clear hi)))
   go_meet
   case rel => exact ⟨_, (decide (t589 > 20000)), rS, H', ⟨by first | omega | exact Nat.le_refl _⟩, ⟨by refine kR ?_; exact HO587.out⟩, ⟨by refine kB ?_; exact BK584.out⟩, ⟨bB⟩⟩
  ·rw [if_neg c11] at H
   have c11b0 : (t588 == 0) = false := beq_eq_false_iff_ne.mpr c11
   have c11b1 : (t588 != 0) = true := bne_iff_ne.mpr c11
   (first | rw [c11b0] | (simp only [i64_w, i32_w]; rw [c11b0]) | skip)
   have H' := aZ H
   clear H
   go_wp2
   go_meet
   case rel => exact ⟨_, (true), rS, H', ⟨by first | omega | exact Nat.le_refl _⟩, ⟨by refine kR ?_; exact HO587.out⟩, ⟨by refine kB ?_; exact BK584.out⟩, ⟨bB⟩⟩
 case rest =>
  clear HC6
  try clear c1
  try clear c2
  try clear p2
  try clear c8
  try clear c11
  try clear c11b0
  try clear c11b1
  try clear hcz13_0
  try clear hcz13_1
  try clear hcz13_2
  try clear hcz9_0
  try clear hcz9_1
  try clear hcz9_2
  try clear hfz13_0
  try clear hfz13_1
  try clear hfz13_2
  try clear hfz9_0
  try clear hfz9_1
  try clear hfz9_2
  obtain ⟨kq, x37_5, rfl, HA, HJ5, HO_9, BK584, HB⟩ := hcut
  cases kq with
  | zero => exact absurd HA.out (by simp [warderlaw04_NodesInner.j0])
  | succ kj5 =>
   have H := HA.out
   clear HA
   simp only [warderlaw04_NodesInner.j0] at H
   by_cases c15 : x37_5 = true
   ·subst c15
    rw [if_pos rfl] at H
    obtain rfl := Option.some.inj H
    go_wp2
    go_ret
    exact ⟨rF, bB⟩
   ·replace c15 := Bool.eq_false_iff.mpr c15
    subst c15
    rw [if_neg (show ¬ (false = true) by decide)] at H
    replace H := Option.bind_eq_some_iff.mp H
    obtain ⟨⟨t590, t591, t594, t597, t598⟩, A160, H⟩ := H
    try dsimp only at H
    have A16 := aZ A160
    clear A160
    have HC17 := aZ H
    clear H
    obtain ⟨Ao18, co18, eo18⟩ := Kd.R_slice HO_9.out
    subst eo18
    go_upto_region 7 with (first | ((with_reducible refine gC 23 rfl ?_); refine goL (some 41) Tryd.func23 #[.slice Ao18 t585.length co18] ?_; (with_reducible refine (nodes_Parse.calls kj5 (fun k_ => some k_ = (.slice Ao18 t585.length co18 : Value).ownBlock) _ _ t585 t590 t591 t594 t597 t598 _ ?side1 ?side2 A16.out).mono ?_); (case side1 => exact hTU); (case side2 => exact Kd.R_V (Kd.R_tight rfl (Kd.R_types (HO_9.out) BK584.out (by decide)))); rintro e w19 ⟨v592, v595, rfl, ho0, ho1, hb⟩; refine ⟨_, rfl, ?_⟩; have HO593 := aZ (Kd.R_lower (Kd.R_new' (Kd.R_mono (ok' := fun k_ => True) ho0 (fun _ hk_ => trivial)) (Kd.R_lt (kR HO_9.out))) (below_size bB)); have HO596 := aZ (Kd.N_lower (Kd.N_mono (ok' := fun k_ => some k_ ≠ (v592 : Value).ownBlock ∧ k_ ≠ gb584) ho1 (fun k_ hk_ => ⟨hk_.2, Or.elim hk_.1 (fun hs_ => ((Kd.R_types (HO_9.out) BK584.out (by decide)).1 k_ hs_.symm).2) (fun hn_ => (Kd.freshB (g := gb584) (o := .cells #[.int .u8 (Go.bits .or .u8 (Go.bits .and .u8 a1 31) 160), .slice none 0 0, .slice A0 l0.length c0] 43 (0, 0)) (kB BK584.out) k_ hn_))⟩)) (below_size bB)); replace HO_9 := aZ (Kd.R_elder' (kR HO_9.out) (Kd.R_base ho0) hb); replace BK584 := aZ (bkB BK584.out hb); replace HB := aZ (below_step bB hb); (try clear hb); (try clear hb2); (try clear hk); (try clear hi); (try clear ho0); (try clear ho1)) | ((with_reducible refine gD 11 rfl ?_); (try (refine gate_guard (by rfl) ?_; dsimp only)); refine bxE (N := 11) (cs := #[.int .u8 0, .slice none 0 0, .slice none 0 0]) (t := 43) ?_; intro gb599 hg w20 hbox hb; replace HO_9 := aZ (Kd.R_below (kR HO_9.out) hb); replace HO593 := aZ (Kd.R_below (kR HO593.out) hb); replace HO596 := aZ (Kd.N_below (Kd.N_elderB (kN HO596.out) gb599 (Nat.le_of_eq hg.symm)) hb); have BK599 := aZ (hbox); have GW599 := aZ (gwB hg : w.heap.size ≤ gb599); have GE599 := aZ (gwB hg : w.heap.size ≤ gb599); replace HB := aZ (below_step bB hb); have NB584_599 := aZ (nbL BK584.out hg); have NB599_584 := aZ (nbR BK584.out hg); replace BK584 := aZ (bkB BK584.out hb); clear hb hbox hg; have hnb21 := NB599_584.out; have hnc21 := NB584_599.out; obtain ⟨hcz22_0, hcz22_1, hcz22_2⟩ := cz3 (w := w20) BK599.out; obtain ⟨hfz22_0, hfz22_1, hfz22_2⟩ := fz3 BK599.out; obtain ⟨Ao23, co23, eo23⟩ := Kd.R_slice HO593.out; subst eo23; obtain ⟨Ao24, co24, eo24⟩ := Kd.N_slice HO596.out; subst eo24))
    (try simp only [Act.put, List.setIfInBounds_toArray, List.set_cons_zero, List.set_cons_succ])
    go_cut [54] (fun v54 wc => ∃ (kq : Nat) (x54_16 : Bool), v54 = .bool x54_16 ∧ Aside0 (warderlaw04_NodesInner.j1 kq l0 a2 t583 t585 x54_16 t590 t591 t594 = some r) ∧ Aside0 (kq ≤ kj5) ∧ Aside0 (Kd.R (Kd.int .u8) 5 wc w.heap.size (fun k_ => some k_ ≠ ((.slice Ao23 t591.length co23) : Value).ownBlock) (.slice Ao18 t585.length co18) t585) ∧ Aside0 (Kd.R (Kd.int .u8) 5 wc w.heap.size (fun k_ => some k_ ≠ ((.slice Ao18 t585.length co18) : Value).ownBlock) (.slice Ao23 t591.length co23) t591) ∧ Aside0 (Kd.N k43 43 wc w.heap.size (fun k_ => some k_ ≠ ((.slice Ao23 t591.length co23) : Value).ownBlock ∧ k_ ≠ gb584 ∧ k_ ≠ gb599) (.slice Ao24 t594.length co24) t594) ∧ Aside0 (wc.heap[gb584]? = some (.cells #[.int .u8 (Go.bits .or .u8 (Go.bits .and .u8 a1 31) 160), (.slice none 0 0), (.slice A0 l0.length c0)] 43 (0, 0))) ∧ Aside0 (wc.heap[gb599]? = some (.cells #[.int .u8 t590, (.slice Ao23 t591.length co23), (.slice Ao24 t594.length co24)] 43 (0, 0))) ∧ Aside0 (Below w.heap.size w wc))
    case first =>
     have H := HC17.out
     clear HC17
     by_cases c25 : t598 = 0
     ·rw [if_pos c25] at H
      have c25b0 : (t598 == 0) = true := beq_iff_eq.mpr c25
      have c25b1 : (t598 != 0) = false := bne_eq_false_iff_eq.mpr c25
      clear c25
      (first | rw [c25b0] | (simp only [i64_w, i32_w]; rw [c25b0]) | skip)
      have H' := aZ H
      clear H
      have hnb26 := NB599_584.out
      have hnc26 := NB584_599.out
      obtain ⟨hcz27_0, hcz27_1, hcz27_2⟩ := cz3 (w := w20) BK599.out
      obtain ⟨hfz27_0, hfz27_1, hfz27_2⟩ := fz3 BK599.out
      go_wp2
      go_meet
      case rel => exact ⟨_, (((t594.length : Int) != (l0.length : Int))), rS, H', ⟨by have := HJ5.out; first | omega | exact Nat.le_refl _⟩, ⟨by refine kR ?_; exact Kd.R_mono (Kd.R_far (p := ⟨gb599, 2, none⟩) (Kd.R_far (p := ⟨gb599, 1, none⟩) (Kd.R_far (p := ⟨gb599, 0, none⟩) (Kd.R_types HO_9.out BK599.out (by decide)) (fun _ hk => hk.2) (.int .u8 t590)) (fun _ hk => hk.2) (.slice Ao23 t591.length co23)) (fun _ hk => hk.2) (.slice Ao24 t594.length co24)) (fun _ hk => hk.1.2)⟩, ⟨by refine kR ?_; exact Kd.R_mono (Kd.R_far (p := ⟨gb599, 2, none⟩) (Kd.R_far (p := ⟨gb599, 1, none⟩) (Kd.R_far (p := ⟨gb599, 0, none⟩) (Kd.R_types HO593.out BK599.out (by decide)) (fun _ hk => hk.2) (.int .u8 t590)) (fun _ hk => hk.2) (.slice Ao23 t591.length co23)) (fun _ hk => hk.2) (.slice Ao24 t594.length co24)) (fun _ hk => hk.1.2)⟩, ⟨by refine kN ?_; exact Kd.N_mono (Kd.N_far (p := ⟨gb599, 2, none⟩) (Kd.N_far (p := ⟨gb599, 1, none⟩) (Kd.N_far (p := ⟨gb599, 0, none⟩) (Kd.N_mono HO596.out (fun k_ hk => (⟨hk, hk.2⟩ : _ ∧ k_ ≠ gb599))) (fun _ hk => hk.2) (.int .u8 t590)) (fun _ hk => hk.2) (.slice Ao23 t591.length co23)) (fun _ hk => hk.2) (.slice Ao24 t594.length co24)) (fun _ hk => ⟨hk.1.1.1, ⟨hk.1.1.2, hk.1.2⟩⟩)⟩, ⟨by refine kB ?_; refine blk_far ?_ NB584_599.out _; refine kB ?_; refine blk_far ?_ NB584_599.out _; refine kB ?_; refine blk_far ?_ NB584_599.out _; refine kB ?_; exact BK584.out⟩, ⟨by refine kB ?_; refine blk_put (cs := #[.int .u8 t590, .slice Ao23 t591.length co23, .slice none 0 0]) ?_ 2 _ rfl; refine kB ?_; refine blk_put (cs := #[.int .u8 t590, .slice none 0 0, .slice none 0 0]) ?_ 1 _ rfl; refine kB ?_; refine blk_put (cs := #[.int .u8 0, .slice none 0 0, .slice none 0 0]) ?_ 0 _ rfl; refine kB ?_; exact BK599.out⟩, ⟨bB⟩⟩
     ·rw [if_neg c25] at H
      have c25b0 : (t598 == 0) = false := beq_eq_false_iff_ne.mpr c25
      have c25b1 : (t598 != 0) = true := bne_iff_ne.mpr c25
      (first | rw [c25b0] | (simp only [i64_w, i32_w]; rw [c25b0]) | skip)
      have H' := aZ H
      clear H
      go_wp2
      go_meet
      case rel => exact ⟨_, (true), rS, H', ⟨by have := HJ5.out; first | omega | exact Nat.le_refl _⟩, ⟨by refine kR ?_; exact Kd.R_mono (Kd.R_far (p := ⟨gb599, 2, none⟩) (Kd.R_far (p := ⟨gb599, 1, none⟩) (Kd.R_far (p := ⟨gb599, 0, none⟩) (Kd.R_types HO_9.out BK599.out (by decide)) (fun _ hk => hk.2) (.int .u8 t590)) (fun _ hk => hk.2) (.slice Ao23 t591.length co23)) (fun _ hk => hk.2) (.slice Ao24 t594.length co24)) (fun _ hk => hk.1.2)⟩, ⟨by refine kR ?_; exact Kd.R_mono (Kd.R_far (p := ⟨gb599, 2, none⟩) (Kd.R_far (p := ⟨gb599, 1, none⟩) (Kd.R_far (p := ⟨gb599, 0, none⟩) (Kd.R_types HO593.out BK599.out (by decide)) (fun _ hk => hk.2) (.int .u8 t590)) (fun _ hk => hk.2) (.slice Ao23 t591.length co23)) (fun _ hk => hk.2) (.slice Ao24 t594.length co24)) (fun _ hk => hk.1.2)⟩, ⟨by refine kN ?_; exact Kd.N_mono (Kd.N_far (p := ⟨gb599, 2, none⟩) (Kd.N_far (p := ⟨gb599, 1, none⟩) (Kd.N_far (p := ⟨gb599, 0, none⟩) (Kd.N_mono HO596.out (fun k_ hk => (⟨hk, hk.2⟩ : _ ∧ k_ ≠ gb599))) (fun _ hk => hk.2) (.int .u8 t590)) (fun _ hk => hk.2) (.slice Ao23 t591.length co23)) (fun _ hk => hk.2) (.slice Ao24 t594.length co24)) (fun _ hk => ⟨hk.1.1.1, ⟨hk.1.1.2, hk.1.2⟩⟩)⟩, ⟨by refine kB ?_; refine blk_far ?_ NB584_599.out _; refine kB ?_; refine blk_far ?_ NB584_599.out _; refine kB ?_; refine blk_far ?_ NB584_599.out _; refine kB ?_; exact BK584.out⟩, ⟨by refine kB ?_; refine blk_put (cs := #[.int .u8 t590, .slice Ao23 t591.length co23, .slice none 0 0]) ?_ 2 _ rfl; refine kB ?_; refine blk_put (cs := #[.int .u8 t590, .slice none 0 0, .slice none 0 0]) ?_ 1 _ rfl; refine kB ?_; refine blk_put (cs := #[.int .u8 0, .slice none 0 0, .slice none 0 0]) ?_ 0 _ rfl; refine kB ?_; exact BK599.out⟩, ⟨bB⟩⟩
    case rest =>
     clear HC17
     try clear c1
     try clear c2
     try clear p2
     try clear c8
     try clear c11
     try clear c11b0
     try clear c11b1
     try clear c15
     try clear c21
     try clear c22
     try clear c23
     try clear c25
     try clear c25b0
     try clear c25b1
     try clear c26
     try clear c27
     try clear hcz13_0
     try clear hcz13_1
     try clear hcz13_2
     try clear hcz22_0
     try clear hcz22_1
     try clear hcz22_2
     try clear hcz27_0
     try clear hcz27_1
     try clear hcz27_2
     try clear hcz9_0
     try clear hcz9_1
     try clear hcz9_2
     try clear hfz13_0
     try clear hfz13_1
     try clear hfz13_2
     try clear hfz22_0
     try clear hfz22_1
     try clear hfz22_2
     try clear hfz27_0
     try clear hfz27_1
     try clear hfz27_2
     try clear hfz9_0
     try clear hfz9_1
     try clear hfz9_2
     try clear p2
     obtain ⟨kq, x54_16, rfl, HA, HJ16, HO_9, HO_600001, HO_600002, BK584, BK599, HB⟩ := hcut
     cases kq with
     | zero => exact absurd HA.out (by simp [warderlaw04_NodesInner.j1])
     | succ kj16 =>
      have H := HA.out
      clear HA
      simp only [warderlaw04_NodesInner.j1] at H
      by_cases c28 : x54_16 = true
      ·subst c28
       rw [if_pos rfl] at H
       obtain rfl := Option.some.inj H
       go_wp2
       go_ret
       exact ⟨rF, bB⟩
      ·replace c28 := Bool.eq_false_iff.mpr c28
       subst c28
       rw [if_neg (show ¬ (false = true) by decide)] at H
       have H' := aZ H
       clear H
       go_wp2
       go_loopg [14] kj16 (fun kq v14 w' => ∃ (x14_3 : Int), v14 = .int .i64 x14_3 ∧ Aside0 (warderlaw04_NodesInner.l0 kq l0 a2 t583 t585 x14_3 t590 t591 t594 = some r) ∧ Aside0 (kq ≤ kj16) ∧ Aside0 (Kd.R (Kd.int .u8) 5 w' w.heap.size (fun k_ => some k_ ≠ ((.slice Ao23 t591.length co23) : Value).ownBlock) (.slice Ao18 t585.length co18) t585) ∧ Aside0 (Kd.R (Kd.int .u8) 5 w' w.heap.size (fun k_ => some k_ ≠ ((.slice Ao18 t585.length co18) : Value).ownBlock) (.slice Ao23 t591.length co23) t591) ∧ Aside0 (Kd.N k43 43 w' w.heap.size (fun k_ => some k_ ≠ ((.slice Ao23 t591.length co23) : Value).ownBlock ∧ k_ ≠ gb584 ∧ k_ ≠ gb599) (.slice Ao24 t594.length co24) t594) ∧ Aside0 (w'.heap[gb584]? = some (.cells #[.int .u8 (Go.bits .or .u8 (Go.bits .and .u8 a1 31) 160), (.slice none 0 0), (.slice A0 l0.length c0)] 43 (0, 0))) ∧ Aside0 (w'.heap[gb599]? = some (.cells #[.int .u8 t590, (.slice Ao23 t591.length co23), (.slice Ao24 t594.length co24)] 43 (0, 0))) ∧ Aside0 (Below w.heap.size w w'))
       case atStart => exact ⟨(0), rS, H', ⟨Nat.le_refl _⟩, ⟨by refine kR ?_; exact HO_9.out⟩, ⟨by refine kR ?_; exact HO_600001.out⟩, ⟨by refine kN ?_; exact HO_600002.out⟩, ⟨by refine kB ?_; exact BK584.out⟩, ⟨by refine kB ?_; exact BK599.out⟩, ⟨bB⟩⟩
       case round =>
        clear H'
        try clear c1
        try clear c2
        try clear p2
        try clear c8
        try clear c11
        try clear c11b0
        try clear c11b1
        try clear c15
        try clear c21
        try clear c22
        try clear c23
        try clear c25
        try clear c25b0
        try clear c25b1
        try clear c26
        try clear c27
        try clear c28
        try clear hcz13_0
        try clear hcz13_1
        try clear hcz13_2
        try clear hcz22_0
        try clear hcz22_1
        try clear hcz22_2
        try clear hcz27_0
        try clear hcz27_1
        try clear hcz27_2
        try clear hcz9_0
        try clear hcz9_1
        try clear hcz9_2
        try clear hfz13_0
        try clear hfz13_1
        try clear hfz13_2
        try clear hfz22_0
        try clear hfz22_1
        try clear hfz22_2
        try clear hfz27_0
        try clear hfz27_1
        try clear hfz27_2
        try clear hfz9_0
        try clear hfz9_1
        try clear hfz9_2
        try clear p2
        obtain ⟨x14_3, rfl, HA, HK3, HO_9, HO_600001, HO_600002, BK584, BK599, HB⟩ := hrel
        cases gk with
        | zero => exact absurd HA.out (by simp [warderlaw04_NodesInner.l0])
        | succ k3 =>
         have H := HA.out
         clear HA
         simp only [warderlaw04_NodesInner.l0] at H
         by_cases c29 : x14_3 < (l0.length : Int)
         ·rw [if_pos c29] at H
          have c29b0 : decide (x14_3 < (l0.length : Int)) = true := decide_eq_true c29
          clear c29
          by_cases c30 : 0 ≤ x14_3
          ·rw [if_pos c30] at H
           have c30b0 : decide (0 ≤ x14_3) = true := decide_eq_true c30
           clear c30
           replace H := Option.bind_eq_some_iff.mp H
           obtain ⟨⟨t615, t618⟩, A310, H⟩ := H
           try dsimp only at H
           have A31 := aZ A310
           clear A310
           replace H := Option.bind_eq_some_iff.mp H
           obtain ⟨⟨t619, t620, t623, t626, t627⟩, A320, H⟩ := H
           try dsimp only at H
           have A32 := aZ A320
           clear A320
           by_cases c33 : t618 = 0
           ·rw [if_pos c33] at H
            have c33b0 : (t618 == 0) = true := beq_iff_eq.mpr c33
            have c33b1 : (t618 != 0) = false := bne_eq_false_iff_eq.mpr c33
            clear c33
            by_cases c34 : t627 = 0
            ·rw [if_pos c34] at H
             have c34b0 : (t627 == 0) = true := beq_iff_eq.mpr c34
             have c34b1 : (t627 != 0) = false := bne_eq_false_iff_eq.mpr c34
             clear c34
             by_cases c35 : x14_3 < (t594.length : Int)
             ·rw [if_pos c35] at H
              have c35b0 : decide (x14_3 < (t594.length : Int)) = true := decide_eq_true c35
              clear c35
              replace H := Option.bind_eq_some_iff.mp H
              obtain ⟨t630, A360, H⟩ := H
              try dsimp only at H
              have A36 := aZ A360
              clear A360
              by_cases c37 : t630 = true
              ·subst c37
               rw [if_pos rfl] at H
               have H' := aZ H
               clear H
               have p614 : 0 ≤ (x14_3 : Int) := oD
               have q614 : x14_3 < (l0.length : Int) := oD
               obtain ⟨ad614, A614_1, c614_1, A614_2, c614_2, e614, hx614_0, hx614_1, hx614_2, hl614_1, hi614_1, hl614_2, hi614_2⟩ := at_T43 HR0.out x14_3 p614 q614
               cases e614
               replace hx614_0 := (HB.out.cell (World.block_lt_of_cell? w _ hx614_0)).trans hx614_0
               replace hx614_1 := (HB.out.cell (World.block_lt_of_cell? w _ hx614_1)).trans hx614_1
               replace hx614_2 := (HB.out.cell (World.block_lt_of_cell? w _ hx614_2)).trans hx614_2
               have HR614_1 := aZ hi614_1
               have HC614_1 := aZ hl614_1
               clear hi614_1 hl614_1
               have HR614_2 := aZ hi614_2
               have HC614_2 := aZ hl614_2
               clear hi614_2 hl614_2
               replace p614 := eq_true p614
               replace q614 := eq_true q614
               try go_wp2_with (first | ((with_reducible refine gC 27 rfl ?_); refine goL (some 66) Tryd.func27 #[.agg #[.int .u8 ((rd_T43 l0 x14_3).f0), .slice A614_1 ((rd_T43 l0 x14_3).f1).length c614_1, .slice A614_2 ((rd_T43 l0 x14_3).f2).length c614_2]] ?_; (with_reducible refine (nodes_Print.calls k3 ((rd_T43 l0 x14_3).f0) _ _ ((rd_T43 l0 x14_3).f1) _ _ ((rd_T43 l0 x14_3).f2) t615 t618 _ ?side1 ?side2 ?side3 ?side4 ?side5 A31.out).mono ?_); (case side1 => exact hTU); (case side2 => exact kC (Kd.C_below HR614_1.out HB.out)); (case side3 => exact HC614_1.out); (case side4 => exact kC (Kd.C_below HR614_2.out HB.out)); (case side5 => exact HC614_2.out); rintro e w38 ⟨v616, rfl, ho0, hb⟩; refine ⟨_, rfl, ?_⟩; replace HO_600002 := aZ (Kd.N_elder' (kN HO_600002.out) (Kd.R_base ho0) hb); have HO617 := aZ (Kd.R_lower (Kd.R_new' (Kd.R_new' ho0 (Kd.R_lt (kR HO_9.out))) (Kd.R_lt (kR HO_600001.out))) (below_size bB)); replace HO_9 := aZ (Kd.R_elder' (kR HO_9.out) (Kd.R_base ho0) hb); replace HO_600001 := aZ (Kd.R_elder' (kR HO_600001.out) (Kd.R_base ho0) hb); replace BK584 := aZ (bkB BK584.out hb); replace BK599 := aZ (bkB BK599.out hb); replace HB := aZ (below_step bB hb); (try clear hb); (try clear hb2); (try clear hk); (try clear hi); (try clear ho0); obtain ⟨Ao39, co39, eo39⟩ := Kd.R_slice HO617.out; subst eo39) | ((with_reducible refine gC 23 rfl ?_); refine goL (some 71) Tryd.func23 #[.slice Ao39 t615.length co39] ?_; (with_reducible refine (nodes_Parse.calls k3 (fun k_ => some k_ = (.slice Ao39 t615.length co39 : Value).ownBlock) _ _ t615 t619 t620 t623 t626 t627 _ ?side1 ?side2 A32.out).mono ?_); (case side1 => exact hTU); (case side2 => exact Kd.R_V (Kd.R_tight rfl (Kd.R_types (Kd.R_types (Kd.R_apart' (HO617.out) (Kd.N_typed HO_600002.out) (by decide)) BK584.out (by decide)) BK599.out (by decide)))); rintro e w40 ⟨v621, v624, rfl, ho0, ho1, hb⟩; refine ⟨_, rfl, ?_⟩; have HO622 := aZ (Kd.R_lower (Kd.R_new' (Kd.R_new' (Kd.R_new' (Kd.R_mono (ok' := fun k_ => True) ho0 (fun _ hk_ => trivial)) (Kd.R_lt (kR HO_9.out))) (Kd.R_lt (kR HO_600001.out))) (Kd.R_lt (kR HO617.out))) (below_size bB)); have HO625 := aZ (Kd.N_lower (Kd.N_mono (ok' := fun k_ => some k_ ≠ (v621 : Value).ownBlock ∧ some k_ ≠ (.slice Ao18 t585.length co18 : Value).ownBlock ∧ some k_ ≠ (.slice Ao23 t591.length co23 : Value).ownBlock ∧ some k_ ≠ (.slice Ao24 t594.length co24 : Value).ownBlock ∧ k_ ≠ gb584 ∧ k_ ≠ gb599) ho1 (fun k_ hk_ => ⟨hk_.2, Or.elim hk_.1 (fun hs_ => ((Kd.R_types (Kd.R_types (Kd.R_apart' (HO617.out) (Kd.N_typed HO_600002.out) (by decide)) BK584.out (by decide)) BK599.out (by decide)).1 k_ hs_.symm).1.1.1.1.2) (fun hn_ => (Kd.fresh' (Kd.R_lt (kR HO_9.out)) k_ hn_)), Or.elim hk_.1 (fun hs_ => ((Kd.R_types (Kd.R_types (Kd.R_apart' (HO617.out) (Kd.N_typed HO_600002.out) (by decide)) BK584.out (by decide)) BK599.out (by decide)).1 k_ hs_.symm).1.1.1.2) (fun hn_ => (Kd.fresh' (Kd.R_lt (kR HO_600001.out)) k_ hn_)), Or.elim hk_.1 (fun hs_ => ((Kd.R_types (Kd.R_types (Kd.R_apart' (HO617.out) (Kd.N_typed HO_600002.out) (by decide)) BK584.out (by decide)) BK599.out (by decide)).1 k_ hs_.symm).1.1.2) (fun hn_ => (Kd.fresh' (Kd.N_lt (kN HO_600002.out)) k_ hn_)), Or.elim hk_.1 (fun hs_ => ((Kd.R_types (Kd.R_types (Kd.R_apart' (HO617.out) (Kd.N_typed HO_600002.out) (by decide)) BK584.out (by decide)) BK599.out (by decide)).1 k_ hs_.symm).1.2) (fun hn_ => (Kd.freshB (g := gb584) (o := .cells #[.int .u8 (Go.bits .or .u8 (Go.bits .and .u8 a1 31) 160), .slice none 0 0, .slice (some ad614) l0.length c0] 43 (0, 0)) (kB BK584.out) k_ hn_)), Or.elim hk_.1 (fun hs_ => ((Kd.R_types (Kd.R_types (Kd.R_apart' (HO617.out) (Kd.N_typed HO_600002.out) (by decide)) BK584.out (by decide)) BK599.out (by decide)).1 k_ hs_.symm).2) (fun hn_ => (Kd.freshB (g := gb599) (o := .cells #[.int .u8 t590, .slice Ao23 t591.length co23, .slice Ao24 t594.length co24] 43 (0, 0)) (kB BK599.out) k_ hn_))⟩)) (below_size bB)); replace HO_9 := aZ (Kd.R_elder' (kR HO_9.out) (Kd.R_base ho0) hb); replace HO_600001 := aZ (Kd.R_elder' (kR HO_600001.out) (Kd.R_base ho0) hb); replace HO_600002 := aZ (Kd.N_mono (Kd.N_told (Kd.N_told (Kd.N_old (kN HO_600002.out) hb) (Kd.R_base ho0)) (Kd.N_base ho1)) (fun _ h_ => h_.1)); replace HO617 := aZ (Kd.R_elder' (kR HO617.out) (Kd.R_base ho0) hb); replace BK584 := aZ (bkB BK584.out hb); replace BK599 := aZ (bkB BK599.out hb); replace HB := aZ (below_step bB hb); (try clear hb); (try clear hb2); (try clear hk); (try clear hi); (try clear ho0); (try clear ho1)) | ((with_reducible refine gD 17 rfl ?_); (try (refine gate_guard (by rfl) ?_; dsimp only)); refine bxE (N := 17) (cs := #[.int .u8 0, .slice none 0 0, .slice none 0 0]) (t := 43) ?_; intro gb628 hg w41 hbox hb; replace HO_9 := aZ (Kd.R_below (kR HO_9.out) hb); replace HO_600001 := aZ (Kd.R_below (kR HO_600001.out) hb); replace HO_600002 := aZ (Kd.N_below (Kd.N_elderB (kN HO_600002.out) gb628 (Nat.le_of_eq hg.symm)) hb); replace HO617 := aZ (Kd.R_below (kR HO617.out) hb); replace HO622 := aZ (Kd.R_below (kR HO622.out) hb); replace HO625 := aZ (Kd.N_below (Kd.N_elderB (kN HO625.out) gb628 (Nat.le_of_eq hg.symm)) hb); have BK628 := aZ (hbox); have GW628 := aZ (gwB hg : w.heap.size ≤ gb628); have GE628 := aZ (gwB hg : w.heap.size ≤ gb628); replace HB := aZ (below_step bB hb); have NB584_628 := aZ (nbL BK584.out hg); have NB628_584 := aZ (nbR BK584.out hg); replace BK584 := aZ (bkB BK584.out hb); have NB599_628 := aZ (nbL BK599.out hg); have NB628_599 := aZ (nbR BK599.out hg); replace BK599 := aZ (bkB BK599.out hb); clear hb hbox hg; have hnb42 := NB628_584.out; have hnc42 := NB584_628.out; have hnb43 := NB628_599.out; have hnc43 := NB599_628.out; obtain ⟨hcz44_0, hcz44_1, hcz44_2⟩ := cz3 (w := w41) BK628.out; obtain ⟨hfz44_0, hfz44_1, hfz44_2⟩ := fz3 BK628.out; obtain ⟨Ao45, co45, eo45⟩ := Kd.R_slice HO622.out; subst eo45; obtain ⟨Ao46, co46, eo46⟩ := Kd.N_slice HO625.out; subst eo46))
               have n0_ : Aside0 (Kd.R (Kd.int .u8) 5 (((w41.setCell ⟨gb628, 0, none⟩ (.int .u8 t619)).setCell ⟨gb628, 1, none⟩ (.slice Ao45 t620.length co45)).setCell ⟨gb628, 2, none⟩ (.slice Ao46 t623.length co46)) w.heap.size (fun k_ => some k_ ≠ (.slice Ao23 t591.length co23 : Value).ownBlock ∧ some k_ ≠ (.slice Ao39 t615.length co39 : Value).ownBlock ∧ some k_ ≠ (.slice Ao45 t620.length co45 : Value).ownBlock) (.slice Ao18 t585.length co18) t585) := ⟨by refine kR ?_; exact Kd.R_mono (Kd.R_far (p := ⟨gb628, 2, none⟩) (Kd.R_far (p := ⟨gb628, 1, none⟩) (Kd.R_far (p := ⟨gb628, 0, none⟩) (Kd.R_types HO_9.out BK628.out (by decide)) (fun _ hk => hk.2) (.int .u8 t619)) (fun _ hk => hk.2) (.slice Ao45 t620.length co45)) (fun _ hk => hk.2) (.slice Ao46 t623.length co46)) (fun _ hk => ⟨hk.1.1.1, ⟨hk.1.1.2, hk.1.2⟩⟩)⟩
               have n1_ : Aside0 (Kd.R (Kd.int .u8) 5 (((w41.setCell ⟨gb628, 0, none⟩ (.int .u8 t619)).setCell ⟨gb628, 1, none⟩ (.slice Ao45 t620.length co45)).setCell ⟨gb628, 2, none⟩ (.slice Ao46 t623.length co46)) w.heap.size (fun k_ => some k_ ≠ (.slice Ao18 t585.length co18 : Value).ownBlock ∧ some k_ ≠ (.slice Ao39 t615.length co39 : Value).ownBlock ∧ some k_ ≠ (.slice Ao45 t620.length co45 : Value).ownBlock) (.slice Ao23 t591.length co23) t591) := ⟨by refine kR ?_; exact Kd.R_mono (Kd.R_far (p := ⟨gb628, 2, none⟩) (Kd.R_far (p := ⟨gb628, 1, none⟩) (Kd.R_far (p := ⟨gb628, 0, none⟩) (Kd.R_types HO_600001.out BK628.out (by decide)) (fun _ hk => hk.2) (.int .u8 t619)) (fun _ hk => hk.2) (.slice Ao45 t620.length co45)) (fun _ hk => hk.2) (.slice Ao46 t623.length co46)) (fun _ hk => ⟨hk.1.1.1, ⟨hk.1.1.2, hk.1.2⟩⟩)⟩
               have n2_ : Aside0 (Kd.N k43 43 (((w41.setCell ⟨gb628, 0, none⟩ (.int .u8 t619)).setCell ⟨gb628, 1, none⟩ (.slice Ao45 t620.length co45)).setCell ⟨gb628, 2, none⟩ (.slice Ao46 t623.length co46)) w.heap.size (fun k_ => some k_ ≠ (.slice Ao23 t591.length co23 : Value).ownBlock ∧ some k_ ≠ (.slice Ao39 t615.length co39 : Value).ownBlock ∧ some k_ ≠ (.slice Ao45 t620.length co45 : Value).ownBlock ∧ some k_ ≠ (.slice Ao46 t623.length co46 : Value).ownBlock ∧ k_ ≠ gb584 ∧ k_ ≠ gb599 ∧ k_ ≠ gb628) (.slice Ao24 t594.length co24) t594) := ⟨by refine kN ?_; exact Kd.N_mono (Kd.N_far (p := ⟨gb628, 2, none⟩) (Kd.N_far (p := ⟨gb628, 1, none⟩) (Kd.N_far (p := ⟨gb628, 0, none⟩) (Kd.N_mono HO_600002.out (fun k_ hk => (⟨hk, hk.2⟩ : _ ∧ k_ ≠ gb628))) (fun _ hk => hk.2) (.int .u8 t619)) (fun _ hk => hk.2) (.slice Ao45 t620.length co45)) (fun _ hk => hk.2) (.slice Ao46 t623.length co46)) (fun _ hk => ⟨hk.1.1.1.1.1.1, ⟨hk.1.1.1.1.2, ⟨hk.1.1.1.2, ⟨hk.1.1.2, ⟨hk.1.1.1.1.1.2.1, ⟨hk.1.1.1.1.1.2.2, hk.1.2⟩⟩⟩⟩⟩⟩)⟩
               have n3_ : Aside0 (Kd.R (Kd.int .u8) 5 (((w41.setCell ⟨gb628, 0, none⟩ (.int .u8 t619)).setCell ⟨gb628, 1, none⟩ (.slice Ao45 t620.length co45)).setCell ⟨gb628, 2, none⟩ (.slice Ao46 t623.length co46)) w.heap.size (fun k_ => some k_ ≠ (.slice Ao18 t585.length co18 : Value).ownBlock ∧ some k_ ≠ (.slice Ao23 t591.length co23 : Value).ownBlock ∧ some k_ ≠ (.slice Ao45 t620.length co45 : Value).ownBlock) (.slice Ao39 t615.length co39) t615) := ⟨by refine kR ?_; exact Kd.R_mono (Kd.R_far (p := ⟨gb628, 2, none⟩) (Kd.R_far (p := ⟨gb628, 1, none⟩) (Kd.R_far (p := ⟨gb628, 0, none⟩) (Kd.R_types HO617.out BK628.out (by decide)) (fun _ hk => hk.2) (.int .u8 t619)) (fun _ hk => hk.2) (.slice Ao45 t620.length co45)) (fun _ hk => hk.2) (.slice Ao46 t623.length co46)) (fun _ hk => ⟨hk.1.1.1.2, ⟨hk.1.1.2, hk.1.2⟩⟩)⟩
               have n4_ : Aside0 (Kd.R (Kd.int .u8) 5 (((w41.setCell ⟨gb628, 0, none⟩ (.int .u8 t619)).setCell ⟨gb628, 1, none⟩ (.slice Ao45 t620.length co45)).setCell ⟨gb628, 2, none⟩ (.slice Ao46 t623.length co46)) w.heap.size (fun k_ => some k_ ≠ (.slice Ao18 t585.length co18 : Value).ownBlock ∧ some k_ ≠ (.slice Ao23 t591.length co23 : Value).ownBlock ∧ some k_ ≠ (.slice Ao39 t615.length co39 : Value).ownBlock) (.slice Ao45 t620.length co45) t620) := ⟨by refine kR ?_; exact Kd.R_mono (Kd.R_far (p := ⟨gb628, 2, none⟩) (Kd.R_far (p := ⟨gb628, 1, none⟩) (Kd.R_far (p := ⟨gb628, 0, none⟩) (Kd.R_types HO622.out BK628.out (by decide)) (fun _ hk => hk.2) (.int .u8 t619)) (fun _ hk => hk.2) (.slice Ao45 t620.length co45)) (fun _ hk => hk.2) (.slice Ao46 t623.length co46)) (fun _ hk => ⟨hk.1.1.1.2, ⟨hk.1.1.2, hk.1.2⟩⟩)⟩
               have n5_ : Aside0 (Kd.N k43 43 (((w41.setCell ⟨gb628, 0, none⟩ (.int .u8 t619)).setCell ⟨gb628, 1, none⟩ (.slice Ao45 t620.length co45)).setCell ⟨gb628, 2, none⟩ (.slice Ao46 t623.length co46)) w.heap.size (fun k_ => some k_ ≠ (.slice Ao18 t585.length co18 : Value).ownBlock ∧ some k_ ≠ (.slice Ao23 t591.length co23 : Value).ownBlock ∧ some k_ ≠ (.slice Ao24 t594.length co24 : Value).ownBlock ∧ some k_ ≠ (.slice Ao45 t620.length co45 : Value).ownBlock ∧ k_ ≠ gb584 ∧ k_ ≠ gb599 ∧ k_ ≠ gb628) (.slice Ao46 t623.length co46) t623) := ⟨by refine kN ?_; exact Kd.N_mono (Kd.N_far (p := ⟨gb628, 2, none⟩) (Kd.N_far (p := ⟨gb628, 1, none⟩) (Kd.N_far (p := ⟨gb628, 0, none⟩) (Kd.N_mono HO625.out (fun k_ hk => (⟨hk, hk.2⟩ : _ ∧ k_ ≠ gb628))) (fun _ hk => hk.2) (.int .u8 t619)) (fun _ hk => hk.2) (.slice Ao45 t620.length co45)) (fun _ hk => hk.2) (.slice Ao46 t623.length co46)) (fun _ hk => ⟨hk.1.1.2.1, ⟨hk.1.1.2.2.1, ⟨hk.1.1.2.2.2.1, ⟨hk.1.1.1, ⟨hk.1.1.2.2.2.2.1, ⟨hk.1.1.2.2.2.2.2, hk.1.2⟩⟩⟩⟩⟩⟩)⟩
               have n6_ : Aside0 ((((w41.setCell ⟨gb628, 0, none⟩ (.int .u8 t619)).setCell ⟨gb628, 1, none⟩ (.slice Ao45 t620.length co45)).setCell ⟨gb628, 2, none⟩ (.slice Ao46 t623.length co46)).heap[gb584]? = some (.cells #[.int .u8 (Go.bits .or .u8 (Go.bits .and .u8 a1 31) 160), .slice none 0 0, .slice (some ad614) l0.length c0] 43 (0, 0))) := ⟨by refine kB ?_; refine blk_far ?_ NB584_628.out _; refine kB ?_; refine blk_far ?_ NB584_628.out _; refine kB ?_; refine blk_far ?_ NB584_628.out _; refine kB ?_; exact BK584.out⟩
               have n7_ : Aside0 ((((w41.setCell ⟨gb628, 0, none⟩ (.int .u8 t619)).setCell ⟨gb628, 1, none⟩ (.slice Ao45 t620.length co45)).setCell ⟨gb628, 2, none⟩ (.slice Ao46 t623.length co46)).heap[gb599]? = some (.cells #[.int .u8 t590, .slice Ao23 t591.length co23, .slice Ao24 t594.length co24] 43 (0, 0))) := ⟨by refine kB ?_; refine blk_far ?_ NB599_628.out _; refine kB ?_; refine blk_far ?_ NB599_628.out _; refine kB ?_; refine blk_far ?_ NB599_628.out _; refine kB ?_; exact BK599.out⟩
               have n8_ : Aside0 ((((w41.setCell ⟨gb628, 0, none⟩ (.int .u8 t619)).setCell ⟨gb628, 1, none⟩ (.slice Ao45 t620.length co45)).setCell ⟨gb628, 2, none⟩ (.slice Ao46 t623.length co46)).heap[gb628]? = some (.cells #[.int .u8 t619, .slice Ao45 t620.length co45, .slice Ao46 t623.length co46] 43 (0, 0))) := ⟨by refine kB ?_; refine blk_put (cs := #[.int .u8 t619, .slice Ao45 t620.length co45, .slice none 0 0]) ?_ 2 _ rfl; refine kB ?_; refine blk_put (cs := #[.int .u8 t619, .slice none 0 0, .slice none 0 0]) ?_ 1 _ rfl; refine kB ?_; refine blk_put (cs := #[.int .u8 0, .slice none 0 0, .slice none 0 0]) ?_ 0 _ rfl; refine kB ?_; exact BK628.out⟩
               have n9_ : Aside0 (Below w.heap.size w (((w41.setCell ⟨gb628, 0, none⟩ (.int .u8 t619)).setCell ⟨gb628, 1, none⟩ (.slice Ao45 t620.length co45)).setCell ⟨gb628, 2, none⟩ (.slice Ao46 t623.length co46))) := ⟨bB⟩
               (try clear HO_9)
               (try clear HO_600001)
               (try clear HO_600002)
               (try clear HO617)
               (try clear HO622)
               (try clear HO625)
               (try clear BK584)
               (try clear BK599)
               (try clear BK628)
               (try clear HB)
               generalize (((w41.setCell ⟨gb628, 0, none⟩ (.int .u8 t619)).setCell ⟨gb628, 1, none⟩ (.slice Ao45 t620.length co45)).setCell ⟨gb628, 2, none⟩ (.slice Ao46 t623.length co46)) = w47 at n0_ n1_ n2_ n3_ n4_ n5_ n6_ n7_ n8_ n9_ ⊢
               have HO_9 := n0_
               have HO_600001 := n1_
               have HO_600002 := n2_
               have HO617 := n3_
               have HO622 := n4_
               have HO625 := n5_
               have BK584 := n6_
               have BK599 := n7_
               have BK628 := n8_
               have HB := n9_
               clear n0_ n1_ n2_ n3_ n4_ n5_ n6_ n7_ n8_ n9_
               replace HO_9 := aZ (Kd.R_drew HO_9.out)
               replace HO_600001 := aZ (Kd.R_drew HO_600001.out)
               replace HO_600002 := aZ (Kd.N_drew HO_600002.out)
               replace HO617 := aZ (Kd.R_drew HO617.out)
               replace HO622 := aZ (Kd.R_drew HO622.out)
               replace HO625 := aZ (Kd.N_drew HO625.out)
               replace BK584 := aZ (blk_drew BK584.out)
               replace BK599 := aZ (blk_drew BK599.out)
               replace BK628 := aZ (blk_drew BK628.out)
               replace HB := aZ (below_drew1 HB.out)
               have p629 : 0 ≤ (x14_3 : Int) := oD
               have q629 : x14_3 < (t594.length : Int) := oD
               obtain ⟨ad629, A629_1, c629_1, A629_2, c629_2, e629, hx629_0, hx629_1, hx629_2, hl629_1, hi629_1, hl629_2, hi629_2⟩ := at_T43 (Kd.N_reads' HO_600002.out).2.2 x14_3 p629 q629
               cases e629
               obtain ⟨ce629, hce629, hMe629, hcc629⟩ := Kd.N_get HO_600002.out z43 x14_3 p629 (by first | exact q629 | exact oD | (have e_ := (Kd.N_reads' HO_600002.out).1; omega))
               obtain ⟨ua629_1, uc629_1, ua629_2, uc629_2, rfl, ul629_1, ge629_1, ul629_2, ge629_2⟩ := k43_openF hMe629
               have hv629_1 := hcc629 1 _ rfl
               rw [add_field _ _ 1 (by omega)] at hv629_1
               replace hv629_1 := Option.some.inj (hv629_1.symm.trans hx629_1)
               injection hv629_1 with hva_ hvn_ hvc_
               rw [hva_] at ge629_1
               rw [hvc_] at ul629_1
               have HL629_1 := aZ (show Kd.V (Kd.int .u8) 5 _ w.heap.size _ _ ((rd_T43 t594 x14_3).f1) from Kd.V_mk ul629_1 ge629_1)
               clear hva_ hvn_ hvc_ ge629_1 ul629_1
               have hv629_2 := hcc629 2 _ rfl
               rw [add_field _ _ 2 (by omega)] at hv629_2
               replace hv629_2 := Option.some.inj (hv629_2.symm.trans hx629_2)
               injection hv629_2 with hva_ hvn_ hvc_
               rw [hva_] at ge629_2
               rw [hvc_] at ul629_2
               have HL629_2 := aZ (show Kd.V k43 43 _ w.heap.size _ _ ((rd_T43 t594 x14_3).f2) from Kd.V_mk ul629_2 ge629_2)
               clear hva_ hvn_ hvc_ ge629_2 ul629_2
               clear hcc629 hce629
               have HR629_1 := aZ hi629_1
               have HC629_1 := aZ hl629_1
               clear hi629_1 hl629_1
               have HR629_2 := aZ hi629_2
               have HC629_2 := aZ hl629_2
               clear hi629_2 hl629_2
               replace p629 := eq_true p629
               replace q629 := eq_true q629
               refine start_ (n := 16) (S := fun w' => w'.cell? ⟨gb628, 0, none⟩ = some (.int .u8 t619) ∧ w'.cell? ⟨gb628, 1, none⟩ = some (.slice Ao45 t620.length co45) ∧ w'.cell? ⟨gb628, 2, none⟩ = some (.slice Ao46 t623.length co46) ∧ w'.cell? ⟨gb599, 0, none⟩ = some (.int .u8 t590) ∧ w'.cell? ⟨gb599, 1, none⟩ = some (.slice Ao23 t591.length co23) ∧ w'.cell? ⟨gb599, 2, none⟩ = some (.slice (some ad629) t594.length co24) ∧ w'.cell? (ad629.add ((x14_3).toNat * 3)) = some (.int .u8 ((rd_T43 t594 x14_3).f0)) ∧ w'.cell? ⟨(ad629.add ((x14_3).toNat * 3)).block, (ad629.add ((x14_3).toNat * 3)).off + 1, none⟩ = some (.slice A629_1 ((rd_T43 t594 x14_3).f1).length c629_1) ∧ w'.cell? ⟨(ad629.add ((x14_3).toNat * 3)).block, (ad629.add ((x14_3).toNat * 3)).off + 2, none⟩ = some (.slice A629_2 ((rd_T43 t594 x14_3).f2).length c629_2)) (ds := []) #[false, false, false, false, false, false, false, false, false, false, false, false, false, false, false, false] (by kernel_rfl) rfl rfl ⟨(blk_cell BK628.out 0).trans rfl, (blk_cell BK628.out 1).trans rfl, (blk_cell BK628.out 2).trans rfl, (blk_cell BK599.out 0).trans rfl, (blk_cell BK599.out 1).trans rfl, (blk_cell BK599.out 2).trans rfl, hx629_0, hx629_1, hx629_2⟩ (fun hHeld => ?_); refine with_tabW warderlaw04_NodesInner.tab14 warderlaw04_NodesInner.bits14 (fun HT_ HW_ => ?_)
               generalize w47.drew = w48 at HO_9 HO_600001 HO_600002 HO617 HO622 HO625 BK584 BK599 BK628 HB HL629_1 HL629_2 HR629_1 HR629_2 hx629_0 hx629_1 hx629_2 hHeld ⊢
               refine pure_ (i := 0) (N := some 75) (v := ?_) (a' := ?_) #[true, false, false, false, false, false, false, false, false, false, false, false, false, false, false, false] rfl rfl (any_of HT_.out (by kernel_rfl)) (fun _ _ _ h => h) (Or.inl ⟨by rfl, ?_⟩) ?_ ?_
               rotate_left
               ·intro w'
                go_simp
                with_reducible rfl
               rotate_left
               ·simp only [Act.put, List.setIfInBounds_toArray, List.set_cons_zero, List.set_cons_succ, i64_w, i32_w]
                rfl
               refine pure_ (i := 1) (N := some 76) (v := ?_) (a' := ?_) #[true, true, false, false, false, false, false, false, false, false, false, false, false, false, false, false] rfl rfl (any_of HT_.out (by kernel_rfl)) (fun _ _ _ h => h) (Or.inl ⟨by rfl, ?_⟩) ?_ ?_
               rotate_left
               ·intro w'
                go_simp
                with_reducible rfl
               rotate_left
               ·simp only [Act.put, List.setIfInBounds_toArray, List.set_cons_zero, List.set_cons_succ, i64_w, i32_w]
                rfl
               refine pure_ (i := 2) (N := some 77) (v := ?_) (a' := ?_) #[true, true, true, false, false, false, false, false, false, false, false, false, false, false, false, false] rfl rfl (any_of HT_.out (by kernel_rfl)) (fun _ _ _ h => h) (Or.inl ⟨by rfl, ?_⟩) ?_ ?_
               rotate_left
               ·intro w'
                go_simp
                with_reducible rfl
               rotate_left
               ·simp only [Act.put, List.setIfInBounds_toArray, List.set_cons_zero, List.set_cons_succ, i64_w, i32_w]
                rfl
               refine pure_ (i := 3) (N := some 78) (v := ?_) (a' := ?_) #[true, true, true, true, false, false, false, false, false, false, false, false, false, false, false, false] rfl rfl (any_of HT_.out (by kernel_rfl)) (fun _ _ _ h => h) (Or.inl ⟨by rfl, ?_⟩) ?_ ?_
               rotate_left
               ·intro w'
                go_simp
                with_reducible rfl
               rotate_left
               ·simp only [Act.put, List.setIfInBounds_toArray, List.set_cons_zero, List.set_cons_succ, i64_w, i32_w]
                rfl
               refine pure_ (i := 4) (N := some 79) (v := ?_) (a' := ?_) #[true, true, true, true, true, false, false, false, false, false, false, false, false, false, false, false] rfl rfl (any_of HT_.out (by kernel_rfl)) (fun _ _ _ h => h) (Or.inl ⟨by rfl, ?_⟩) ?_ ?_
               rotate_left
               ·intro w'
                go_simp
                with_reducible rfl
               rotate_left
               ·simp only [Act.put, List.setIfInBounds_toArray, List.set_cons_zero, List.set_cons_succ, i64_w, i32_w]
                rfl
               refine pure_ (i := 5) (N := some 80) (v := ?_) (a' := ?_) #[true, true, true, true, true, true, false, false, false, false, false, false, false, false, false, false] rfl rfl (any_of HT_.out (by kernel_rfl)) (fun _ _ _ h => h) (Or.inl ⟨by rfl, ?_⟩) ?_ ?_
               rotate_left
               ·intro w'
                go_simp
                with_reducible rfl
               rotate_left
               ·simp only [Act.put, List.setIfInBounds_toArray, List.set_cons_zero, List.set_cons_succ, i64_w, i32_w]
                rfl
               refine pure_ (i := 6) (N := some 81) (v := ?_) (a' := ?_) #[true, true, true, true, true, true, true, false, false, false, false, false, false, false, false, false] rfl rfl (any_of HT_.out (by kernel_rfl)) (fun _ _ _ h => h) (Or.inl ⟨by rfl, ?_⟩) ?_ ?_
               rotate_left
               ·intro w'
                go_simp
                with_reducible rfl
               rotate_left
               ·simp only [Act.put, List.setIfInBounds_toArray, List.set_cons_zero, List.set_cons_succ, i64_w, i32_w]
                rfl
               refine pure_ (i := 8) (N := some 83) (v := ?_) (a' := ?_) #[true, true, true, true, true, true, true, false, true, false, false, false, false, false, false, false] rfl rfl (any_of HT_.out (by kernel_rfl)) (fun _ _ _ h => h) (Or.inl ⟨by rfl, ?_⟩) ?_ ?_
               rotate_left
               ·intro w'
                go_simp
                with_reducible rfl
               rotate_left
               ·simp only [Act.put, List.setIfInBounds_toArray, List.set_cons_zero, List.set_cons_succ, i64_w, i32_w]
                rfl
               refine pure_ (i := 10) (N := some 85) (v := ?_) (a' := ?_) #[true, true, true, true, true, true, true, false, true, false, true, false, false, false, false, false] rfl rfl (any_of HT_.out (by kernel_rfl)) (fun _ _ _ h => h) (Or.inl ⟨by rfl, ?_⟩) ?_ ?_
               rotate_left
               ·intro w'
                go_simp
                with_reducible rfl
               rotate_left
               ·simp only [Act.put, List.setIfInBounds_toArray, List.set_cons_zero, List.set_cons_succ, i64_w, i32_w]
                rfl
               refine take_ (i := 7) (N := some 82) (v := ?_) (a' := ?_) #[true, true, true, true, true, true, true, true, true, false, true, false, false, false, false, false] rfl rfl (take_ofW HT_.out HW_.out (by kernel_rfl)) (fun _ _ _ h => h) (Or.inl ⟨by rfl, ?_⟩) hHeld ?_ ?_
               rotate_left
               ·rintro w' ⟨s0, s1, s2, s3, s4, s5, s6, s7, s8⟩
                go_simp
                with_reducible rfl
               rotate_left
               ·simp only [Act.put, List.setIfInBounds_toArray, List.set_cons_zero, List.set_cons_succ, i64_w, i32_w]
                rfl
               refine take_ (i := 9) (N := some 84) (v := ?_) (a' := ?_) #[true, true, true, true, true, true, true, true, true, true, true, false, false, false, false, false] rfl rfl (take_ofW HT_.out HW_.out (by kernel_rfl)) (fun _ _ _ h => h) (Or.inl ⟨by rfl, ?_⟩) hHeld ?_ ?_
               rotate_left
               ·rintro w' ⟨s0, s1, s2, s3, s4, s5, s6, s7, s8⟩
                go_simp
                with_reducible rfl
               rotate_left
               ·simp only [Act.put, List.setIfInBounds_toArray, List.set_cons_zero, List.set_cons_succ, i64_w, i32_w]
                rfl
               refine pure_ (i := 11) (N := some 86) (v := ?_) (a' := ?_) #[true, true, true, true, true, true, true, true, true, true, true, true, false, false, false, false] rfl rfl (any_of HT_.out (by kernel_rfl)) (fun _ _ _ h => h) (Or.inl ⟨by rfl, ?_⟩) ?_ ?_
               rotate_left
               ·intro w'
                go_simp
                with_reducible rfl
               rotate_left
               ·simp only [Act.put, List.setIfInBounds_toArray, List.set_cons_zero, List.set_cons_succ, i64_w, i32_w]
                rfl
               refine take_ (i := 12) (N := some 87) (v := ?_) (a' := ?_) #[true, true, true, true, true, true, true, true, true, true, true, true, true, false, false, false] rfl rfl (take_ofW HT_.out HW_.out (by kernel_rfl)) (fun _ _ _ h => h) (Or.inl ⟨by rfl, ?_⟩) hHeld ?_ ?_
               rotate_left
               ·rintro w' ⟨s0, s1, s2, s3, s4, s5, s6, s7, s8⟩
                go_simp
                with_reducible rfl
               rotate_left
               ·simp only [Act.put, List.setIfInBounds_toArray, List.set_cons_zero, List.set_cons_succ, i64_w, i32_w]
                rfl
               refine one_ (i := 13) (N := some 88) #[true, true, true, true, true, true, true, true, true, true, true, true, true, true, false, false] rfl rfl (one_of HT_.out (by kernel_rfl)) (by decide) (fun K hK => ?_)
               refine goes_ Tryd.func25 (by kernel_rfl) rfl #[.agg #[.int .u8 t619, .slice Ao45 t620.length co45, .slice Ao46 t623.length co46], .agg #[.int .u8 ((rd_T43 t594 x14_3).f0), .slice A629_1 ((rd_T43 t594 x14_3).f1).length c629_1, .slice A629_2 ((rd_T43 t594 x14_3).f2).length c629_2]] (by rfl) rfl rfl aA ?_
               with_reducible refine (warderref04_Same.calls k3 t619 _ _ t620 _ _ t623 ((rd_T43 t594 x14_3).f0) _ _ ((rd_T43 t594 x14_3).f1) _ _ ((rd_T43 t594 x14_3).f2) true _ ?side1 ?side2 ?side3 ?side4 ?side5 ?side6 ?side7 ?side8 A36.out).mono ?_
               (case side1 => exact kC (Kd.R_reads' HO622.out).2.2)
               (case side2 => exact (Kd.R_reads' HO622.out).2.1)
               (case side3 => exact kC (Kd.N_reads' HO625.out).2.2)
               (case side4 => exact (Kd.N_reads' HO625.out).2.1)
               (case side5 => repeat (first | exact (by repeat (first | (with_reducible exact HR629_1.out) | (with_reducible refine Kd.C_alloc ?_ _) | (with_reducible refine Kd.C_drewN ?_ _) | (with_reducible refine Kd.C_drew ?_) | exact HR629_1.out)) | (with_reducible refine Kd.C_alloc ?_ _) | (with_reducible refine Kd.C_drewN ?_ _) | (with_reducible refine Kd.C_drew ?_)))
               (case side6 => exact HC629_1.out)
               (case side7 => repeat (first | exact (by repeat (first | (with_reducible exact HR629_2.out) | (with_reducible refine Kd.C_alloc ?_ _) | (with_reducible refine Kd.C_drewN ?_ _) | (with_reducible refine Kd.C_drew ?_) | exact HR629_2.out)) | (with_reducible refine Kd.C_alloc ?_ _) | (with_reducible refine Kd.C_drewN ?_ _) | (with_reducible refine Kd.C_drew ?_)))
               (case side8 => exact HC629_2.out)
               rintro e w49 ⟨rfl, hb⟩
               have HS6_ := (hb.cell (World.block_lt_of_cell? _ _ (hHeld.2.2.2.2.2.2.1))).trans (hHeld.2.2.2.2.2.2.1)
               have HS7_ := (hb.cell (World.block_lt_of_cell? _ _ (hHeld.2.2.2.2.2.2.2.1))).trans (hHeld.2.2.2.2.2.2.2.1)
               have HS8_ := (hb.cell (World.block_lt_of_cell? _ _ (hHeld.2.2.2.2.2.2.2.2))).trans (hHeld.2.2.2.2.2.2.2.2)
               refine ⟨_, rfl, ?_⟩
               replace HO_9 := aZ (Kd.R_below (kR HO_9.out) hb)
               replace HO_600001 := aZ (Kd.R_below (kR HO_600001.out) hb)
               replace HO_600002 := aZ (Kd.N_below (kN HO_600002.out) hb)
               replace HO617 := aZ (Kd.R_below (kR HO617.out) hb)
               replace HO622 := aZ (Kd.R_below (kR HO622.out) hb)
               replace HO625 := aZ (Kd.N_below (kN HO625.out) hb)
               replace HL629_1 := aZ (Kd.V_below (kV HL629_1.out) hb)
               replace HL629_2 := aZ (Kd.V_below (kV HL629_2.out) hb)
               replace BK584 := aZ (bkB BK584.out hb)
               replace BK599 := aZ (bkB BK599.out hb)
               replace BK628 := aZ (bkB BK628.out hb)
               replace HR629_1 := aZ (Kd.C_below (by repeat (first | (with_reducible exact HR629_1.out) | (with_reducible refine Kd.C_alloc ?_ _) | (with_reducible refine Kd.C_drewN ?_ _) | (with_reducible refine Kd.C_drew ?_) | exact HR629_1.out)) hb)
               replace HR629_2 := aZ (Kd.C_below (by repeat (first | (with_reducible exact HR629_2.out) | (with_reducible refine Kd.C_alloc ?_ _) | (with_reducible refine Kd.C_drewN ?_ _) | (with_reducible refine Kd.C_drew ?_) | exact HR629_2.out)) hb)
               replace HB := aZ (below_step bB hb)
               (try clear hb)
               (try clear hb2)
               (try clear hk)
               (try clear hi)
               refine hK.out _ _ ⟨(blk_cell BK628.out 0).trans rfl, (blk_cell BK628.out 1).trans rfl, (blk_cell BK628.out 2).trans rfl, (blk_cell BK599.out 0).trans rfl, (blk_cell BK599.out 1).trans rfl, (blk_cell BK599.out 2).trans rfl, HS6_, HS7_, HS8_⟩ (fun hHeld => ?_)
               clear hK K
               refine norm_ (a' := ?_) ?_ ?_
               rotate_left
               ·show Act.put _ (some 88) _ = _
                simp only [Act.put, List.setIfInBounds_toArray, List.set_cons_zero, List.set_cons_succ, i64_w, i32_w]
                rfl
               refine pure_ (i := 14) (N := some 89) (v := ?_) (a' := ?_) #[true, true, true, true, true, true, true, true, true, true, true, true, true, true, true, false] rfl rfl (any_of HT_.out (by kernel_rfl)) (fun _ _ _ h => h) (Or.inl ⟨by rfl, ?_⟩) ?_ ?_
               rotate_left
               ·intro w'
                go_simp
                with_reducible rfl
               rotate_left
               ·simp only [Act.put, List.setIfInBounds_toArray, List.set_cons_zero, List.set_cons_succ, i64_w, i32_w]
                rfl
               refine pure_ (i := 15) (N := some 90) (v := ?_) (a' := ?_) #[true, true, true, true, true, true, true, true, true, true, true, true, true, true, true, true] rfl rfl (any_of HT_.out (by kernel_rfl)) (fun _ _ _ h => h) (Or.inl ⟨by rfl, ?_⟩) ?_ ?_
               rotate_left
               ·intro w'
                go_simp
                with_reducible rfl
               rotate_left
               ·simp only [Act.put, List.setIfInBounds_toArray, List.set_cons_zero, List.set_cons_succ, i64_w, i32_w]
                rfl
               refine done_ (done_of HT_.out (by kernel_rfl)) ?_
               try go_wp2
               go_roundg k3
               case measure => have := HJ5.out; have := HJ16.out; have := HK3.out; omega
               case rel => exact ⟨(wrap64 (x14_3 + 1)), rS, H', ⟨by have := HJ5.out; have := HJ16.out; have := HK3.out; omega⟩, ⟨by refine kR ?_; exact Kd.R_mono HO_9.out (fun _ hk => hk.1)⟩, ⟨by refine kR ?_; exact Kd.R_mono HO_600001.out (fun _ hk => hk.1)⟩, ⟨by refine kN ?_; exact Kd.N_mono HO_600002.out (fun _ hk => ⟨hk.1, ⟨hk.2.2.2.2.1, hk.2.2.2.2.2.1⟩⟩)⟩, ⟨by refine kB ?_; exact BK584.out⟩, ⟨by refine kB ?_; exact BK599.out⟩, ⟨bB⟩⟩
              ·replace c37 := Bool.eq_false_iff.mpr c37
               subst c37
               rw [if_neg (show ¬ (false = true) by decide)] at H
               obtain rfl := Option.some.inj H
               have p614 : 0 ≤ (x14_3 : Int) := oD
               have q614 : x14_3 < (l0.length : Int) := oD
               obtain ⟨ad614, A614_1, c614_1, A614_2, c614_2, e614, hx614_0, hx614_1, hx614_2, hl614_1, hi614_1, hl614_2, hi614_2⟩ := at_T43 HR0.out x14_3 p614 q614
               cases e614
               replace hx614_0 := (HB.out.cell (World.block_lt_of_cell? w _ hx614_0)).trans hx614_0
               replace hx614_1 := (HB.out.cell (World.block_lt_of_cell? w _ hx614_1)).trans hx614_1
               replace hx614_2 := (HB.out.cell (World.block_lt_of_cell? w _ hx614_2)).trans hx614_2
               have HR614_1 := aZ hi614_1
               have HC614_1 := aZ hl614_1
               clear hi614_1 hl614_1
               have HR614_2 := aZ hi614_2
               have HC614_2 := aZ hl614_2
               clear hi614_2 hl614_2
               replace p614 := eq_true p614
               replace q614 := eq_true q614
               try go_wp2_with (first | ((with_reducible refine gC 27 rfl ?_); refine goL (some 66) Tryd.func27 #[.agg #[.int .u8 ((rd_T43 l0 x14_3).f0), .slice A614_1 ((rd_T43 l0 x14_3).f1).length c614_1, .slice A614_2 ((rd_T43 l0 x14_3).f2).length c614_2]] ?_; (with_reducible refine (nodes_Print.calls k3 ((rd_T43 l0 x14_3).f0) _ _ ((rd_T43 l0 x14_3).f1) _ _ ((rd_T43 l0 x14_3).f2) t615 t618 _ ?side1 ?side2 ?side3 ?side4 ?side5 A31.out).mono ?_); (case side1 => exact hTU); (case side2 => exact kC (Kd.C_below HR614_1.out HB.out)); (case side3 => exact HC614_1.out); (case side4 => exact kC (Kd.C_below HR614_2.out HB.out)); (case side5 => exact HC614_2.out); rintro e w50 ⟨v616, rfl, ho0, hb⟩; refine ⟨_, rfl, ?_⟩; replace HO_600002 := aZ (Kd.N_elder' (kN HO_600002.out) (Kd.R_base ho0) hb); have HO617 := aZ (Kd.R_lower (Kd.R_new' (Kd.R_new' ho0 (Kd.R_lt (kR HO_9.out))) (Kd.R_lt (kR HO_600001.out))) (below_size bB)); replace HO_9 := aZ (Kd.R_elder' (kR HO_9.out) (Kd.R_base ho0) hb); replace HO_600001 := aZ (Kd.R_elder' (kR HO_600001.out) (Kd.R_base ho0) hb); replace BK584 := aZ (bkB BK584.out hb); replace BK599 := aZ (bkB BK599.out hb); replace HB := aZ (below_step bB hb); (try clear hb); (try clear hb2); (try clear hk); (try clear hi); (try clear ho0); obtain ⟨Ao51, co51, eo51⟩ := Kd.R_slice HO617.out; subst eo51) | ((with_reducible refine gC 23 rfl ?_); refine goL (some 71) Tryd.func23 #[.slice Ao51 t615.length co51] ?_; (with_reducible refine (nodes_Parse.calls k3 (fun k_ => some k_ = (.slice Ao51 t615.length co51 : Value).ownBlock) _ _ t615 t619 t620 t623 t626 t627 _ ?side1 ?side2 A32.out).mono ?_); (case side1 => exact hTU); (case side2 => exact Kd.R_V (Kd.R_tight rfl (Kd.R_types (Kd.R_types (Kd.R_apart' (HO617.out) (Kd.N_typed HO_600002.out) (by decide)) BK584.out (by decide)) BK599.out (by decide)))); rintro e w52 ⟨v621, v624, rfl, ho0, ho1, hb⟩; refine ⟨_, rfl, ?_⟩; have HO622 := aZ (Kd.R_lower (Kd.R_new' (Kd.R_new' (Kd.R_new' (Kd.R_mono (ok' := fun k_ => True) ho0 (fun _ hk_ => trivial)) (Kd.R_lt (kR HO_9.out))) (Kd.R_lt (kR HO_600001.out))) (Kd.R_lt (kR HO617.out))) (below_size bB)); have HO625 := aZ (Kd.N_lower (Kd.N_mono (ok' := fun k_ => some k_ ≠ (v621 : Value).ownBlock ∧ some k_ ≠ (.slice Ao18 t585.length co18 : Value).ownBlock ∧ some k_ ≠ (.slice Ao23 t591.length co23 : Value).ownBlock ∧ some k_ ≠ (.slice Ao24 t594.length co24 : Value).ownBlock ∧ k_ ≠ gb584 ∧ k_ ≠ gb599) ho1 (fun k_ hk_ => ⟨hk_.2, Or.elim hk_.1 (fun hs_ => ((Kd.R_types (Kd.R_types (Kd.R_apart' (HO617.out) (Kd.N_typed HO_600002.out) (by decide)) BK584.out (by decide)) BK599.out (by decide)).1 k_ hs_.symm).1.1.1.1.2) (fun hn_ => (Kd.fresh' (Kd.R_lt (kR HO_9.out)) k_ hn_)), Or.elim hk_.1 (fun hs_ => ((Kd.R_types (Kd.R_types (Kd.R_apart' (HO617.out) (Kd.N_typed HO_600002.out) (by decide)) BK584.out (by decide)) BK599.out (by decide)).1 k_ hs_.symm).1.1.1.2) (fun hn_ => (Kd.fresh' (Kd.R_lt (kR HO_600001.out)) k_ hn_)), Or.elim hk_.1 (fun hs_ => ((Kd.R_types (Kd.R_types (Kd.R_apart' (HO617.out) (Kd.N_typed HO_600002.out) (by decide)) BK584.out (by decide)) BK599.out (by decide)).1 k_ hs_.symm).1.1.2) (fun hn_ => (Kd.fresh' (Kd.N_lt (kN HO_600002.out)) k_ hn_)), Or.elim hk_.1 (fun hs_ => ((Kd.R_types (Kd.R_types (Kd.R_apart' (HO617.out) (Kd.N_typed HO_600002.out) (by decide)) BK584.out (by decide)) BK599.out (by decide)).1 k_ hs_.symm).1.2) (fun hn_ => (Kd.freshB (g := gb584) (o := .cells #[.int .u8 (Go.bits .or .u8 (Go.bits .and .u8 a1 31) 160), .slice none 0 0, .slice (some ad614) l0.length c0] 43 (0, 0)) (kB BK584.out) k_ hn_)), Or.elim hk_.1 (fun hs_ => ((Kd.R_types (Kd.R_types (Kd.R_apart' (HO617.out) (Kd.N_typed HO_600002.out) (by decide)) BK584.out (by decide)) BK599.out (by decide)).1 k_ hs_.symm).2) (fun hn_ => (Kd.freshB (g := gb599) (o := .cells #[.int .u8 t590, .slice Ao23 t591.length co23, .slice Ao24 t594.length co24] 43 (0, 0)) (kB BK599.out) k_ hn_))⟩)) (below_size bB)); replace HO_9 := aZ (Kd.R_elder' (kR HO_9.out) (Kd.R_base ho0) hb); replace HO_600001 := aZ (Kd.R_elder' (kR HO_600001.out) (Kd.R_base ho0) hb); replace HO_600002 := aZ (Kd.N_mono (Kd.N_told (Kd.N_told (Kd.N_old (kN HO_600002.out) hb) (Kd.R_base ho0)) (Kd.N_base ho1)) (fun _ h_ => h_.1)); replace HO617 := aZ (Kd.R_elder' (kR HO617.out) (Kd.R_base ho0) hb); replace BK584 := aZ (bkB BK584.out hb); replace BK599 := aZ (bkB BK599.out hb); replace HB := aZ (below_step bB hb); (try clear hb); (try clear hb2); (try clear hk); (try clear hi); (try clear ho0); (try clear ho1)) | ((with_reducible refine gD 17 rfl ?_); (try (refine gate_guard (by rfl) ?_; dsimp only)); refine bxE (N := 17) (cs := #[.int .u8 0, .slice none 0 0, .slice none 0 0]) (t := 43) ?_; intro gb628 hg w53 hbox hb; replace HO_9 := aZ (Kd.R_below (kR HO_9.out) hb); replace HO_600001 := aZ (Kd.R_below (kR HO_600001.out) hb); replace HO_600002 := aZ (Kd.N_below (Kd.N_elderB (kN HO_600002.out) gb628 (Nat.le_of_eq hg.symm)) hb); replace HO617 := aZ (Kd.R_below (kR HO617.out) hb); replace HO622 := aZ (Kd.R_below (kR HO622.out) hb); replace HO625 := aZ (Kd.N_below (Kd.N_elderB (kN HO625.out) gb628 (Nat.le_of_eq hg.symm)) hb); have BK628 := aZ (hbox); have GW628 := aZ (gwB hg : w.heap.size ≤ gb628); have GE628 := aZ (gwB hg : w.heap.size ≤ gb628); replace HB := aZ (below_step bB hb); have NB584_628 := aZ (nbL BK584.out hg); have NB628_584 := aZ (nbR BK584.out hg); replace BK584 := aZ (bkB BK584.out hb); have NB599_628 := aZ (nbL BK599.out hg); have NB628_599 := aZ (nbR BK599.out hg); replace BK599 := aZ (bkB BK599.out hb); clear hb hbox hg; have hnb54 := NB628_584.out; have hnc54 := NB584_628.out; have hnb55 := NB628_599.out; have hnc55 := NB599_628.out; obtain ⟨hcz56_0, hcz56_1, hcz56_2⟩ := cz3 (w := w53) BK628.out; obtain ⟨hfz56_0, hfz56_1, hfz56_2⟩ := fz3 BK628.out; obtain ⟨Ao57, co57, eo57⟩ := Kd.R_slice HO622.out; subst eo57; obtain ⟨Ao58, co58, eo58⟩ := Kd.N_slice HO625.out; subst eo58))
               have n0_ : Aside0 (Kd.R (Kd.int .u8) 5 (((w53.setCell ⟨gb628, 0, none⟩ (.int .u8 t619)).setCell ⟨gb628, 1, none⟩ (.slice Ao57 t620.length co57)).setCell ⟨gb628, 2, none⟩ (.slice Ao58 t623.length co58)) w.heap.size (fun k_ => some k_ ≠ (.slice Ao23 t591.length co23 : Value).ownBlock ∧ some k_ ≠ (.slice Ao51 t615.length co51 : Value).ownBlock ∧ some k_ ≠ (.slice Ao57 t620.length co57 : Value).ownBlock) (.slice Ao18 t585.length co18) t585) := ⟨by refine kR ?_; exact Kd.R_mono (Kd.R_far (p := ⟨gb628, 2, none⟩) (Kd.R_far (p := ⟨gb628, 1, none⟩) (Kd.R_far (p := ⟨gb628, 0, none⟩) (Kd.R_types HO_9.out BK628.out (by decide)) (fun _ hk => hk.2) (.int .u8 t619)) (fun _ hk => hk.2) (.slice Ao57 t620.length co57)) (fun _ hk => hk.2) (.slice Ao58 t623.length co58)) (fun _ hk => ⟨hk.1.1.1, ⟨hk.1.1.2, hk.1.2⟩⟩)⟩
               have n1_ : Aside0 (Kd.R (Kd.int .u8) 5 (((w53.setCell ⟨gb628, 0, none⟩ (.int .u8 t619)).setCell ⟨gb628, 1, none⟩ (.slice Ao57 t620.length co57)).setCell ⟨gb628, 2, none⟩ (.slice Ao58 t623.length co58)) w.heap.size (fun k_ => some k_ ≠ (.slice Ao18 t585.length co18 : Value).ownBlock ∧ some k_ ≠ (.slice Ao51 t615.length co51 : Value).ownBlock ∧ some k_ ≠ (.slice Ao57 t620.length co57 : Value).ownBlock) (.slice Ao23 t591.length co23) t591) := ⟨by refine kR ?_; exact Kd.R_mono (Kd.R_far (p := ⟨gb628, 2, none⟩) (Kd.R_far (p := ⟨gb628, 1, none⟩) (Kd.R_far (p := ⟨gb628, 0, none⟩) (Kd.R_types HO_600001.out BK628.out (by decide)) (fun _ hk => hk.2) (.int .u8 t619)) (fun _ hk => hk.2) (.slice Ao57 t620.length co57)) (fun _ hk => hk.2) (.slice Ao58 t623.length co58)) (fun _ hk => ⟨hk.1.1.1, ⟨hk.1.1.2, hk.1.2⟩⟩)⟩
               have n2_ : Aside0 (Kd.N k43 43 (((w53.setCell ⟨gb628, 0, none⟩ (.int .u8 t619)).setCell ⟨gb628, 1, none⟩ (.slice Ao57 t620.length co57)).setCell ⟨gb628, 2, none⟩ (.slice Ao58 t623.length co58)) w.heap.size (fun k_ => some k_ ≠ (.slice Ao23 t591.length co23 : Value).ownBlock ∧ some k_ ≠ (.slice Ao51 t615.length co51 : Value).ownBlock ∧ some k_ ≠ (.slice Ao57 t620.length co57 : Value).ownBlock ∧ some k_ ≠ (.slice Ao58 t623.length co58 : Value).ownBlock ∧ k_ ≠ gb584 ∧ k_ ≠ gb599 ∧ k_ ≠ gb628) (.slice Ao24 t594.length co24) t594) := ⟨by refine kN ?_; exact Kd.N_mono (Kd.N_far (p := ⟨gb628, 2, none⟩) (Kd.N_far (p := ⟨gb628, 1, none⟩) (Kd.N_far (p := ⟨gb628, 0, none⟩) (Kd.N_mono HO_600002.out (fun k_ hk => (⟨hk, hk.2⟩ : _ ∧ k_ ≠ gb628))) (fun _ hk => hk.2) (.int .u8 t619)) (fun _ hk => hk.2) (.slice Ao57 t620.length co57)) (fun _ hk => hk.2) (.slice Ao58 t623.length co58)) (fun _ hk => ⟨hk.1.1.1.1.1.1, ⟨hk.1.1.1.1.2, ⟨hk.1.1.1.2, ⟨hk.1.1.2, ⟨hk.1.1.1.1.1.2.1, ⟨hk.1.1.1.1.1.2.2, hk.1.2⟩⟩⟩⟩⟩⟩)⟩
               have n3_ : Aside0 (Kd.R (Kd.int .u8) 5 (((w53.setCell ⟨gb628, 0, none⟩ (.int .u8 t619)).setCell ⟨gb628, 1, none⟩ (.slice Ao57 t620.length co57)).setCell ⟨gb628, 2, none⟩ (.slice Ao58 t623.length co58)) w.heap.size (fun k_ => some k_ ≠ (.slice Ao18 t585.length co18 : Value).ownBlock ∧ some k_ ≠ (.slice Ao23 t591.length co23 : Value).ownBlock ∧ some k_ ≠ (.slice Ao57 t620.length co57 : Value).ownBlock) (.slice Ao51 t615.length co51) t615) := ⟨by refine kR ?_; exact Kd.R_mono (Kd.R_far (p := ⟨gb628, 2, none⟩) (Kd.R_far (p := ⟨gb628, 1, none⟩) (Kd.R_far (p := ⟨gb628, 0, none⟩) (Kd.R_types HO617.out BK628.out (by decide)) (fun _ hk => hk.2) (.int .u8 t619)) (fun _ hk => hk.2) (.slice Ao57 t620.length co57)) (fun _ hk => hk.2) (.slice Ao58 t623.length co58)) (fun _ hk => ⟨hk.1.1.1.2, ⟨hk.1.1.2, hk.1.2⟩⟩)⟩
               have n4_ : Aside0 (Kd.R (Kd.int .u8) 5 (((w53.setCell ⟨gb628, 0, none⟩ (.int .u8 t619)).setCell ⟨gb628, 1, none⟩ (.slice Ao57 t620.length co57)).setCell ⟨gb628, 2, none⟩ (.slice Ao58 t623.length co58)) w.heap.size (fun k_ => some k_ ≠ (.slice Ao18 t585.length co18 : Value).ownBlock ∧ some k_ ≠ (.slice Ao23 t591.length co23 : Value).ownBlock ∧ some k_ ≠ (.slice Ao51 t615.length co51 : Value).ownBlock) (.slice Ao57 t620.length co57) t620) := ⟨by refine kR ?_; exact Kd.R_mono (Kd.R_far (p := ⟨gb628, 2, none⟩) (Kd.R_far (p := ⟨gb628, 1, none⟩) (Kd.R_far (p := ⟨gb628, 0, none⟩) (Kd.R_types HO622.out BK628.out (by decide)) (fun _ hk => hk.2) (.int .u8 t619)) (fun _ hk => hk.2) (.slice Ao57 t620.length co57)) (fun _ hk => hk.2) (.slice Ao58 t623.length co58)) (fun _ hk => ⟨hk.1.1.1.2, ⟨hk.1.1.2, hk.1.2⟩⟩)⟩
               have n5_ : Aside0 (Kd.N k43 43 (((w53.setCell ⟨gb628, 0, none⟩ (.int .u8 t619)).setCell ⟨gb628, 1, none⟩ (.slice Ao57 t620.length co57)).setCell ⟨gb628, 2, none⟩ (.slice Ao58 t623.length co58)) w.heap.size (fun k_ => some k_ ≠ (.slice Ao18 t585.length co18 : Value).ownBlock ∧ some k_ ≠ (.slice Ao23 t591.length co23 : Value).ownBlock ∧ some k_ ≠ (.slice Ao24 t594.length co24 : Value).ownBlock ∧ some k_ ≠ (.slice Ao57 t620.length co57 : Value).ownBlock ∧ k_ ≠ gb584 ∧ k_ ≠ gb599 ∧ k_ ≠ gb628) (.slice Ao58 t623.length co58) t623) := ⟨by refine kN ?_; exact Kd.N_mono (Kd.N_far (p := ⟨gb628, 2, none⟩) (Kd.N_far (p := ⟨gb628, 1, none⟩) (Kd.N_far (p := ⟨gb628, 0, none⟩) (Kd.N_mono HO625.out (fun k_ hk => (⟨hk, hk.2⟩ : _ ∧ k_ ≠ gb628))) (fun _ hk => hk.2) (.int .u8 t619)) (fun _ hk => hk.2) (.slice Ao57 t620.length co57)) (fun _ hk => hk.2) (.slice Ao58 t623.length co58)) (fun _ hk => ⟨hk.1.1.2.1, ⟨hk.1.1.2.2.1, ⟨hk.1.1.2.2.2.1, ⟨hk.1.1.1, ⟨hk.1.1.2.2.2.2.1, ⟨hk.1.1.2.2.2.2.2, hk.1.2⟩⟩⟩⟩⟩⟩)⟩
               have n6_ : Aside0 ((((w53.setCell ⟨gb628, 0, none⟩ (.int .u8 t619)).setCell ⟨gb628, 1, none⟩ (.slice Ao57 t620.length co57)).setCell ⟨gb628, 2, none⟩ (.slice Ao58 t623.length co58)).heap[gb584]? = some (.cells #[.int .u8 (Go.bits .or .u8 (Go.bits .and .u8 a1 31) 160), .slice none 0 0, .slice (some ad614) l0.length c0] 43 (0, 0))) := ⟨by refine kB ?_; refine blk_far ?_ NB584_628.out _; refine kB ?_; refine blk_far ?_ NB584_628.out _; refine kB ?_; refine blk_far ?_ NB584_628.out _; refine kB ?_; exact BK584.out⟩
               have n7_ : Aside0 ((((w53.setCell ⟨gb628, 0, none⟩ (.int .u8 t619)).setCell ⟨gb628, 1, none⟩ (.slice Ao57 t620.length co57)).setCell ⟨gb628, 2, none⟩ (.slice Ao58 t623.length co58)).heap[gb599]? = some (.cells #[.int .u8 t590, .slice Ao23 t591.length co23, .slice Ao24 t594.length co24] 43 (0, 0))) := ⟨by refine kB ?_; refine blk_far ?_ NB599_628.out _; refine kB ?_; refine blk_far ?_ NB599_628.out _; refine kB ?_; refine blk_far ?_ NB599_628.out _; refine kB ?_; exact BK599.out⟩
               have n8_ : Aside0 ((((w53.setCell ⟨gb628, 0, none⟩ (.int .u8 t619)).setCell ⟨gb628, 1, none⟩ (.slice Ao57 t620.length co57)).setCell ⟨gb628, 2, none⟩ (.slice Ao58 t623.length co58)).heap[gb628]? = some (.cells #[.int .u8 t619, .slice Ao57 t620.length co57, .slice Ao58 t623.length co58] 43 (0, 0))) := ⟨by refine kB ?_; refine blk_put (cs := #[.int .u8 t619, .slice Ao57 t620.length co57, .slice none 0 0]) ?_ 2 _ rfl; refine kB ?_; refine blk_put (cs := #[.int .u8 t619, .slice none 0 0, .slice none 0 0]) ?_ 1 _ rfl; refine kB ?_; refine blk_put (cs := #[.int .u8 0, .slice none 0 0, .slice none 0 0]) ?_ 0 _ rfl; refine kB ?_; exact BK628.out⟩
               have n9_ : Aside0 (Below w.heap.size w (((w53.setCell ⟨gb628, 0, none⟩ (.int .u8 t619)).setCell ⟨gb628, 1, none⟩ (.slice Ao57 t620.length co57)).setCell ⟨gb628, 2, none⟩ (.slice Ao58 t623.length co58))) := ⟨bB⟩
               (try clear HO_9)
               (try clear HO_600001)
               (try clear HO_600002)
               (try clear HO617)
               (try clear HO622)
               (try clear HO625)
               (try clear BK584)
               (try clear BK599)
               (try clear BK628)
               (try clear HB)
               generalize (((w53.setCell ⟨gb628, 0, none⟩ (.int .u8 t619)).setCell ⟨gb628, 1, none⟩ (.slice Ao57 t620.length co57)).setCell ⟨gb628, 2, none⟩ (.slice Ao58 t623.length co58)) = w59 at n0_ n1_ n2_ n3_ n4_ n5_ n6_ n7_ n8_ n9_ ⊢
               have HO_9 := n0_
               have HO_600001 := n1_
               have HO_600002 := n2_
               have HO617 := n3_
               have HO622 := n4_
               have HO625 := n5_
               have BK584 := n6_
               have BK599 := n7_
               have BK628 := n8_
               have HB := n9_
               clear n0_ n1_ n2_ n3_ n4_ n5_ n6_ n7_ n8_ n9_
               replace HO_9 := aZ (Kd.R_drew HO_9.out)
               replace HO_600001 := aZ (Kd.R_drew HO_600001.out)
               replace HO_600002 := aZ (Kd.N_drew HO_600002.out)
               replace HO617 := aZ (Kd.R_drew HO617.out)
               replace HO622 := aZ (Kd.R_drew HO622.out)
               replace HO625 := aZ (Kd.N_drew HO625.out)
               replace BK584 := aZ (blk_drew BK584.out)
               replace BK599 := aZ (blk_drew BK599.out)
               replace BK628 := aZ (blk_drew BK628.out)
               replace HB := aZ (below_drew1 HB.out)
               have p629 : 0 ≤ (x14_3 : Int) := oD
               have q629 : x14_3 < (t594.length : Int) := oD
               obtain ⟨ad629, A629_1, c629_1, A629_2, c629_2, e629, hx629_0, hx629_1, hx629_2, hl629_1, hi629_1, hl629_2, hi629_2⟩ := at_T43 (Kd.N_reads' HO_600002.out).2.2 x14_3 p629 q629
               cases e629
               obtain ⟨ce629, hce629, hMe629, hcc629⟩ := Kd.N_get HO_600002.out z43 x14_3 p629 (by first | exact q629 | exact oD | (have e_ := (Kd.N_reads' HO_600002.out).1; omega))
               obtain ⟨ua629_1, uc629_1, ua629_2, uc629_2, rfl, ul629_1, ge629_1, ul629_2, ge629_2⟩ := k43_openF hMe629
               have hv629_1 := hcc629 1 _ rfl
               rw [add_field _ _ 1 (by omega)] at hv629_1
               replace hv629_1 := Option.some.inj (hv629_1.symm.trans hx629_1)
               injection hv629_1 with hva_ hvn_ hvc_
               rw [hva_] at ge629_1
               rw [hvc_] at ul629_1
               have HL629_1 := aZ (show Kd.V (Kd.int .u8) 5 _ w.heap.size _ _ ((rd_T43 t594 x14_3).f1) from Kd.V_mk ul629_1 ge629_1)
               clear hva_ hvn_ hvc_ ge629_1 ul629_1
               have hv629_2 := hcc629 2 _ rfl
               rw [add_field _ _ 2 (by omega)] at hv629_2
               replace hv629_2 := Option.some.inj (hv629_2.symm.trans hx629_2)
               injection hv629_2 with hva_ hvn_ hvc_
               rw [hva_] at ge629_2
               rw [hvc_] at ul629_2
               have HL629_2 := aZ (show Kd.V k43 43 _ w.heap.size _ _ ((rd_T43 t594 x14_3).f2) from Kd.V_mk ul629_2 ge629_2)
               clear hva_ hvn_ hvc_ ge629_2 ul629_2
               clear hcc629 hce629
               have HR629_1 := aZ hi629_1
               have HC629_1 := aZ hl629_1
               clear hi629_1 hl629_1
               have HR629_2 := aZ hi629_2
               have HC629_2 := aZ hl629_2
               clear hi629_2 hl629_2
               replace p629 := eq_true p629
               replace q629 := eq_true q629
               refine start_ (n := 16) (S := fun w' => w'.cell? ⟨gb628, 0, none⟩ = some (.int .u8 t619) ∧ w'.cell? ⟨gb628, 1, none⟩ = some (.slice Ao57 t620.length co57) ∧ w'.cell? ⟨gb628, 2, none⟩ = some (.slice Ao58 t623.length co58) ∧ w'.cell? ⟨gb599, 0, none⟩ = some (.int .u8 t590) ∧ w'.cell? ⟨gb599, 1, none⟩ = some (.slice Ao23 t591.length co23) ∧ w'.cell? ⟨gb599, 2, none⟩ = some (.slice (some ad629) t594.length co24) ∧ w'.cell? (ad629.add ((x14_3).toNat * 3)) = some (.int .u8 ((rd_T43 t594 x14_3).f0)) ∧ w'.cell? ⟨(ad629.add ((x14_3).toNat * 3)).block, (ad629.add ((x14_3).toNat * 3)).off + 1, none⟩ = some (.slice A629_1 ((rd_T43 t594 x14_3).f1).length c629_1) ∧ w'.cell? ⟨(ad629.add ((x14_3).toNat * 3)).block, (ad629.add ((x14_3).toNat * 3)).off + 2, none⟩ = some (.slice A629_2 ((rd_T43 t594 x14_3).f2).length c629_2)) (ds := []) #[false, false, false, false, false, false, false, false, false, false, false, false, false, false, false, false] (by kernel_rfl) rfl rfl ⟨(blk_cell BK628.out 0).trans rfl, (blk_cell BK628.out 1).trans rfl, (blk_cell BK628.out 2).trans rfl, (blk_cell BK599.out 0).trans rfl, (blk_cell BK599.out 1).trans rfl, (blk_cell BK599.out 2).trans rfl, hx629_0, hx629_1, hx629_2⟩ (fun hHeld => ?_); refine with_tabW warderlaw04_NodesInner.tab14 warderlaw04_NodesInner.bits14 (fun HT_ HW_ => ?_)
               generalize w59.drew = w60 at HO_9 HO_600001 HO_600002 HO617 HO622 HO625 BK584 BK599 BK628 HB HL629_1 HL629_2 HR629_1 HR629_2 hx629_0 hx629_1 hx629_2 hHeld ⊢
               refine pure_ (i := 0) (N := some 75) (v := ?_) (a' := ?_) #[true, false, false, false, false, false, false, false, false, false, false, false, false, false, false, false] rfl rfl (any_of HT_.out (by kernel_rfl)) (fun _ _ _ h => h) (Or.inl ⟨by rfl, ?_⟩) ?_ ?_
               rotate_left
               ·intro w'
                go_simp
                with_reducible rfl
               rotate_left
               ·simp only [Act.put, List.setIfInBounds_toArray, List.set_cons_zero, List.set_cons_succ, i64_w, i32_w]
                rfl
               refine pure_ (i := 1) (N := some 76) (v := ?_) (a' := ?_) #[true, true, false, false, false, false, false, false, false, false, false, false, false, false, false, false] rfl rfl (any_of HT_.out (by kernel_rfl)) (fun _ _ _ h => h) (Or.inl ⟨by rfl, ?_⟩) ?_ ?_
               rotate_left
               ·intro w'
                go_simp
                with_reducible rfl
               rotate_left
               ·simp only [Act.put, List.setIfInBounds_toArray, List.set_cons_zero, List.set_cons_succ, i64_w, i32_w]
                rfl
               refine pure_ (i := 2) (N := some 77) (v := ?_) (a' := ?_) #[true, true, true, false, false, false, false, false, false, false, false, false, false, false, false, false] rfl rfl (any_of HT_.out (by kernel_rfl)) (fun _ _ _ h => h) (Or.inl ⟨by rfl, ?_⟩) ?_ ?_
               rotate_left
               ·intro w'
                go_simp
                with_reducible rfl
               rotate_left
               ·simp only [Act.put, List.setIfInBounds_toArray, List.set_cons_zero, List.set_cons_succ, i64_w, i32_w]
                rfl
               refine pure_ (i := 3) (N := some 78) (v := ?_) (a' := ?_) #[true, true, true, true, false, false, false, false, false, false, false, false, false, false, false, false] rfl rfl (any_of HT_.out (by kernel_rfl)) (fun _ _ _ h => h) (Or.inl ⟨by rfl, ?_⟩) ?_ ?_
               rotate_left
               ·intro w'
                go_simp
                with_reducible rfl
               rotate_left
               ·simp only [Act.put, List.setIfInBounds_toArray, List.set_cons_zero, List.set_cons_succ, i64_w, i32_w]
                rfl
               refine pure_ (i := 4) (N := some 79) (v := ?_) (a' := ?_) #[true, true, true, true, true, false, false, false, false, false, false, false, false, false, false, false] rfl rfl (any_of HT_.out (by kernel_rfl)) (fun _ _ _ h => h) (Or.inl ⟨by rfl, ?_⟩) ?_ ?_
               rotate_left
               ·intro w'
                go_simp
                with_reducible rfl
               rotate_left
               ·simp only [Act.put, List.setIfInBounds_toArray, List.set_cons_zero, List.set_cons_succ, i64_w, i32_w]
                rfl
               refine pure_ (i := 5) (N := some 80) (v := ?_) (a' := ?_) #[true, true, true, true, true, true, false, false, false, false, false, false, false, false, false, false] rfl rfl (any_of HT_.out (by kernel_rfl)) (fun _ _ _ h => h) (Or.inl ⟨by rfl, ?_⟩) ?_ ?_
               rotate_left
               ·intro w'
                go_simp
                with_reducible rfl
               rotate_left
               ·simp only [Act.put, List.setIfInBounds_toArray, List.set_cons_zero, List.set_cons_succ, i64_w, i32_w]
                rfl
               refine pure_ (i := 6) (N := some 81) (v := ?_) (a' := ?_) #[true, true, true, true, true, true, true, false, false, false, false, false, false, false, false, false] rfl rfl (any_of HT_.out (by kernel_rfl)) (fun _ _ _ h => h) (Or.inl ⟨by rfl, ?_⟩) ?_ ?_
               rotate_left
               ·intro w'
                go_simp
                with_reducible rfl
               rotate_left
               ·simp only [Act.put, List.setIfInBounds_toArray, List.set_cons_zero, List.set_cons_succ, i64_w, i32_w]
                rfl
               refine pure_ (i := 8) (N := some 83) (v := ?_) (a' := ?_) #[true, true, true, true, true, true, true, false, true, false, false, false, false, false, false, false] rfl rfl (any_of HT_.out (by kernel_rfl)) (fun _ _ _ h => h) (Or.inl ⟨by rfl, ?_⟩) ?_ ?_
               rotate_left
               ·intro w'
                go_simp
                with_reducible rfl
               rotate_left
               ·simp only [Act.put, List.setIfInBounds_toArray, List.set_cons_zero, List.set_cons_succ, i64_w, i32_w]
                rfl
               refine pure_ (i := 10) (N := some 85) (v := ?_) (a' := ?_) #[true, true, true, true, true, true, true, false, true, false, true, false, false, false, false, false] rfl rfl (any_of HT_.out (by kernel_rfl)) (fun _ _ _ h => h) (Or.inl ⟨by rfl, ?_⟩) ?_ ?_
               rotate_left
               ·intro w'
                go_simp
                with_reducible rfl
               rotate_left
               ·simp only [Act.put, List.setIfInBounds_toArray, List.set_cons_zero, List.set_cons_succ, i64_w, i32_w]
                rfl
               refine take_ (i := 7) (N := some 82) (v := ?_) (a' := ?_) #[true, true, true, true, true, true, true, true, true, false, true, false, false, false, false, false] rfl rfl (take_ofW HT_.out HW_.out (by kernel_rfl)) (fun _ _ _ h => h) (Or.inl ⟨by rfl, ?_⟩) hHeld ?_ ?_
               rotate_left
               ·rintro w' ⟨s0, s1, s2, s3, s4, s5, s6, s7, s8⟩
                go_simp
                with_reducible rfl
               rotate_left
               ·simp only [Act.put, List.setIfInBounds_toArray, List.set_cons_zero, List.set_cons_succ, i64_w, i32_w]
                rfl
               refine take_ (i := 9) (N := some 84) (v := ?_) (a' := ?_) #[true, true, true, true, true, true, true, true, true, true, true, false, false, false, false, false] rfl rfl (take_ofW HT_.out HW_.out (by kernel_rfl)) (fun _ _ _ h => h) (Or.inl ⟨by rfl, ?_⟩) hHeld ?_ ?_
               rotate_left
               ·rintro w' ⟨s0, s1, s2, s3, s4, s5, s6, s7, s8⟩
                go_simp
                with_reducible rfl
               rotate_left
               ·simp only [Act.put, List.setIfInBounds_toArray, List.set_cons_zero, List.set_cons_succ, i64_w, i32_w]
                rfl
               refine pure_ (i := 11) (N := some 86) (v := ?_) (a' := ?_) #[true, true, true, true, true, true, true, true, true, true, true, true, false, false, false, false] rfl rfl (any_of HT_.out (by kernel_rfl)) (fun _ _ _ h => h) (Or.inl ⟨by rfl, ?_⟩) ?_ ?_
               rotate_left
               ·intro w'
                go_simp
                with_reducible rfl
               rotate_left
               ·simp only [Act.put, List.setIfInBounds_toArray, List.set_cons_zero, List.set_cons_succ, i64_w, i32_w]
                rfl
               refine take_ (i := 12) (N := some 87) (v := ?_) (a' := ?_) #[true, true, true, true, true, true, true, true, true, true, true, true, true, false, false, false] rfl rfl (take_ofW HT_.out HW_.out (by kernel_rfl)) (fun _ _ _ h => h) (Or.inl ⟨by rfl, ?_⟩) hHeld ?_ ?_
               rotate_left
               ·rintro w' ⟨s0, s1, s2, s3, s4, s5, s6, s7, s8⟩
                go_simp
                with_reducible rfl
               rotate_left
               ·simp only [Act.put, List.setIfInBounds_toArray, List.set_cons_zero, List.set_cons_succ, i64_w, i32_w]
                rfl
               refine one_ (i := 13) (N := some 88) #[true, true, true, true, true, true, true, true, true, true, true, true, true, true, false, false] rfl rfl (one_of HT_.out (by kernel_rfl)) (by decide) (fun K hK => ?_)
               refine goes_ Tryd.func25 (by kernel_rfl) rfl #[.agg #[.int .u8 t619, .slice Ao57 t620.length co57, .slice Ao58 t623.length co58], .agg #[.int .u8 ((rd_T43 t594 x14_3).f0), .slice A629_1 ((rd_T43 t594 x14_3).f1).length c629_1, .slice A629_2 ((rd_T43 t594 x14_3).f2).length c629_2]] (by rfl) rfl rfl aA ?_
               with_reducible refine (warderref04_Same.calls k3 t619 _ _ t620 _ _ t623 ((rd_T43 t594 x14_3).f0) _ _ ((rd_T43 t594 x14_3).f1) _ _ ((rd_T43 t594 x14_3).f2) false _ ?side1 ?side2 ?side3 ?side4 ?side5 ?side6 ?side7 ?side8 A36.out).mono ?_
               (case side1 => exact kC (Kd.R_reads' HO622.out).2.2)
               (case side2 => exact (Kd.R_reads' HO622.out).2.1)
               (case side3 => exact kC (Kd.N_reads' HO625.out).2.2)
               (case side4 => exact (Kd.N_reads' HO625.out).2.1)
               (case side5 => repeat (first | exact (by repeat (first | (with_reducible exact HR629_1.out) | (with_reducible refine Kd.C_alloc ?_ _) | (with_reducible refine Kd.C_drewN ?_ _) | (with_reducible refine Kd.C_drew ?_) | exact HR629_1.out)) | (with_reducible refine Kd.C_alloc ?_ _) | (with_reducible refine Kd.C_drewN ?_ _) | (with_reducible refine Kd.C_drew ?_)))
               (case side6 => exact HC629_1.out)
               (case side7 => repeat (first | exact (by repeat (first | (with_reducible exact HR629_2.out) | (with_reducible refine Kd.C_alloc ?_ _) | (with_reducible refine Kd.C_drewN ?_ _) | (with_reducible refine Kd.C_drew ?_) | exact HR629_2.out)) | (with_reducible refine Kd.C_alloc ?_ _) | (with_reducible refine Kd.C_drewN ?_ _) | (with_reducible refine Kd.C_drew ?_)))
               (case side8 => exact HC629_2.out)
               rintro e w61 ⟨rfl, hb⟩
               have HS6_ := (hb.cell (World.block_lt_of_cell? _ _ (hHeld.2.2.2.2.2.2.1))).trans (hHeld.2.2.2.2.2.2.1)
               have HS7_ := (hb.cell (World.block_lt_of_cell? _ _ (hHeld.2.2.2.2.2.2.2.1))).trans (hHeld.2.2.2.2.2.2.2.1)
               have HS8_ := (hb.cell (World.block_lt_of_cell? _ _ (hHeld.2.2.2.2.2.2.2.2))).trans (hHeld.2.2.2.2.2.2.2.2)
               refine ⟨_, rfl, ?_⟩
               replace HO_9 := aZ (Kd.R_below (kR HO_9.out) hb)
               replace HO_600001 := aZ (Kd.R_below (kR HO_600001.out) hb)
               replace HO_600002 := aZ (Kd.N_below (kN HO_600002.out) hb)
               replace HO617 := aZ (Kd.R_below (kR HO617.out) hb)
               replace HO622 := aZ (Kd.R_below (kR HO622.out) hb)
               replace HO625 := aZ (Kd.N_below (kN HO625.out) hb)
               replace HL629_1 := aZ (Kd.V_below (kV HL629_1.out) hb)
               replace HL629_2 := aZ (Kd.V_below (kV HL629_2.out) hb)
               replace BK584 := aZ (bkB BK584.out hb)
               replace BK599 := aZ (bkB BK599.out hb)
               replace BK628 := aZ (bkB BK628.out hb)
               replace HR629_1 := aZ (Kd.C_below (by repeat (first | (with_reducible exact HR629_1.out) | (with_reducible refine Kd.C_alloc ?_ _) | (with_reducible refine Kd.C_drewN ?_ _) | (with_reducible refine Kd.C_drew ?_) | exact HR629_1.out)) hb)
               replace HR629_2 := aZ (Kd.C_below (by repeat (first | (with_reducible exact HR629_2.out) | (with_reducible refine Kd.C_alloc ?_ _) | (with_reducible refine Kd.C_drewN ?_ _) | (with_reducible refine Kd.C_drew ?_) | exact HR629_2.out)) hb)
               replace HB := aZ (below_step bB hb)
               (try clear hb)
               (try clear hb2)
               (try clear hk)
               (try clear hi)
               refine hK.out _ _ ⟨(blk_cell BK628.out 0).trans rfl, (blk_cell BK628.out 1).trans rfl, (blk_cell BK628.out 2).trans rfl, (blk_cell BK599.out 0).trans rfl, (blk_cell BK599.out 1).trans rfl, (blk_cell BK599.out 2).trans rfl, HS6_, HS7_, HS8_⟩ (fun hHeld => ?_)
               clear hK K
               refine norm_ (a' := ?_) ?_ ?_
               rotate_left
               ·show Act.put _ (some 88) _ = _
                simp only [Act.put, List.setIfInBounds_toArray, List.set_cons_zero, List.set_cons_succ, i64_w, i32_w]
                rfl
               refine pure_ (i := 14) (N := some 89) (v := ?_) (a' := ?_) #[true, true, true, true, true, true, true, true, true, true, true, true, true, true, true, false] rfl rfl (any_of HT_.out (by kernel_rfl)) (fun _ _ _ h => h) (Or.inl ⟨by rfl, ?_⟩) ?_ ?_
               rotate_left
               ·intro w'
                go_simp
                with_reducible rfl
               rotate_left
               ·simp only [Act.put, List.setIfInBounds_toArray, List.set_cons_zero, List.set_cons_succ, i64_w, i32_w]
                rfl
               refine pure_ (i := 15) (N := some 90) (v := ?_) (a' := ?_) #[true, true, true, true, true, true, true, true, true, true, true, true, true, true, true, true] rfl rfl (any_of HT_.out (by kernel_rfl)) (fun _ _ _ h => h) (Or.inl ⟨by rfl, ?_⟩) ?_ ?_
               rotate_left
               ·intro w'
                go_simp
                with_reducible rfl
               rotate_left
               ·simp only [Act.put, List.setIfInBounds_toArray, List.set_cons_zero, List.set_cons_succ, i64_w, i32_w]
                rfl
               refine done_ (done_of HT_.out (by kernel_rfl)) ?_
               try go_wp2
               go_ret
               exact ⟨rF, bB⟩
             ·rw [if_neg c35] at H
              exact absurd H (by simp)
            ·rw [if_neg c34] at H
             have c34b0 : (t627 == 0) = false := beq_eq_false_iff_ne.mpr c34
             have c34b1 : (t627 != 0) = true := bne_iff_ne.mpr c34
             obtain rfl := Option.some.inj H
             have p614 : 0 ≤ (x14_3 : Int) := oD
             have q614 : x14_3 < (l0.length : Int) := oD
             obtain ⟨ad614, A614_1, c614_1, A614_2, c614_2, e614, hx614_0, hx614_1, hx614_2, hl614_1, hi614_1, hl614_2, hi614_2⟩ := at_T43 HR0.out x14_3 p614 q614
             cases e614
             replace hx614_0 := (HB.out.cell (World.block_lt_of_cell? w _ hx614_0)).trans hx614_0
             replace hx614_1 := (HB.out.cell (World.block_lt_of_cell? w _ hx614_1)).trans hx614_1
             replace hx614_2 := (HB.out.cell (World.block_lt_of_cell? w _ hx614_2)).trans hx614_2
             have HR614_1 := aZ hi614_1
             have HC614_1 := aZ hl614_1
             clear hi614_1 hl614_1
             have HR614_2 := aZ hi614_2
             have HC614_2 := aZ hl614_2
             clear hi614_2 hl614_2
             replace p614 := eq_true p614
             replace q614 := eq_true q614
             try go_wp2_with (first | ((with_reducible refine gC 27 rfl ?_); refine goL (some 66) Tryd.func27 #[.agg #[.int .u8 ((rd_T43 l0 x14_3).f0), .slice A614_1 ((rd_T43 l0 x14_3).f1).length c614_1, .slice A614_2 ((rd_T43 l0 x14_3).f2).length c614_2]] ?_; (with_reducible refine (nodes_Print.calls k3 ((rd_T43 l0 x14_3).f0) _ _ ((rd_T43 l0 x14_3).f1) _ _ ((rd_T43 l0 x14_3).f2) t615 t618 _ ?side1 ?side2 ?side3 ?side4 ?side5 A31.out).mono ?_); (case side1 => exact hTU); (case side2 => exact kC (Kd.C_below HR614_1.out HB.out)); (case side3 => exact HC614_1.out); (case side4 => exact kC (Kd.C_below HR614_2.out HB.out)); (case side5 => exact HC614_2.out); rintro e w62 ⟨v616, rfl, ho0, hb⟩; refine ⟨_, rfl, ?_⟩; replace HO_600002 := aZ (Kd.N_elder' (kN HO_600002.out) (Kd.R_base ho0) hb); have HO617 := aZ (Kd.R_lower (Kd.R_new' (Kd.R_new' ho0 (Kd.R_lt (kR HO_9.out))) (Kd.R_lt (kR HO_600001.out))) (below_size bB)); replace HO_9 := aZ (Kd.R_elder' (kR HO_9.out) (Kd.R_base ho0) hb); replace HO_600001 := aZ (Kd.R_elder' (kR HO_600001.out) (Kd.R_base ho0) hb); replace BK584 := aZ (bkB BK584.out hb); replace BK599 := aZ (bkB BK599.out hb); replace HB := aZ (below_step bB hb); (try clear hb); (try clear hb2); (try clear hk); (try clear hi); (try clear ho0); obtain ⟨Ao63, co63, eo63⟩ := Kd.R_slice HO617.out; subst eo63) | ((with_reducible refine gC 23 rfl ?_); refine goL (some 71) Tryd.func23 #[.slice Ao63 t615.length co63] ?_; (with_reducible refine (nodes_Parse.calls k3 (fun k_ => some k_ = (.slice Ao63 t615.length co63 : Value).ownBlock) _ _ t615 t619 t620 t623 t626 t627 _ ?side1 ?side2 A32.out).mono ?_); (case side1 => exact hTU); (case side2 => exact Kd.R_V (Kd.R_tight rfl (Kd.R_types (Kd.R_types (Kd.R_apart' (HO617.out) (Kd.N_typed HO_600002.out) (by decide)) BK584.out (by decide)) BK599.out (by decide)))); rintro e w64 ⟨v621, v624, rfl, ho0, ho1, hb⟩; refine ⟨_, rfl, ?_⟩; have HO622 := aZ (Kd.R_lower (Kd.R_new' (Kd.R_new' (Kd.R_new' (Kd.R_mono (ok' := fun k_ => True) ho0 (fun _ hk_ => trivial)) (Kd.R_lt (kR HO_9.out))) (Kd.R_lt (kR HO_600001.out))) (Kd.R_lt (kR HO617.out))) (below_size bB)); have HO625 := aZ (Kd.N_lower (Kd.N_mono (ok' := fun k_ => some k_ ≠ (v621 : Value).ownBlock ∧ some k_ ≠ (.slice Ao18 t585.length co18 : Value).ownBlock ∧ some k_ ≠ (.slice Ao23 t591.length co23 : Value).ownBlock ∧ some k_ ≠ (.slice Ao24 t594.length co24 : Value).ownBlock ∧ k_ ≠ gb584 ∧ k_ ≠ gb599) ho1 (fun k_ hk_ => ⟨hk_.2, Or.elim hk_.1 (fun hs_ => ((Kd.R_types (Kd.R_types (Kd.R_apart' (HO617.out) (Kd.N_typed HO_600002.out) (by decide)) BK584.out (by decide)) BK599.out (by decide)).1 k_ hs_.symm).1.1.1.1.2) (fun hn_ => (Kd.fresh' (Kd.R_lt (kR HO_9.out)) k_ hn_)), Or.elim hk_.1 (fun hs_ => ((Kd.R_types (Kd.R_types (Kd.R_apart' (HO617.out) (Kd.N_typed HO_600002.out) (by decide)) BK584.out (by decide)) BK599.out (by decide)).1 k_ hs_.symm).1.1.1.2) (fun hn_ => (Kd.fresh' (Kd.R_lt (kR HO_600001.out)) k_ hn_)), Or.elim hk_.1 (fun hs_ => ((Kd.R_types (Kd.R_types (Kd.R_apart' (HO617.out) (Kd.N_typed HO_600002.out) (by decide)) BK584.out (by decide)) BK599.out (by decide)).1 k_ hs_.symm).1.1.2) (fun hn_ => (Kd.fresh' (Kd.N_lt (kN HO_600002.out)) k_ hn_)), Or.elim hk_.1 (fun hs_ => ((Kd.R_types (Kd.R_types (Kd.R_apart' (HO617.out) (Kd.N_typed HO_600002.out) (by decide)) BK584.out (by decide)) BK599.out (by decide)).1 k_ hs_.symm).1.2) (fun hn_ => (Kd.freshB (g := gb584) (o := .cells #[.int .u8 (Go.bits .or .u8 (Go.bits .and .u8 a1 31) 160), .slice none 0 0, .slice (some ad614) l0.length c0] 43 (0, 0)) (kB BK584.out) k_ hn_)), Or.elim hk_.1 (fun hs_ => ((Kd.R_types (Kd.R_types (Kd.R_apart' (HO617.out) (Kd.N_typed HO_600002.out) (by decide)) BK584.out (by decide)) BK599.out (by decide)).1 k_ hs_.symm).2) (fun hn_ => (Kd.freshB (g := gb599) (o := .cells #[.int .u8 t590, .slice Ao23 t591.length co23, .slice Ao24 t594.length co24] 43 (0, 0)) (kB BK599.out) k_ hn_))⟩)) (below_size bB)); replace HO_9 := aZ (Kd.R_elder' (kR HO_9.out) (Kd.R_base ho0) hb); replace HO_600001 := aZ (Kd.R_elder' (kR HO_600001.out) (Kd.R_base ho0) hb); replace HO_600002 := aZ (Kd.N_mono (Kd.N_told (Kd.N_told (Kd.N_old (kN HO_600002.out) hb) (Kd.R_base ho0)) (Kd.N_base ho1)) (fun _ h_ => h_.1)); replace HO617 := aZ (Kd.R_elder' (kR HO617.out) (Kd.R_base ho0) hb); replace BK584 := aZ (bkB BK584.out hb); replace BK599 := aZ (bkB BK599.out hb); replace HB := aZ (below_step bB hb); (try clear hb); (try clear hb2); (try clear hk); (try clear hi); (try clear ho0); (try clear ho1)) | ((with_reducible refine gD 17 rfl ?_); (try (refine gate_guard (by rfl) ?_; dsimp only)); refine bxE (N := 17) (cs := #[.int .u8 0, .slice none 0 0, .slice none 0 0]) (t := 43) ?_; intro gb628 hg w65 hbox hb; replace HO_9 := aZ (Kd.R_below (kR HO_9.out) hb); replace HO_600001 := aZ (Kd.R_below (kR HO_600001.out) hb); replace HO_600002 := aZ (Kd.N_below (Kd.N_elderB (kN HO_600002.out) gb628 (Nat.le_of_eq hg.symm)) hb); replace HO617 := aZ (Kd.R_below (kR HO617.out) hb); replace HO622 := aZ (Kd.R_below (kR HO622.out) hb); replace HO625 := aZ (Kd.N_below (Kd.N_elderB (kN HO625.out) gb628 (Nat.le_of_eq hg.symm)) hb); have BK628 := aZ (hbox); have GW628 := aZ (gwB hg : w.heap.size ≤ gb628); have GE628 := aZ (gwB hg : w.heap.size ≤ gb628); replace HB := aZ (below_step bB hb); have NB584_628 := aZ (nbL BK584.out hg); have NB628_584 := aZ (nbR BK584.out hg); replace BK584 := aZ (bkB BK584.out hb); have NB599_628 := aZ (nbL BK599.out hg); have NB628_599 := aZ (nbR BK599.out hg); replace BK599 := aZ (bkB BK599.out hb); clear hb hbox hg; have hnb66 := NB628_584.out; have hnc66 := NB584_628.out; have hnb67 := NB628_599.out; have hnc67 := NB599_628.out; obtain ⟨hcz68_0, hcz68_1, hcz68_2⟩ := cz3 (w := w65) BK628.out; obtain ⟨hfz68_0, hfz68_1, hfz68_2⟩ := fz3 BK628.out; obtain ⟨Ao69, co69, eo69⟩ := Kd.R_slice HO622.out; subst eo69; obtain ⟨Ao70, co70, eo70⟩ := Kd.N_slice HO625.out; subst eo70))
             have n0_ : Aside0 (Kd.R (Kd.int .u8) 5 (((w65.setCell ⟨gb628, 0, none⟩ (.int .u8 t619)).setCell ⟨gb628, 1, none⟩ (.slice Ao69 t620.length co69)).setCell ⟨gb628, 2, none⟩ (.slice Ao70 t623.length co70)) w.heap.size (fun k_ => some k_ ≠ (.slice Ao23 t591.length co23 : Value).ownBlock ∧ some k_ ≠ (.slice Ao63 t615.length co63 : Value).ownBlock ∧ some k_ ≠ (.slice Ao69 t620.length co69 : Value).ownBlock) (.slice Ao18 t585.length co18) t585) := ⟨by refine kR ?_; exact Kd.R_mono (Kd.R_far (p := ⟨gb628, 2, none⟩) (Kd.R_far (p := ⟨gb628, 1, none⟩) (Kd.R_far (p := ⟨gb628, 0, none⟩) (Kd.R_types HO_9.out BK628.out (by decide)) (fun _ hk => hk.2) (.int .u8 t619)) (fun _ hk => hk.2) (.slice Ao69 t620.length co69)) (fun _ hk => hk.2) (.slice Ao70 t623.length co70)) (fun _ hk => ⟨hk.1.1.1, ⟨hk.1.1.2, hk.1.2⟩⟩)⟩
             have n1_ : Aside0 (Kd.R (Kd.int .u8) 5 (((w65.setCell ⟨gb628, 0, none⟩ (.int .u8 t619)).setCell ⟨gb628, 1, none⟩ (.slice Ao69 t620.length co69)).setCell ⟨gb628, 2, none⟩ (.slice Ao70 t623.length co70)) w.heap.size (fun k_ => some k_ ≠ (.slice Ao18 t585.length co18 : Value).ownBlock ∧ some k_ ≠ (.slice Ao63 t615.length co63 : Value).ownBlock ∧ some k_ ≠ (.slice Ao69 t620.length co69 : Value).ownBlock) (.slice Ao23 t591.length co23) t591) := ⟨by refine kR ?_; exact Kd.R_mono (Kd.R_far (p := ⟨gb628, 2, none⟩) (Kd.R_far (p := ⟨gb628, 1, none⟩) (Kd.R_far (p := ⟨gb628, 0, none⟩) (Kd.R_types HO_600001.out BK628.out (by decide)) (fun _ hk => hk.2) (.int .u8 t619)) (fun _ hk => hk.2) (.slice Ao69 t620.length co69)) (fun _ hk => hk.2) (.slice Ao70 t623.length co70)) (fun _ hk => ⟨hk.1.1.1, ⟨hk.1.1.2, hk.1.2⟩⟩)⟩
             have n2_ : Aside0 (Kd.N k43 43 (((w65.setCell ⟨gb628, 0, none⟩ (.int .u8 t619)).setCell ⟨gb628, 1, none⟩ (.slice Ao69 t620.length co69)).setCell ⟨gb628, 2, none⟩ (.slice Ao70 t623.length co70)) w.heap.size (fun k_ => some k_ ≠ (.slice Ao23 t591.length co23 : Value).ownBlock ∧ some k_ ≠ (.slice Ao63 t615.length co63 : Value).ownBlock ∧ some k_ ≠ (.slice Ao69 t620.length co69 : Value).ownBlock ∧ some k_ ≠ (.slice Ao70 t623.length co70 : Value).ownBlock ∧ k_ ≠ gb584 ∧ k_ ≠ gb599 ∧ k_ ≠ gb628) (.slice Ao24 t594.length co24) t594) := ⟨by refine kN ?_; exact Kd.N_mono (Kd.N_far (p := ⟨gb628, 2, none⟩) (Kd.N_far (p := ⟨gb628, 1, none⟩) (Kd.N_far (p := ⟨gb628, 0, none⟩) (Kd.N_mono HO_600002.out (fun k_ hk => (⟨hk, hk.2⟩ : _ ∧ k_ ≠ gb628))) (fun _ hk => hk.2) (.int .u8 t619)) (fun _ hk => hk.2) (.slice Ao69 t620.length co69)) (fun _ hk => hk.2) (.slice Ao70 t623.length co70)) (fun _ hk => ⟨hk.1.1.1.1.1.1, ⟨hk.1.1.1.1.2, ⟨hk.1.1.1.2, ⟨hk.1.1.2, ⟨hk.1.1.1.1.1.2.1, ⟨hk.1.1.1.1.1.2.2, hk.1.2⟩⟩⟩⟩⟩⟩)⟩
             have n3_ : Aside0 (Kd.R (Kd.int .u8) 5 (((w65.setCell ⟨gb628, 0, none⟩ (.int .u8 t619)).setCell ⟨gb628, 1, none⟩ (.slice Ao69 t620.length co69)).setCell ⟨gb628, 2, none⟩ (.slice Ao70 t623.length co70)) w.heap.size (fun k_ => some k_ ≠ (.slice Ao18 t585.length co18 : Value).ownBlock ∧ some k_ ≠ (.slice Ao23 t591.length co23 : Value).ownBlock ∧ some k_ ≠ (.slice Ao69 t620.length co69 : Value).ownBlock) (.slice Ao63 t615.length co63) t615) := ⟨by refine kR ?_; exact Kd.R_mono (Kd.R_far (p := ⟨gb628, 2, none⟩) (Kd.R_far (p := ⟨gb628, 1, none⟩) (Kd.R_far (p := ⟨gb628, 0, none⟩) (Kd.R_types HO617.out BK628.out (by decide)) (fun _ hk => hk.2) (.int .u8 t619)) (fun _ hk => hk.2) (.slice Ao69 t620.length co69)) (fun _ hk => hk.2) (.slice Ao70 t623.length co70)) (fun _ hk => ⟨hk.1.1.1.2, ⟨hk.1.1.2, hk.1.2⟩⟩)⟩
             have n4_ : Aside0 (Kd.R (Kd.int .u8) 5 (((w65.setCell ⟨gb628, 0, none⟩ (.int .u8 t619)).setCell ⟨gb628, 1, none⟩ (.slice Ao69 t620.length co69)).setCell ⟨gb628, 2, none⟩ (.slice Ao70 t623.length co70)) w.heap.size (fun k_ => some k_ ≠ (.slice Ao18 t585.length co18 : Value).ownBlock ∧ some k_ ≠ (.slice Ao23 t591.length co23 : Value).ownBlock ∧ some k_ ≠ (.slice Ao63 t615.length co63 : Value).ownBlock) (.slice Ao69 t620.length co69) t620) := ⟨by refine kR ?_; exact Kd.R_mono (Kd.R_far (p := ⟨gb628, 2, none⟩) (Kd.R_far (p := ⟨gb628, 1, none⟩) (Kd.R_far (p := ⟨gb628, 0, none⟩) (Kd.R_types HO622.out BK628.out (by decide)) (fun _ hk => hk.2) (.int .u8 t619)) (fun _ hk => hk.2) (.slice Ao69 t620.length co69)) (fun _ hk => hk.2) (.slice Ao70 t623.length co70)) (fun _ hk => ⟨hk.1.1.1.2, ⟨hk.1.1.2, hk.1.2⟩⟩)⟩
             have n5_ : Aside0 (Kd.N k43 43 (((w65.setCell ⟨gb628, 0, none⟩ (.int .u8 t619)).setCell ⟨gb628, 1, none⟩ (.slice Ao69 t620.length co69)).setCell ⟨gb628, 2, none⟩ (.slice Ao70 t623.length co70)) w.heap.size (fun k_ => some k_ ≠ (.slice Ao18 t585.length co18 : Value).ownBlock ∧ some k_ ≠ (.slice Ao23 t591.length co23 : Value).ownBlock ∧ some k_ ≠ (.slice Ao24 t594.length co24 : Value).ownBlock ∧ some k_ ≠ (.slice Ao69 t620.length co69 : Value).ownBlock ∧ k_ ≠ gb584 ∧ k_ ≠ gb599 ∧ k_ ≠ gb628) (.slice Ao70 t623.length co70) t623) := ⟨by refine kN ?_; exact Kd.N_mono (Kd.N_far (p := ⟨gb628, 2, none⟩) (Kd.N_far (p := ⟨gb628, 1, none⟩) (Kd.N_far (p := ⟨gb628, 0, none⟩) (Kd.N_mono HO625.out (fun k_ hk => (⟨hk, hk.2⟩ : _ ∧ k_ ≠ gb628))) (fun _ hk => hk.2) (.int .u8 t619)) (fun _ hk => hk.2) (.slice Ao69 t620.length co69)) (fun _ hk => hk.2) (.slice Ao70 t623.length co70)) (fun _ hk => ⟨hk.1.1.2.1, ⟨hk.1.1.2.2.1, ⟨hk.1.1.2.2.2.1, ⟨hk.1.1.1, ⟨hk.1.1.2.2.2.2.1, ⟨hk.1.1.2.2.2.2.2, hk.1.2⟩⟩⟩⟩⟩⟩)⟩
             have n6_ : Aside0 ((((w65.setCell ⟨gb628, 0, none⟩ (.int .u8 t619)).setCell ⟨gb628, 1, none⟩ (.slice Ao69 t620.length co69)).setCell ⟨gb628, 2, none⟩ (.slice Ao70 t623.length co70)).heap[gb584]? = some (.cells #[.int .u8 (Go.bits .or .u8 (Go.bits .and .u8 a1 31) 160), .slice none 0 0, .slice (some ad614) l0.length c0] 43 (0, 0))) := ⟨by refine kB ?_; refine blk_far ?_ NB584_628.out _; refine kB ?_; refine blk_far ?_ NB584_628.out _; refine kB ?_; refine blk_far ?_ NB584_628.out _; refine kB ?_; exact BK584.out⟩
             have n7_ : Aside0 ((((w65.setCell ⟨gb628, 0, none⟩ (.int .u8 t619)).setCell ⟨gb628, 1, none⟩ (.slice Ao69 t620.length co69)).setCell ⟨gb628, 2, none⟩ (.slice Ao70 t623.length co70)).heap[gb599]? = some (.cells #[.int .u8 t590, .slice Ao23 t591.length co23, .slice Ao24 t594.length co24] 43 (0, 0))) := ⟨by refine kB ?_; refine blk_far ?_ NB599_628.out _; refine kB ?_; refine blk_far ?_ NB599_628.out _; refine kB ?_; refine blk_far ?_ NB599_628.out _; refine kB ?_; exact BK599.out⟩
             have n8_ : Aside0 ((((w65.setCell ⟨gb628, 0, none⟩ (.int .u8 t619)).setCell ⟨gb628, 1, none⟩ (.slice Ao69 t620.length co69)).setCell ⟨gb628, 2, none⟩ (.slice Ao70 t623.length co70)).heap[gb628]? = some (.cells #[.int .u8 t619, .slice Ao69 t620.length co69, .slice Ao70 t623.length co70] 43 (0, 0))) := ⟨by refine kB ?_; refine blk_put (cs := #[.int .u8 t619, .slice Ao69 t620.length co69, .slice none 0 0]) ?_ 2 _ rfl; refine kB ?_; refine blk_put (cs := #[.int .u8 t619, .slice none 0 0, .slice none 0 0]) ?_ 1 _ rfl; refine kB ?_; refine blk_put (cs := #[.int .u8 0, .slice none 0 0, .slice none 0 0]) ?_ 0 _ rfl; refine kB ?_; exact BK628.out⟩
             have n9_ : Aside0 (Below w.heap.size w (((w65.setCell ⟨gb628, 0, none⟩ (.int .u8 t619)).setCell ⟨gb628, 1, none⟩ (.slice Ao69 t620.length co69)).setCell ⟨gb628, 2, none⟩ (.slice Ao70 t623.length co70))) := ⟨bB⟩
             (try clear HO_9)
             (try clear HO_600001)
             (try clear HO_600002)
             (try clear HO617)
             (try clear HO622)
             (try clear HO625)
             (try clear BK584)
             (try clear BK599)
             (try clear BK628)
             (try clear HB)
             generalize (((w65.setCell ⟨gb628, 0, none⟩ (.int .u8 t619)).setCell ⟨gb628, 1, none⟩ (.slice Ao69 t620.length co69)).setCell ⟨gb628, 2, none⟩ (.slice Ao70 t623.length co70)) = w71 at n0_ n1_ n2_ n3_ n4_ n5_ n6_ n7_ n8_ n9_ ⊢
             have HO_9 := n0_
             have HO_600001 := n1_
             have HO_600002 := n2_
             have HO617 := n3_
             have HO622 := n4_
             have HO625 := n5_
             have BK584 := n6_
             have BK599 := n7_
             have BK628 := n8_
             have HB := n9_
             clear n0_ n1_ n2_ n3_ n4_ n5_ n6_ n7_ n8_ n9_
             replace HO_9 := aZ (Kd.R_drew HO_9.out)
             replace HO_600001 := aZ (Kd.R_drew HO_600001.out)
             replace HO_600002 := aZ (Kd.N_drew HO_600002.out)
             replace HO617 := aZ (Kd.R_drew HO617.out)
             replace HO622 := aZ (Kd.R_drew HO622.out)
             replace HO625 := aZ (Kd.N_drew HO625.out)
             replace BK584 := aZ (blk_drew BK584.out)
             replace BK599 := aZ (blk_drew BK599.out)
             replace BK628 := aZ (blk_drew BK628.out)
             replace HB := aZ (below_drew1 HB.out)
             refine start_ (n := 16) (S := fun w' => True) (ds := []) #[false, false, false, false, false, false, false, false, false, false, false, false, false, false, false, false] (by kernel_rfl) rfl rfl trivial (fun hHeld => ?_); refine with_tabW warderlaw04_NodesInner.tab14 warderlaw04_NodesInner.bits14 (fun HT_ HW_ => ?_)
             generalize w71.drew = w72 at HO_9 HO_600001 HO_600002 HO617 HO622 HO625 BK584 BK599 BK628 HB hHeld ⊢
             refine pure_ (i := 0) (N := some 75) (v := ?_) (a' := ?_) #[true, false, false, false, false, false, false, false, false, false, false, false, false, false, false, false] rfl rfl (any_of HT_.out (by kernel_rfl)) (fun _ _ _ h => h) (Or.inl ⟨by rfl, ?_⟩) ?_ ?_
             rotate_left
             ·intro w'
              go_simp
              with_reducible rfl
             rotate_left
             ·simp only [Act.put, List.setIfInBounds_toArray, List.set_cons_zero, List.set_cons_succ, i64_w, i32_w]
              rfl
             refine pure_ (i := 1) (N := some 76) (v := ?_) (a' := ?_) #[true, true, false, false, false, false, false, false, false, false, false, false, false, false, false, false] rfl rfl (any_of HT_.out (by kernel_rfl)) (fun _ _ _ h => h) (Or.inl ⟨by rfl, ?_⟩) ?_ ?_
             rotate_left
             ·intro w'
              go_simp
              with_reducible rfl
             rotate_left
             ·simp only [Act.put, List.setIfInBounds_toArray, List.set_cons_zero, List.set_cons_succ, i64_w, i32_w]
              rfl
             refine pure_ (i := 2) (N := some 77) (v := ?_) (a' := ?_) #[true, true, true, false, false, false, false, false, false, false, false, false, false, false, false, false] rfl rfl (any_of HT_.out (by kernel_rfl)) (fun _ _ _ h => h) (Or.inl ⟨by rfl, ?_⟩) ?_ ?_
             rotate_left
             ·intro w'
              go_simp
              with_reducible rfl
             rotate_left
             ·simp only [Act.put, List.setIfInBounds_toArray, List.set_cons_zero, List.set_cons_succ, i64_w, i32_w]
              rfl
             refine pure_ (i := 3) (N := some 78) (v := ?_) (a' := ?_) #[true, true, true, true, false, false, false, false, false, false, false, false, false, false, false, false] rfl rfl (any_of HT_.out (by kernel_rfl)) (fun _ _ _ h => h) (Or.inl ⟨by rfl, ?_⟩) ?_ ?_
             rotate_left
             ·intro w'
              go_simp
              with_reducible rfl
             rotate_left
             ·simp only [Act.put, List.setIfInBounds_toArray, List.set_cons_zero, List.set_cons_succ, i64_w, i32_w]
              rfl
             refine pure_ (i := 4) (N := some 79) (v := ?_) (a' := ?_) #[true, true, true, true, true, false, false, false, false, false, false, false, false, false, false, false] rfl rfl (any_of HT_.out (by kernel_rfl)) (fun _ _ _ h => h) (Or.inl ⟨by rfl, ?_⟩) ?_ ?_
             rotate_left
             ·intro w'
              go_simp
              with_reducible rfl
             rotate_left
             ·simp only [Act.put, List.setIfInBounds_toArray, List.set_cons_zero, List.set_cons_succ, i64_w, i32_w]
              rfl
             refine pure_ (i := 5) (N := some 80) (v := ?_) (a' := ?_) #[true, true, true, true, true, true, false, false, false, false, false, false, false, false, false, false] rfl rfl (any_of HT_.out (by kernel_rfl)) (fun _ _ _ h => h) (Or.inl ⟨by rfl, ?_⟩) ?_ ?_
             rotate_left
             ·intro w'
              go_simp
              with_reducible rfl
             rotate_left
             ·simp only [Act.put, List.setIfInBounds_toArray, List.set_cons_zero, List.set_cons_succ, i64_w, i32_w]
              rfl
             refine pure_ (i := 6) (N := some 81) (v := ?_) (a' := ?_) #[true, true, true, true, true, true, true, false, false, false, false, false, false, false, false, false] rfl rfl (any_of HT_.out (by kernel_rfl)) (fun _ _ _ h => h) (Or.inl ⟨by rfl, ?_⟩) ?_ ?_
             rotate_left
             ·intro w'
              go_simp
              with_reducible rfl
             rotate_left
             ·simp only [Act.put, List.setIfInBounds_toArray, List.set_cons_zero, List.set_cons_succ, i64_w, i32_w]
              rfl
             refine pure_ (i := 7) (N := some 82) (v := undef) (a' := ?_) #[true, true, true, true, true, true, true, true, false, false, false, false, false, false, false, false] rfl rfl (any_of HT_.out (by kernel_rfl)) (fun _ _ _ h => h) (Or.inr ⟨by rfl, rfl⟩) ?_ ?_
             rotate_left
             ·simp only [Act.put, List.setIfInBounds_toArray, List.set_cons_zero, List.set_cons_succ, i64_w, i32_w]
              rfl
             refine pure_ (i := 8) (N := some 83) (v := undef) (a' := ?_) #[true, true, true, true, true, true, true, true, true, false, false, false, false, false, false, false] rfl rfl (any_of HT_.out (by kernel_rfl)) (fun _ _ _ h => h) (Or.inr ⟨by rfl, rfl⟩) ?_ ?_
             rotate_left
             ·simp only [Act.put, List.setIfInBounds_toArray, List.set_cons_zero, List.set_cons_succ, i64_w, i32_w]
              rfl
             refine pure_ (i := 9) (N := some 84) (v := undef) (a' := ?_) #[true, true, true, true, true, true, true, true, true, true, false, false, false, false, false, false] rfl rfl (any_of HT_.out (by kernel_rfl)) (fun _ _ _ h => h) (Or.inr ⟨by rfl, rfl⟩) ?_ ?_
             rotate_left
             ·simp only [Act.put, List.setIfInBounds_toArray, List.set_cons_zero, List.set_cons_succ, i64_w, i32_w]
              rfl
             refine pure_ (i := 10) (N := some 85) (v := undef) (a' := ?_) #[true, true, true, true, true, true, true, true, true, true, true, false, false, false, false, false] rfl rfl (any_of HT_.out (by kernel_rfl)) (fun _ _ _ h => h) (Or.inr ⟨by rfl, rfl⟩) ?_ ?_
             rotate_left
             ·simp only [Act.put, List.setIfInBounds_toArray, List.set_cons_zero, List.set_cons_succ, i64_w, i32_w]
              rfl
             refine pure_ (i := 11) (N := some 86) (v := undef) (a' := ?_) #[true, true, true, true, true, true, true, true, true, true, true, true, false, false, false, false] rfl rfl (any_of HT_.out (by kernel_rfl)) (fun _ _ _ h => h) (Or.inr ⟨by rfl, rfl⟩) ?_ ?_
             rotate_left
             ·simp only [Act.put, List.setIfInBounds_toArray, List.set_cons_zero, List.set_cons_succ, i64_w, i32_w]
              rfl
             refine pure_ (i := 12) (N := some 87) (v := undef) (a' := ?_) #[true, true, true, true, true, true, true, true, true, true, true, true, true, false, false, false] rfl rfl (any_of HT_.out (by kernel_rfl)) (fun _ _ _ h => h) (Or.inr ⟨by rfl, rfl⟩) ?_ ?_
             rotate_left
             ·simp only [Act.put, List.setIfInBounds_toArray, List.set_cons_zero, List.set_cons_succ, i64_w, i32_w]
              rfl
             refine pure_ (i := 13) (N := some 88) (v := undef) (a' := ?_) #[true, true, true, true, true, true, true, true, true, true, true, true, true, true, false, false] rfl rfl (any_of HT_.out (by kernel_rfl)) (fun _ _ _ h => h) (Or.inr ⟨by rfl, rfl⟩) ?_ ?_
             rotate_left
             ·simp only [Act.put, List.setIfInBounds_toArray, List.set_cons_zero, List.set_cons_succ, i64_w, i32_w]
              rfl
             refine pure_ (i := 14) (N := some 89) (v := undef) (a' := ?_) #[true, true, true, true, true, true, true, true, true, true, true, true, true, true, true, false] rfl rfl (any_of HT_.out (by kernel_rfl)) (fun _ _ _ h => h) (Or.inr ⟨by rfl, rfl⟩) ?_ ?_
             rotate_left
             ·simp only [Act.put, List.setIfInBounds_toArray, List.set_cons_zero, List.set_cons_succ, i64_w, i32_w]
              rfl
             refine pure_ (i := 15) (N := some 90) (v := ?_) (a' := ?_) #[true, true, true, true, true, true, true, true, true, true, true, true, true, true, true, true] rfl rfl (any_of HT_.out (by kernel_rfl)) (fun _ _ _ h => h) (Or.inl ⟨by rfl, ?_⟩) ?_ ?_
             rotate_left
             ·intro w'
              go_simp
              with_reducible rfl
             rotate_left
             ·simp only [Act.put, List.setIfInBounds_toArray, List.set_cons_zero, List.set_cons_succ, i64_w, i32_w]
              rfl
             refine done_ (done_of HT_.out (by kernel_rfl)) ?_
             try go_wp2
             go_ret
             exact ⟨rF, bB⟩
           ·rw [if_neg c33] at H
            have c33b0 : (t618 == 0) = false := beq_eq_false_iff_ne.mpr c33
            have c33b1 : (t618 != 0) = true := bne_iff_ne.mpr c33
            obtain rfl := Option.some.inj H
            have p614 : 0 ≤ (x14_3 : Int) := oD
            have q614 : x14_3 < (l0.length : Int) := oD
            obtain ⟨ad614, A614_1, c614_1, A614_2, c614_2, e614, hx614_0, hx614_1, hx614_2, hl614_1, hi614_1, hl614_2, hi614_2⟩ := at_T43 HR0.out x14_3 p614 q614
            cases e614
            replace hx614_0 := (HB.out.cell (World.block_lt_of_cell? w _ hx614_0)).trans hx614_0
            replace hx614_1 := (HB.out.cell (World.block_lt_of_cell? w _ hx614_1)).trans hx614_1
            replace hx614_2 := (HB.out.cell (World.block_lt_of_cell? w _ hx614_2)).trans hx614_2
            have HR614_1 := aZ hi614_1
            have HC614_1 := aZ hl614_1
            clear hi614_1 hl614_1
            have HR614_2 := aZ hi614_2
            have HC614_2 := aZ hl614_2
            clear hi614_2 hl614_2
            replace p614 := eq_true p614
            replace q614 := eq_true q614
            try go_wp2_with (first | ((with_reducible refine gC 27 rfl ?_); refine goL (some 66) Tryd.func27 #[.agg #[.int .u8 ((rd_T43 l0 x14_3).f0), .slice A614_1 ((rd_T43 l0 x14_3).f1).length c614_1, .slice A614_2 ((rd_T43 l0 x14_3).f2).length c614_2]] ?_; (with_reducible refine (nodes_Print.calls k3 ((rd_T43 l0 x14_3).f0) _ _ ((rd_T43 l0 x14_3).f1) _ _ ((rd_T43 l0 x14_3).f2) t615 t618 _ ?side1 ?side2 ?side3 ?side4 ?side5 A31.out).mono ?_); (case side1 => exact hTU); (case side2 => exact kC (Kd.C_below HR614_1.out HB.out)); (case side3 => exact HC614_1.out); (case side4 => exact kC (Kd.C_below HR614_2.out HB.out)); (case side5 => exact HC614_2.out); rintro e w73 ⟨v616, rfl, ho0, hb⟩; refine ⟨_, rfl, ?_⟩; replace HO_600002 := aZ (Kd.N_elder' (kN HO_600002.out) (Kd.R_base ho0) hb); have HO617 := aZ (Kd.R_lower (Kd.R_new' (Kd.R_new' ho0 (Kd.R_lt (kR HO_9.out))) (Kd.R_lt (kR HO_600001.out))) (below_size bB)); replace HO_9 := aZ (Kd.R_elder' (kR HO_9.out) (Kd.R_base ho0) hb); replace HO_600001 := aZ (Kd.R_elder' (kR HO_600001.out) (Kd.R_base ho0) hb); replace BK584 := aZ (bkB BK584.out hb); replace BK599 := aZ (bkB BK599.out hb); replace HB := aZ (below_step bB hb); (try clear hb); (try clear hb2); (try clear hk); (try clear hi); (try clear ho0); obtain ⟨Ao74, co74, eo74⟩ := Kd.R_slice HO617.out; subst eo74) | ((with_reducible refine gC 23 rfl ?_); refine goL (some 71) Tryd.func23 #[.slice Ao74 t615.length co74] ?_; (with_reducible refine (nodes_Parse.calls k3 (fun k_ => some k_ = (.slice Ao74 t615.length co74 : Value).ownBlock) _ _ t615 t619 t620 t623 t626 t627 _ ?side1 ?side2 A32.out).mono ?_); (case side1 => exact hTU); (case side2 => exact Kd.R_V (Kd.R_tight rfl (Kd.R_types (Kd.R_types (Kd.R_apart' (HO617.out) (Kd.N_typed HO_600002.out) (by decide)) BK584.out (by decide)) BK599.out (by decide)))); rintro e w75 ⟨v621, v624, rfl, ho0, ho1, hb⟩; refine ⟨_, rfl, ?_⟩; have HO622 := aZ (Kd.R_lower (Kd.R_new' (Kd.R_new' (Kd.R_new' (Kd.R_mono (ok' := fun k_ => True) ho0 (fun _ hk_ => trivial)) (Kd.R_lt (kR HO_9.out))) (Kd.R_lt (kR HO_600001.out))) (Kd.R_lt (kR HO617.out))) (below_size bB)); have HO625 := aZ (Kd.N_lower (Kd.N_mono (ok' := fun k_ => some k_ ≠ (v621 : Value).ownBlock ∧ some k_ ≠ (.slice Ao18 t585.length co18 : Value).ownBlock ∧ some k_ ≠ (.slice Ao23 t591.length co23 : Value).ownBlock ∧ some k_ ≠ (.slice Ao24 t594.length co24 : Value).ownBlock ∧ k_ ≠ gb584 ∧ k_ ≠ gb599) ho1 (fun k_ hk_ => ⟨hk_.2, Or.elim hk_.1 (fun hs_ => ((Kd.R_types (Kd.R_types (Kd.R_apart' (HO617.out) (Kd.N_typed HO_600002.out) (by decide)) BK584.out (by decide)) BK599.out (by decide)).1 k_ hs_.symm).1.1.1.1.2) (fun hn_ => (Kd.fresh' (Kd.R_lt (kR HO_9.out)) k_ hn_)), Or.elim hk_.1 (fun hs_ => ((Kd.R_types (Kd.R_types (Kd.R_apart' (HO617.out) (Kd.N_typed HO_600002.out) (by decide)) BK584.out (by decide)) BK599.out (by decide)).1 k_ hs_.symm).1.1.1.2) (fun hn_ => (Kd.fresh' (Kd.R_lt (kR HO_600001.out)) k_ hn_)), Or.elim hk_.1 (fun hs_ => ((Kd.R_types (Kd.R_types (Kd.R_apart' (HO617.out) (Kd.N_typed HO_600002.out) (by decide)) BK584.out (by decide)) BK599.out (by decide)).1 k_ hs_.symm).1.1.2) (fun hn_ => (Kd.fresh' (Kd.N_lt (kN HO_600002.out)) k_ hn_)), Or.elim hk_.1 (fun hs_ => ((Kd.R_types (Kd.R_types (Kd.R_apart' (HO617.out) (Kd.N_typed HO_600002.out) (by decide)) BK584.out (by decide)) BK599.out (by decide)).1 k_ hs_.symm).1.2) (fun hn_ => (Kd.freshB (g := gb584) (o := .cells #[.int .u8 (Go.bits .or .u8 (Go.bits .and .u8 a1 31) 160), .slice none 0 0, .slice (some ad614) l0.length c0] 43 (0, 0)) (kB BK584.out) k_ hn_)), Or.elim hk_.1 (fun hs_ => ((Kd.R_types (Kd.R_types (Kd.R_apart' (HO617.out) (Kd.N_typed HO_600002.out) (by decide)) BK584.out (by decide)) BK599.out (by decide)).1 k_ hs_.symm).2) (fun hn_ => (Kd.freshB (g := gb599) (o := .cells #[.int .u8 t590, .slice Ao23 t591.length co23, .slice Ao24 t594.length co24] 43 (0, 0)) (kB BK599.out) k_ hn_))⟩)) (below_size bB)); replace HO_9 := aZ (Kd.R_elder' (kR HO_9.out) (Kd.R_base ho0) hb); replace HO_600001 := aZ (Kd.R_elder' (kR HO_600001.out) (Kd.R_base ho0) hb); replace HO_600002 := aZ (Kd.N_mono (Kd.N_told (Kd.N_told (Kd.N_old (kN HO_600002.out) hb) (Kd.R_base ho0)) (Kd.N_base ho1)) (fun _ h_ => h_.1)); replace HO617 := aZ (Kd.R_elder' (kR HO617.out) (Kd.R_base ho0) hb); replace BK584 := aZ (bkB BK584.out hb); replace BK599 := aZ (bkB BK599.out hb); replace HB := aZ (below_step bB hb); (try clear hb); (try clear hb2); (try clear hk); (try clear hi); (try clear ho0); (try clear ho1)) | ((with_reducible refine gD 17 rfl ?_); (try (refine gate_guard (by rfl) ?_; dsimp only)); refine bxE (N := 17) (cs := #[.int .u8 0, .slice none 0 0, .slice none 0 0]) (t := 43) ?_; intro gb628 hg w76 hbox hb; replace HO_9 := aZ (Kd.R_below (kR HO_9.out) hb); replace HO_600001 := aZ (Kd.R_below (kR HO_600001.out) hb); replace HO_600002 := aZ (Kd.N_below (Kd.N_elderB (kN HO_600002.out) gb628 (Nat.le_of_eq hg.symm)) hb); replace HO617 := aZ (Kd.R_below (kR HO617.out) hb); replace HO622 := aZ (Kd.R_below (kR HO622.out) hb); replace HO625 := aZ (Kd.N_below (Kd.N_elderB (kN HO625.out) gb628 (Nat.le_of_eq hg.symm)) hb); have BK628 := aZ (hbox); have GW628 := aZ (gwB hg : w.heap.size ≤ gb628); have GE628 := aZ (gwB hg : w.heap.size ≤ gb628); replace HB := aZ (below_step bB hb); have NB584_628 := aZ (nbL BK584.out hg); have NB628_584 := aZ (nbR BK584.out hg); replace BK584 := aZ (bkB BK584.out hb); have NB599_628 := aZ (nbL BK599.out hg); have NB628_599 := aZ (nbR BK599.out hg); replace BK599 := aZ (bkB BK599.out hb); clear hb hbox hg; have hnb77 := NB628_584.out; have hnc77 := NB584_628.out; have hnb78 := NB628_599.out; have hnc78 := NB599_628.out; obtain ⟨hcz79_0, hcz79_1, hcz79_2⟩ := cz3 (w := w76) BK628.out; obtain ⟨hfz79_0, hfz79_1, hfz79_2⟩ := fz3 BK628.out; obtain ⟨Ao80, co80, eo80⟩ := Kd.R_slice HO622.out; subst eo80; obtain ⟨Ao81, co81, eo81⟩ := Kd.N_slice HO625.out; subst eo81))
            have n0_ : Aside0 (Kd.R (Kd.int .u8) 5 (((w76.setCell ⟨gb628, 0, none⟩ (.int .u8 t619)).setCell ⟨gb628, 1, none⟩ (.slice Ao80 t620.length co80)).setCell ⟨gb628, 2, none⟩ (.slice Ao81 t623.length co81)) w.heap.size (fun k_ => some k_ ≠ (.slice Ao23 t591.length co23 : Value).ownBlock ∧ some k_ ≠ (.slice Ao74 t615.length co74 : Value).ownBlock ∧ some k_ ≠ (.slice Ao80 t620.length co80 : Value).ownBlock) (.slice Ao18 t585.length co18) t585) := ⟨by refine kR ?_; exact Kd.R_mono (Kd.R_far (p := ⟨gb628, 2, none⟩) (Kd.R_far (p := ⟨gb628, 1, none⟩) (Kd.R_far (p := ⟨gb628, 0, none⟩) (Kd.R_types HO_9.out BK628.out (by decide)) (fun _ hk => hk.2) (.int .u8 t619)) (fun _ hk => hk.2) (.slice Ao80 t620.length co80)) (fun _ hk => hk.2) (.slice Ao81 t623.length co81)) (fun _ hk => ⟨hk.1.1.1, ⟨hk.1.1.2, hk.1.2⟩⟩)⟩
            have n1_ : Aside0 (Kd.R (Kd.int .u8) 5 (((w76.setCell ⟨gb628, 0, none⟩ (.int .u8 t619)).setCell ⟨gb628, 1, none⟩ (.slice Ao80 t620.length co80)).setCell ⟨gb628, 2, none⟩ (.slice Ao81 t623.length co81)) w.heap.size (fun k_ => some k_ ≠ (.slice Ao18 t585.length co18 : Value).ownBlock ∧ some k_ ≠ (.slice Ao74 t615.length co74 : Value).ownBlock ∧ some k_ ≠ (.slice Ao80 t620.length co80 : Value).ownBlock) (.slice Ao23 t591.length co23) t591) := ⟨by refine kR ?_; exact Kd.R_mono (Kd.R_far (p := ⟨gb628, 2, none⟩) (Kd.R_far (p := ⟨gb628, 1, none⟩) (Kd.R_far (p := ⟨gb628, 0, none⟩) (Kd.R_types HO_600001.out BK628.out (by decide)) (fun _ hk => hk.2) (.int .u8 t619)) (fun _ hk => hk.2) (.slice Ao80 t620.length co80)) (fun _ hk => hk.2) (.slice Ao81 t623.length co81)) (fun _ hk => ⟨hk.1.1.1, ⟨hk.1.1.2, hk.1.2⟩⟩)⟩
            have n2_ : Aside0 (Kd.N k43 43 (((w76.setCell ⟨gb628, 0, none⟩ (.int .u8 t619)).setCell ⟨gb628, 1, none⟩ (.slice Ao80 t620.length co80)).setCell ⟨gb628, 2, none⟩ (.slice Ao81 t623.length co81)) w.heap.size (fun k_ => some k_ ≠ (.slice Ao23 t591.length co23 : Value).ownBlock ∧ some k_ ≠ (.slice Ao74 t615.length co74 : Value).ownBlock ∧ some k_ ≠ (.slice Ao80 t620.length co80 : Value).ownBlock ∧ some k_ ≠ (.slice Ao81 t623.length co81 : Value).ownBlock ∧ k_ ≠ gb584 ∧ k_ ≠ gb599 ∧ k_ ≠ gb628) (.slice Ao24 t594.length co24) t594) := ⟨by refine kN ?_; exact Kd.N_mono (Kd.N_far (p := ⟨gb628, 2, none⟩) (Kd.N_far (p := ⟨gb628, 1, none⟩) (Kd.N_far (p := ⟨gb628, 0, none⟩) (Kd.N_mono HO_600002.out (fun k_ hk => (⟨hk, hk.2⟩ : _ ∧ k_ ≠ gb628))) (fun _ hk => hk.2) (.int .u8 t619)) (fun _ hk => hk.2) (.slice Ao80 t620.length co80)) (fun _ hk => hk.2) (.slice Ao81 t623.length co81)) (fun _ hk => ⟨hk.1.1.1.1.1.1, ⟨hk.1.1.1.1.2, ⟨hk.1.1.1.2, ⟨hk.1.1.2, ⟨hk.1.1.1.1.1.2.1, ⟨hk.1.1.1.1.1.2.2, hk.1.2⟩⟩⟩⟩⟩⟩)⟩
            have n3_ : Aside0 (Kd.R (Kd.int .u8) 5 (((w76.setCell ⟨gb628, 0, none⟩ (.int .u8 t619)).setCell ⟨gb628, 1, none⟩ (.slice Ao80 t620.length co80)).setCell ⟨gb628, 2, none⟩ (.slice Ao81 t623.length co81)) w.heap.size (fun k_ => some k_ ≠ (.slice Ao18 t585.length co18 : Value).ownBlock ∧ some k_ ≠ (.slice Ao23 t591.length co23 : Value).ownBlock ∧ some k_ ≠ (.slice Ao80 t620.length co80 : Value).ownBlock) (.slice Ao74 t615.length co74) t615) := ⟨by refine kR ?_; exact Kd.R_mono (Kd.R_far (p := ⟨gb628, 2, none⟩) (Kd.R_far (p := ⟨gb628, 1, none⟩) (Kd.R_far (p := ⟨gb628, 0, none⟩) (Kd.R_types HO617.out BK628.out (by decide)) (fun _ hk => hk.2) (.int .u8 t619)) (fun _ hk => hk.2) (.slice Ao80 t620.length co80)) (fun _ hk => hk.2) (.slice Ao81 t623.length co81)) (fun _ hk => ⟨hk.1.1.1.2, ⟨hk.1.1.2, hk.1.2⟩⟩)⟩
            have n4_ : Aside0 (Kd.R (Kd.int .u8) 5 (((w76.setCell ⟨gb628, 0, none⟩ (.int .u8 t619)).setCell ⟨gb628, 1, none⟩ (.slice Ao80 t620.length co80)).setCell ⟨gb628, 2, none⟩ (.slice Ao81 t623.length co81)) w.heap.size (fun k_ => some k_ ≠ (.slice Ao18 t585.length co18 : Value).ownBlock ∧ some k_ ≠ (.slice Ao23 t591.length co23 : Value).ownBlock ∧ some k_ ≠ (.slice Ao74 t615.length co74 : Value).ownBlock) (.slice Ao80 t620.length co80) t620) := ⟨by refine kR ?_; exact Kd.R_mono (Kd.R_far (p := ⟨gb628, 2, none⟩) (Kd.R_far (p := ⟨gb628, 1, none⟩) (Kd.R_far (p := ⟨gb628, 0, none⟩) (Kd.R_types HO622.out BK628.out (by decide)) (fun _ hk => hk.2) (.int .u8 t619)) (fun _ hk => hk.2) (.slice Ao80 t620.length co80)) (fun _ hk => hk.2) (.slice Ao81 t623.length co81)) (fun _ hk => ⟨hk.1.1.1.2, ⟨hk.1.1.2, hk.1.2⟩⟩)⟩
            have n5_ : Aside0 (Kd.N k43 43 (((w76.setCell ⟨gb628, 0, none⟩ (.int .u8 t619)).setCell ⟨gb628, 1, none⟩ (.slice Ao80 t620.length co80)).setCell ⟨gb628, 2, none⟩ (.slice Ao81 t623.length co81)) w.heap.size (fun k_ => some k_ ≠ (.slice Ao18 t585.length co18 : Value).ownBlock ∧ some k_ ≠ (.slice Ao23 t591.length co23 : Value).ownBlock ∧ some k_ ≠ (.slice Ao24 t594.length co24 : Value).ownBlock ∧ some k_ ≠ (.slice Ao80 t620.length co80 : Value).ownBlock ∧ k_ ≠ gb584 ∧ k_ ≠ gb599 ∧ k_ ≠ gb628) (.slice Ao81 t623.length co81) t623) := ⟨by refine kN ?_; exact Kd.N_mono (Kd.N_far (p := ⟨gb628, 2, none⟩) (Kd.N_far (p := ⟨gb628, 1, none⟩) (Kd.N_far (p := ⟨gb628, 0, none⟩) (Kd.N_mono HO625.out (fun k_ hk => (⟨hk, hk.2⟩ : _ ∧ k_ ≠ gb628))) (fun _ hk => hk.2) (.int .u8 t619)) (fun _ hk => hk.2) (.slice Ao80 t620.length co80)) (fun _ hk => hk.2) (.slice Ao81 t623.length co81)) (fun _ hk => ⟨hk.1.1.2.1, ⟨hk.1.1.2.2.1, ⟨hk.1.1.2.2.2.1, ⟨hk.1.1.1, ⟨hk.1.1.2.2.2.2.1, ⟨hk.1.1.2.2.2.2.2, hk.1.2⟩⟩⟩⟩⟩⟩)⟩
            have n6_ : Aside0 ((((w76.setCell ⟨gb628, 0, none⟩ (.int .u8 t619)).setCell ⟨gb628, 1, none⟩ (.slice Ao80 t620.length co80)).setCell ⟨gb628, 2, none⟩ (.slice Ao81 t623.length co81)).heap[gb584]? = some (.cells #[.int .u8 (Go.bits .or .u8 (Go.bits .and .u8 a1 31) 160), .slice none 0 0, .slice (some ad614) l0.length c0] 43 (0, 0))) := ⟨by refine kB ?_; refine blk_far ?_ NB584_628.out _; refine kB ?_; refine blk_far ?_ NB584_628.out _; refine kB ?_; refine blk_far ?_ NB584_628.out _; refine kB ?_; exact BK584.out⟩
            have n7_ : Aside0 ((((w76.setCell ⟨gb628, 0, none⟩ (.int .u8 t619)).setCell ⟨gb628, 1, none⟩ (.slice Ao80 t620.length co80)).setCell ⟨gb628, 2, none⟩ (.slice Ao81 t623.length co81)).heap[gb599]? = some (.cells #[.int .u8 t590, .slice Ao23 t591.length co23, .slice Ao24 t594.length co24] 43 (0, 0))) := ⟨by refine kB ?_; refine blk_far ?_ NB599_628.out _; refine kB ?_; refine blk_far ?_ NB599_628.out _; refine kB ?_; refine blk_far ?_ NB599_628.out _; refine kB ?_; exact BK599.out⟩
            have n8_ : Aside0 ((((w76.setCell ⟨gb628, 0, none⟩ (.int .u8 t619)).setCell ⟨gb628, 1, none⟩ (.slice Ao80 t620.length co80)).setCell ⟨gb628, 2, none⟩ (.slice Ao81 t623.length co81)).heap[gb628]? = some (.cells #[.int .u8 t619, .slice Ao80 t620.length co80, .slice Ao81 t623.length co81] 43 (0, 0))) := ⟨by refine kB ?_; refine blk_put (cs := #[.int .u8 t619, .slice Ao80 t620.length co80, .slice none 0 0]) ?_ 2 _ rfl; refine kB ?_; refine blk_put (cs := #[.int .u8 t619, .slice none 0 0, .slice none 0 0]) ?_ 1 _ rfl; refine kB ?_; refine blk_put (cs := #[.int .u8 0, .slice none 0 0, .slice none 0 0]) ?_ 0 _ rfl; refine kB ?_; exact BK628.out⟩
            have n9_ : Aside0 (Below w.heap.size w (((w76.setCell ⟨gb628, 0, none⟩ (.int .u8 t619)).setCell ⟨gb628, 1, none⟩ (.slice Ao80 t620.length co80)).setCell ⟨gb628, 2, none⟩ (.slice Ao81 t623.length co81))) := ⟨bB⟩
            (try clear HO_9)
            (try clear HO_600001)
            (try clear HO_600002)
            (try clear HO617)
            (try clear HO622)
            (try clear HO625)
            (try clear BK584)
            (try clear BK599)
            (try clear BK628)
            (try clear HB)
            generalize (((w76.setCell ⟨gb628, 0, none⟩ (.int .u8 t619)).setCell ⟨gb628, 1, none⟩ (.slice Ao80 t620.length co80)).setCell ⟨gb628, 2, none⟩ (.slice Ao81 t623.length co81)) = w82 at n0_ n1_ n2_ n3_ n4_ n5_ n6_ n7_ n8_ n9_ ⊢
            have HO_9 := n0_
            have HO_600001 := n1_
            have HO_600002 := n2_
            have HO617 := n3_
            have HO622 := n4_
            have HO625 := n5_
            have BK584 := n6_
            have BK599 := n7_
            have BK628 := n8_
            have HB := n9_
            clear n0_ n1_ n2_ n3_ n4_ n5_ n6_ n7_ n8_ n9_
            replace HO_9 := aZ (Kd.R_drew HO_9.out)
            replace HO_600001 := aZ (Kd.R_drew HO_600001.out)
            replace HO_600002 := aZ (Kd.N_drew HO_600002.out)
            replace HO617 := aZ (Kd.R_drew HO617.out)
            replace HO622 := aZ (Kd.R_drew HO622.out)
            replace HO625 := aZ (Kd.N_drew HO625.out)
            replace BK584 := aZ (blk_drew BK584.out)
            replace BK599 := aZ (blk_drew BK599.out)
            replace BK628 := aZ (blk_drew BK628.out)
            replace HB := aZ (below_drew1 HB.out)
            refine start_ (n := 16) (S := fun w' => True) (ds := []) #[false, false, false, false, false, false, false, false, false, false, false, false, false, false, false, false] (by kernel_rfl) rfl rfl trivial (fun hHeld => ?_); refine with_tabW warderlaw04_NodesInner.tab14 warderlaw04_NodesInner.bits14 (fun HT_ HW_ => ?_)
            generalize w82.drew = w83 at HO_9 HO_600001 HO_600002 HO617 HO622 HO625 BK584 BK599 BK628 HB hHeld ⊢
            refine pure_ (i := 0) (N := some 75) (v := ?_) (a' := ?_) #[true, false, false, false, false, false, false, false, false, false, false, false, false, false, false, false] rfl rfl (any_of HT_.out (by kernel_rfl)) (fun _ _ _ h => h) (Or.inl ⟨by rfl, ?_⟩) ?_ ?_
            rotate_left
            ·intro w'
             go_simp
             with_reducible rfl
            rotate_left
            ·simp only [Act.put, List.setIfInBounds_toArray, List.set_cons_zero, List.set_cons_succ, i64_w, i32_w]
             rfl
            refine pure_ (i := 1) (N := some 76) (v := ?_) (a' := ?_) #[true, true, false, false, false, false, false, false, false, false, false, false, false, false, false, false] rfl rfl (any_of HT_.out (by kernel_rfl)) (fun _ _ _ h => h) (Or.inl ⟨by rfl, ?_⟩) ?_ ?_
            rotate_left
            ·intro w'
             go_simp
             with_reducible rfl
            rotate_left
            ·simp only [Act.put, List.setIfInBounds_toArray, List.set_cons_zero, List.set_cons_succ, i64_w, i32_w]
             rfl
            refine pure_ (i := 2) (N := some 77) (v := ?_) (a' := ?_) #[true, true, true, false, false, false, false, false, false, false, false, false, false, false, false, false] rfl rfl (any_of HT_.out (by kernel_rfl)) (fun _ _ _ h => h) (Or.inl ⟨by rfl, ?_⟩) ?_ ?_
            rotate_left
            ·intro w'
             go_simp
             with_reducible rfl
            rotate_left
            ·simp only [Act.put, List.setIfInBounds_toArray, List.set_cons_zero, List.set_cons_succ, i64_w, i32_w]
             rfl
            refine pure_ (i := 3) (N := some 78) (v := undef) (a' := ?_) #[true, true, true, true, false, false, false, false, false, false, false, false, false, false, false, false] rfl rfl (any_of HT_.out (by kernel_rfl)) (fun _ _ _ h => h) (Or.inr ⟨by rfl, rfl⟩) ?_ ?_
            rotate_left
            ·simp only [Act.put, List.setIfInBounds_toArray, List.set_cons_zero, List.set_cons_succ, i64_w, i32_w]
             rfl
            refine pure_ (i := 4) (N := some 79) (v := undef) (a' := ?_) #[true, true, true, true, true, false, false, false, false, false, false, false, false, false, false, false] rfl rfl (any_of HT_.out (by kernel_rfl)) (fun _ _ _ h => h) (Or.inr ⟨by rfl, rfl⟩) ?_ ?_
            rotate_left
            ·simp only [Act.put, List.setIfInBounds_toArray, List.set_cons_zero, List.set_cons_succ, i64_w, i32_w]
             rfl
            refine pure_ (i := 5) (N := some 80) (v := ?_) (a' := ?_) #[true, true, true, true, true, true, false, false, false, false, false, false, false, false, false, false] rfl rfl (any_of HT_.out (by kernel_rfl)) (fun _ _ _ h => h) (Or.inl ⟨by rfl, ?_⟩) ?_ ?_
            rotate_left
            ·intro w'
             go_simp
             with_reducible rfl
            rotate_left
            ·simp only [Act.put, List.setIfInBounds_toArray, List.set_cons_zero, List.set_cons_succ, i64_w, i32_w]
             rfl
            refine pure_ (i := 6) (N := some 81) (v := ?_) (a' := ?_) #[true, true, true, true, true, true, true, false, false, false, false, false, false, false, false, false] rfl rfl (any_of HT_.out (by kernel_rfl)) (fun _ _ _ h => h) (Or.inl ⟨by rfl, ?_⟩) ?_ ?_
            rotate_left
            ·intro w'
             go_simp
             with_reducible rfl
            rotate_left
            ·simp only [Act.put, List.setIfInBounds_toArray, List.set_cons_zero, List.set_cons_succ, i64_w, i32_w]
             rfl
            refine pure_ (i := 7) (N := some 82) (v := undef) (a' := ?_) #[true, true, true, true, true, true, true, true, false, false, false, false, false, false, false, false] rfl rfl (any_of HT_.out (by kernel_rfl)) (fun _ _ _ h => h) (Or.inr ⟨by rfl, rfl⟩) ?_ ?_
            rotate_left
            ·simp only [Act.put, List.setIfInBounds_toArray, List.set_cons_zero, List.set_cons_succ, i64_w, i32_w]
             rfl
            refine pure_ (i := 8) (N := some 83) (v := undef) (a' := ?_) #[true, true, true, true, true, true, true, true, true, false, false, false, false, false, false, false] rfl rfl (any_of HT_.out (by kernel_rfl)) (fun _ _ _ h => h) (Or.inr ⟨by rfl, rfl⟩) ?_ ?_
            rotate_left
            ·simp only [Act.put, List.setIfInBounds_toArray, List.set_cons_zero, List.set_cons_succ, i64_w, i32_w]
             rfl
            refine pure_ (i := 9) (N := some 84) (v := undef) (a' := ?_) #[true, true, true, true, true, true, true, true, true, true, false, false, false, false, false, false] rfl rfl (any_of HT_.out (by kernel_rfl)) (fun _ _ _ h => h) (Or.inr ⟨by rfl, rfl⟩) ?_ ?_
            rotate_left
            ·simp only [Act.put, List.setIfInBounds_toArray, List.set_cons_zero, List.set_cons_succ, i64_w, i32_w]
             rfl
            refine pure_ (i := 10) (N := some 85) (v := undef) (a' := ?_) #[true, true, true, true, true, true, true, true, true, true, true, false, false, false, false, false] rfl rfl (any_of HT_.out (by kernel_rfl)) (fun _ _ _ h => h) (Or.inr ⟨by rfl, rfl⟩) ?_ ?_
            rotate_left
            ·simp only [Act.put, List.setIfInBounds_toArray, List.set_cons_zero, List.set_cons_succ, i64_w, i32_w]
             rfl
            refine pure_ (i := 11) (N := some 86) (v := undef) (a' := ?_) #[true, true, true, true, true, true, true, true, true, true, true, true, false, false, false, false] rfl rfl (any_of HT_.out (by kernel_rfl)) (fun _ _ _ h => h) (Or.inr ⟨by rfl, rfl⟩) ?_ ?_
            rotate_left
            ·simp only [Act.put, List.setIfInBounds_toArray, List.set_cons_zero, List.set_cons_succ, i64_w, i32_w]
             rfl
            refine pure_ (i := 12) (N := some 87) (v := undef) (a' := ?_) #[true, true, true, true, true, true, true, true, true, true, true, true, true, false, false, false] rfl rfl (any_of HT_.out (by kernel_rfl)) (fun _ _ _ h => h) (Or.inr ⟨by rfl, rfl⟩) ?_ ?_
            rotate_left
            ·simp only [Act.put, List.setIfInBounds_toArray, List.set_cons_zero, List.set_cons_succ, i64_w, i32_w]
             rfl
            refine pure_ (i := 13) (N := some 88) (v := undef) (a' := ?_) #[true, true, true, true, true, true, true, true, true, true, true, true, true, true, false, false] rfl rfl (any_of HT_.out (by kernel_rfl)) (fun _ _ _ h => h) (Or.inr ⟨by rfl, rfl⟩) ?_ ?_
            rotate_left
            ·simp only [Act.put, List.setIfInBounds_toArray, List.set_cons_zero, List.set_cons_succ, i64_w, i32_w]
             rfl
            refine pure_ (i := 14) (N := some 89) (v := undef) (a' := ?_) #[true, true, true, true, true, true, true, true, true, true, true, true, true, true, true, false] rfl rfl (any_of HT_.out (by kernel_rfl)) (fun _ _ _ h => h) (Or.inr ⟨by rfl, rfl⟩) ?_ ?_
            rotate_left
            ·simp only [Act.put, List.setIfInBounds_toArray, List.set_cons_zero, List.set_cons_succ, i64_w, i32_w]
             rfl
            refine pure_ (i := 15) (N := some 90) (v := ?_) (a' := ?_) #[true, true, true, true, true, true, true, true, true, true, true, true, true, true, true, true] rfl rfl (any_of HT_.out (by kernel_rfl)) (fun _ _ _ h => h) (Or.inl ⟨by rfl, ?_⟩) ?_ ?_
            rotate_left
            ·intro w'
             go_simp
             with_reducible rfl
            rotate_left
            ·simp only [Act.put, List.setIfInBounds_toArray, List.set_cons_zero, List.set_cons_succ, i64_w, i32_w]
             rfl
            refine done_ (done_of HT_.out (by kernel_rfl)) ?_
            try go_wp2
            go_ret
            exact ⟨rF, bB⟩
          ·rw [if_neg c30] at H
           exact absurd H (by simp)
         ·rw [if_neg c29] at H
          have c29b0 : decide (x14_3 < (l0.length : Int)) = false := decide_eq_false c29
          clear c29
          by_cases c84 : (((t585.length : Int)) % 4294967296) = 0
          ·rw [if_pos c84] at H
           exact absurd H (by simp)
          ·rw [if_neg c84] at H
           have c84b0 : ((((t585.length : Int)) % 4294967296) == 0) = false := beq_eq_false_iff_ne.mpr c84
           have c84b1 : ((((t585.length : Int)) % 4294967296) != 0) = true := bne_iff_ne.mpr c84
           obtain ⟨ji85, hji85⟩ : ∃ j_ : Int, (wrap64 (Int.tmod a2 (((t585.length : Int)) % 4294967296))) = j_ := ⟨_, rfl⟩
           replace H : (if 0 ≤ (ji85) then (if (ji85) ≤ (t585.length : Int) then ((nodes_Parse.f k3 (t585.take ((ji85) : Int).toNat)).bind fun bt605 => (if t583 = true then (some (bt605.2.2.2.2 != 0)) else (some false))) else (none)) else (none)) = some r := by first | (rw [hji85] at H; exact H) | (simp only [hji85] at H ⊢; exact H)
           have hji85w : (IntKind.i64.wrap (Int.tmod a2 (((t585.length : Int)) % 4294967296))) = ji85 := (i64_w _).trans hji85
           by_cases c86 : 0 ≤ (ji85)
           ·rw [if_pos c86] at H
            have c86b0 := eq_true c86
            have c86b1 : decide (0 ≤ (ji85)) = true := decide_eq_true c86
            clear c86
            by_cases c87 : (ji85) ≤ (t585.length : Int)
            ·rw [if_pos c87] at H
             have c87b0 := eq_true c87
             have c87b1 : decide ((ji85) ≤ (t585.length : Int)) = true := decide_eq_true c87
             clear c87
             obtain ⟨y600, hy600⟩ : ∃ y_ : List Int, y_ = (t585.take ((ji85) : Int).toNat) := ⟨_, rfl⟩
             replace H : ((nodes_Parse.f k3 y600).bind fun bt605 => (if t583 = true then (some (bt605.2.2.2.2 != 0)) else (some false))) = some r := by first | (rw [hy600]; with_reducible exact H) | (have H2_ := (Option.bind_some _ _).symm.trans H; rw [hy600]; with_reducible exact H2_) | (have H2_ := (Option.bind_some _ _).symm.trans H; with_reducible exact H2_) | with_reducible exact H | (rw [hy600]; exact H) | exact H
             have Ny600 := aZ hy600
             clear hy600
             replace H := Option.bind_eq_some_iff.mp H
             obtain ⟨⟨t605, t606, t609, t612, t613⟩, A880, H⟩ := H
             try dsimp only at H
             have A88 := aZ A880
             clear A880
             by_cases c89 : t583 = true
             ·subst c89
              rw [if_pos rfl] at H
              obtain rfl := Option.some.inj H
              have q90 : ((ji85) : Int) ≤ ((t585.length : Int) : Int) := oD
              obtain ⟨i090, hi090, _, hsz90, _⟩ := info_parts info5
              have hroom90 : t585.length ≤ co18 := (Kd.R_reads' HO_9.out).2.1
              have hC90 : Kd.F (Kd.int .u8) _ _ Ao18 t585.length t585 := (Kd.V_at (base := w.heap.size) (Kd.R_V (Kd.R_types (Kd.R_types (Kd.R_apart' (HO_9.out) (Kd.N_typed HO_600002.out) (by decide)) BK584.out (by decide)) BK599.out (by decide)))).2.2
              have hcut90 := cut_to (P := Tryd.prog) 24 5 .i64 Tryd.underlying24 hi090 Ao18 t585.length co18 (ji85) (oD) q90 hroom90
              have hr90 := Kd.F_take (m := ((ji85) : Int).toNat) hC90 (by omega)
              have hy90 : y600.length = ((ji85) : Int).toNat := (by rw [Ny600.out, List.length_take]; omega)
              rw [← Ny600.out] at hr90
              rw [← hy90] at hcut90
              have HO604 := aZ (show Kd.V (Kd.int .u8) 5 _ w.heap.size _ (.slice Ao18 y600.length co18) y600 from Kd.V_mk (by omega) hr90)
              have HC604 := aZ (show y600.length ≤ co18 from by omega)
              clear hr90 hC90 hroom90 hi090 hsz90
              have KY90 := aZ hy90
              clear hy90
              replace q90 := eq_true q90
              go_wp2_with (first | ((with_reducible refine gC 23 rfl ?_); refine goL (some 100) Tryd.func23 #[.slice Ao18 y600.length co18] ?_; (with_reducible refine (nodes_Parse.calls k3 (fun k_ => (((some k_ ≠ (.slice Ao23 t591.length co23 : Value).ownBlock ∧ some k_ ≠ (.slice Ao24 t594.length co24 : Value).ownBlock) ∧ k_ ≠ gb584) ∧ k_ ≠ gb599)) _ _ y600 t605 t606 t609 t612 t613 _ ?side1 ?side2 A88.out).mono ?_); (case side1 => exact hTU); (case side2 => exact HO604.out); rintro e w91 ⟨v607, v610, rfl, ho0, ho1, hb⟩; refine ⟨_, rfl, ?_⟩; replace HO604 := aZ (Kd.V_mono (Kd.V_told (Kd.V_told (Kd.V_old (kV HO604.out) hb) (Kd.R_base ho0)) (Kd.N_base ho1)) (fun _ h_ => h_.1)); have HO608 := aZ (Kd.R_lower (Kd.R_new' (Kd.R_new' (Kd.R_mono (ok' := fun k_ => True) ho0 (fun _ hk_ => trivial)) (Kd.R_lt (kR HO_9.out))) (Kd.R_lt (kR HO_600001.out))) (below_size bB)); replace HO_9 := aZ (Kd.R_elder' (kR HO_9.out) (Kd.R_base ho0) hb); have HO611 := aZ (Kd.N_lower (Kd.N_mono (ok' := fun k_ => some k_ ≠ (v607 : Value).ownBlock ∧ some k_ ≠ (.slice Ao23 t591.length co23 : Value).ownBlock ∧ some k_ ≠ (.slice Ao24 t594.length co24 : Value).ownBlock ∧ k_ ≠ gb584 ∧ k_ ≠ gb599) ho1 (fun k_ hk_ => ⟨hk_.2, Or.elim hk_.1 (fun hs_ => hs_.1.1.1) (fun hn_ => (Kd.fresh' (Kd.R_lt (kR HO_600001.out)) k_ hn_)), Or.elim hk_.1 (fun hs_ => hs_.1.1.2) (fun hn_ => (Kd.fresh' (Kd.N_lt (kN HO_600002.out)) k_ hn_)), Or.elim hk_.1 (fun hs_ => hs_.1.2) (fun hn_ => (Kd.freshB (g := gb584) (o := .cells #[.int .u8 (Go.bits .or .u8 (Go.bits .and .u8 a1 31) 160), .slice none 0 0, .slice A0 l0.length c0] 43 (0, 0)) (kB BK584.out) k_ hn_)), Or.elim hk_.1 (fun hs_ => hs_.2) (fun hn_ => (Kd.freshB (g := gb599) (o := .cells #[.int .u8 t590, .slice Ao23 t591.length co23, .slice Ao24 t594.length co24] 43 (0, 0)) (kB BK599.out) k_ hn_))⟩)) (below_size bB)); replace HO_600001 := aZ (Kd.R_elder' (kR HO_600001.out) (Kd.R_base ho0) hb); replace HO_600002 := aZ (Kd.N_mono (Kd.N_told (Kd.N_told (Kd.N_old (kN HO_600002.out) hb) (Kd.R_base ho0)) (Kd.N_base ho1)) (fun _ h_ => h_.1)); replace BK584 := aZ (bkB BK584.out hb); replace BK599 := aZ (bkB BK599.out hb); replace HB := aZ (below_step bB hb); (try clear hb); (try clear hb2); (try clear hk); (try clear hi); (try clear ho0); (try clear ho1)))
              go_ret
              exact ⟨by first | rfl | (simp [errW_none, errW_some] <;> rfl) | (simp only [← hji85]; first | rfl | (simp [errW_none, errW_some] <;> rfl)) | (simp [*, errW_none, errW_some] <;> rfl), bB⟩
             ·replace c89 := Bool.eq_false_iff.mpr c89
              subst c89
              rw [if_neg (show ¬ (false = true) by decide)] at H
              obtain rfl := Option.some.inj H
              have q92 : ((ji85) : Int) ≤ ((t585.length : Int) : Int) := oD
              obtain ⟨i092, hi092, _, hsz92, _⟩ := info_parts info5
              have hroom92 : t585.length ≤ co18 := (Kd.R_reads' HO_9.out).2.1
              have hC92 : Kd.F (Kd.int .u8) _ _ Ao18 t585.length t585 := (Kd.V_at (base := w.heap.size) (Kd.R_V (Kd.R_types (Kd.R_types (Kd.R_apart' (HO_9.out) (Kd.N_typed HO_600002.out) (by decide)) BK584.out (by decide)) BK599.out (by decide)))).2.2
              have hcut92 := cut_to (P := Tryd.prog) 24 5 .i64 Tryd.underlying24 hi092 Ao18 t585.length co18 (ji85) (oD) q92 hroom92
              have hr92 := Kd.F_take (m := ((ji85) : Int).toNat) hC92 (by omega)
              have hy92 : y600.length = ((ji85) : Int).toNat := (by rw [Ny600.out, List.length_take]; omega)
              rw [← Ny600.out] at hr92
              rw [← hy92] at hcut92
              have HO604 := aZ (show Kd.V (Kd.int .u8) 5 _ w.heap.size _ (.slice Ao18 y600.length co18) y600 from Kd.V_mk (by omega) hr92)
              have HC604 := aZ (show y600.length ≤ co18 from by omega)
              clear hr92 hC92 hroom92 hi092 hsz92
              have KY92 := aZ hy92
              clear hy92
              replace q92 := eq_true q92
              go_wp2_with (first | ((with_reducible refine gC 23 rfl ?_); refine goL (some 100) Tryd.func23 #[.slice Ao18 y600.length co18] ?_; (with_reducible refine (nodes_Parse.calls k3 (fun k_ => (((some k_ ≠ (.slice Ao23 t591.length co23 : Value).ownBlock ∧ some k_ ≠ (.slice Ao24 t594.length co24 : Value).ownBlock) ∧ k_ ≠ gb584) ∧ k_ ≠ gb599)) _ _ y600 t605 t606 t609 t612 t613 _ ?side1 ?side2 A88.out).mono ?_); (case side1 => exact hTU); (case side2 => exact HO604.out); rintro e w93 ⟨v607, v610, rfl, ho0, ho1, hb⟩; refine ⟨_, rfl, ?_⟩; replace HO604 := aZ (Kd.V_mono (Kd.V_told (Kd.V_told (Kd.V_old (kV HO604.out) hb) (Kd.R_base ho0)) (Kd.N_base ho1)) (fun _ h_ => h_.1)); have HO608 := aZ (Kd.R_lower (Kd.R_new' (Kd.R_new' (Kd.R_mono (ok' := fun k_ => True) ho0 (fun _ hk_ => trivial)) (Kd.R_lt (kR HO_9.out))) (Kd.R_lt (kR HO_600001.out))) (below_size bB)); replace HO_9 := aZ (Kd.R_elder' (kR HO_9.out) (Kd.R_base ho0) hb); have HO611 := aZ (Kd.N_lower (Kd.N_mono (ok' := fun k_ => some k_ ≠ (v607 : Value).ownBlock ∧ some k_ ≠ (.slice Ao23 t591.length co23 : Value).ownBlock ∧ some k_ ≠ (.slice Ao24 t594.length co24 : Value).ownBlock ∧ k_ ≠ gb584 ∧ k_ ≠ gb599) ho1 (fun k_ hk_ => ⟨hk_.2, Or.elim hk_.1 (fun hs_ => hs_.1.1.1) (fun hn_ => (Kd.fresh' (Kd.R_lt (kR HO_600001.out)) k_ hn_)), Or.elim hk_.1 (fun hs_ => hs_.1.1.2) (fun hn_ => (Kd.fresh' (Kd.N_lt (kN HO_600002.out)) k_ hn_)), Or.elim hk_.1 (fun hs_ => hs_.1.2) (fun hn_ => (Kd.freshB (g := gb584) (o := .cells #[.int .u8 (Go.bits .or .u8 (Go.bits .and .u8 a1 31) 160), .slice none 0 0, .slice A0 l0.length c0] 43 (0, 0)) (kB BK584.out) k_ hn_)), Or.elim hk_.1 (fun hs_ => hs_.2) (fun hn_ => (Kd.freshB (g := gb599) (o := .cells #[.int .u8 t590, .slice Ao23 t591.length co23, .slice Ao24 t594.length co24] 43 (0, 0)) (kB BK599.out) k_ hn_))⟩)) (below_size bB)); replace HO_600001 := aZ (Kd.R_elder' (kR HO_600001.out) (Kd.R_base ho0) hb); replace HO_600002 := aZ (Kd.N_mono (Kd.N_told (Kd.N_told (Kd.N_old (kN HO_600002.out) hb) (Kd.R_base ho0)) (Kd.N_base ho1)) (fun _ h_ => h_.1)); replace BK584 := aZ (bkB BK584.out hb); replace BK599 := aZ (bkB BK599.out hb); replace HB := aZ (below_step bB hb); (try clear hb); (try clear hb2); (try clear hk); (try clear hi); (try clear ho0); (try clear ho1)))
              go_ret
              exact ⟨by first | rfl | (simp [errW_none, errW_some] <;> rfl) | (simp only [← hji85]; first | rfl | (simp [errW_none, errW_some] <;> rfl)) | (simp [*, errW_none, errW_some] <;> rfl), bB⟩
            ·rw [if_neg c87] at H
             exact absurd H (by simp)
           ·rw [if_neg c86] at H
            exact absurd H (by simp)
end Go.Proofs.YtkceebgncfggjaaDoor.PQ

