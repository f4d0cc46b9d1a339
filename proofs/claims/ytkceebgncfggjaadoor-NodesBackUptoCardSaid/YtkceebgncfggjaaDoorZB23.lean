/- LawNodesBack: texts of this claim, laid one behind the other by a program of this session's (wip/bundle.py): words, printed functions and plain laws that its theorem uses. No condition beside those in each theorem's own line. -/
import Derived.Test.YtkceebgncfggjaaDoorZB1
import Derived.Test.YtkceebgncfggjaaDoorZB16
import Derived.Test.YtkceebgncfggjaaDoorZB2
import Derived.Test.YtkceebgncfggjaaDoorZB3
import Derived.Test.YtkceebgncfggjaaDoorZB4
import Derived.Test.YtkceebgncfggjaaDoorZB5
import Derived.Test.YtkceebgncfggjaaDoorZB6
set_option linter.unusedVariables false
set_option linter.unusedSimpArgs false
namespace Go.Proofs.YtkceebgncfggjaaDoor.PQ
open Go.RowKit Go.Proofs.YtkceebgncfggjaaDoorW.PrintWords Go.Proofs.YtkceebgncfggjaaDoorW.PrintLast Go.Proofs.YtkceebgncfggjaaDoorW.PrintMore Go.Proofs.YtkceebgncfggjaaDoorX
set_option maxHeartbeats 8000000
set_option maxRecDepth 100000
attribute [local go_sem] max2_int min2_int max_two min_two
mutual
def slices_Concat_byte_byte.l0 : Nat → List (List Int) → Int → List (List Int) → Int → Int → Option (List Int)
 | 0, _, _, _, _, _ => none
 | k + 1, x0, x3, x9, x10, x11 => if x11 < x10 then (if 0 ≤ x11 then (if x11 < (x9.length : Int) then (if (wrap64 (x3 + ((rd_L2 x9 x11).length : Int))) < 0 then (none) else (slices_Concat_byte_byte.l0 k x0 (wrap64 (x3 + ((rd_L2 x9 x11).length : Int))) x9 x10 (wrap64 (x11 + 1)))) else (none)) else (none)) else ((slices_Grow_byte_byte.f ([] : List Int) x3).bind fun t518 => (slices_Concat_byte_byte.l1 k t518 x0 (x0.length : Int) 0))
def slices_Concat_byte_byte.l1 : Nat → List Int → List (List Int) → Int → Int → Option (List Int)
 | 0, _, _, _, _ => none
 | k + 1, x6, x25, x26, x27 => if x27 < x26 then (if 0 ≤ x27 then (if x27 < (x25.length : Int) then (if x6.length + (rd_L2 x25 x27).length < 140737488355328 then (slices_Concat_byte_byte.l1 k (x6 ++ (rd_L2 x25 x27)) x25 x26 (wrap64 (x27 + 1))) else (none)) else (none)) else (none)) else (some x6)
end
def slices_Concat_byte_byte.f (k : Nat) (l0 : List (List Int)) : Option (List Int) := slices_Concat_byte_byte.l0 k l0 0 l0 (l0.length : Int) 0
theorem slices_Concat_byte_byte.calls (k : Nat) (A0 : Option Addr) (c0 : Nat) (l0 : List (List Int)) (r : List Int) (w : World) (hr0 : Kd.C (Kd.slice 5 (Kd.int .u8)) w A0 l0.length l0) (hc0 : l0.length ≤ c0) (h : slices_Concat_byte_byte.f k l0 = some r) :
  Calls Tryd.prog 62 #[.slice A0 l0.length c0] w fun e w' => ∃ v0_ : Value, e = .returned (v0_) ∧ Kd.R (Kd.int .u8) 5 w' w.heap.size (fun _ => True) v0_ r ∧ Below w.heap.size w w' := by
 have HR0 := aZ hr0
 have HC0 := aZ hc0
 clear hr0 hc0
 have HB := aZ (Below.refl w.heap.size w)
 have H : (slices_Concat_byte_byte.l0 k l0 0 l0 (l0.length : Int) 0) = some r := h
 clear h
 have H' := aZ H
 clear H
 go_enter Tryd.func62, Tryd.ntmps62
 go_wp2
 go_loopg [3, 11] k (fun kq v3 v11 w' => ∃ (x3_1 : Int) (x11_1 : Int), v3 = .int .i64 x3_1 ∧ v11 = .int .i64 x11_1 ∧ Aside0 (slices_Concat_byte_byte.l0 kq l0 x3_1 l0 (l0.length : Int) x11_1 = some r) ∧ Aside0 (kq ≤ k) ∧ Aside0 (Below w.heap.size w w'))
 case atStart => exact ⟨(0), (0), rS, rS, H', ⟨Nat.le_refl _⟩, ⟨bB⟩⟩
 case round =>
  clear H'
  obtain ⟨x3_1, x11_1, rfl, rfl, HA, HK1, HB⟩ := hrel
  cases gk with
  | zero => exact absurd HA.out (by simp [slices_Concat_byte_byte.l0])
  | succ k1 =>
   have H := HA.out
   clear HA
   simp only [slices_Concat_byte_byte.l0] at H
   by_cases c2 : x11_1 < (l0.length : Int)
   ·rw [if_pos c2] at H
    have c2b0 : decide (x11_1 < (l0.length : Int)) = true := decide_eq_true c2
    clear c2
    by_cases c3 : 0 ≤ x11_1
    ·rw [if_pos c3] at H
     have c3b0 : decide (0 ≤ x11_1) = true := decide_eq_true c3
     clear c3
     by_cases c4 : x11_1 < (l0.length : Int)
     ·rw [if_pos c4] at H
      have c4b0 : decide (x11_1 < (l0.length : Int)) = true := decide_eq_true c4
      clear c4
      by_cases c5 : (wrap64 (x3_1 + ((rd_L2 l0 x11_1).length : Int))) < 0
      ·rw [if_pos c5] at H
       exact absurd H (by simp)
      ·rw [if_neg c5] at H
       have c5b0 : decide ((wrap64 (x3_1 + ((rd_L2 l0 x11_1).length : Int))) < 0) = false := decide_eq_false c5
       clear c5
       have H' := aZ H
       clear H
       have p517 : 0 ≤ (x11_1 : Int) := oD
       have q517 : x11_1 < (l0.length : Int) := oD
       obtain ⟨ad517, A517_0, c517_0, e517, hx517_0, hl517_0, hi517_0⟩ := at_L2 HR0.out x11_1 p517 q517
       cases e517
       replace hx517_0 := (HB.out.cell (World.block_lt_of_cell? w _ hx517_0)).trans hx517_0
       have HR517_0 := aZ hi517_0
       have HC517_0 := aZ hl517_0
       clear hi517_0 hl517_0
       replace p517 := eq_true p517
       replace q517 := eq_true q517
       go_wp2
       go_roundg k1
       case measure => have := HK1.out; omega
       case rel => exact ⟨(wrap64 (x3_1 + ((rd_L2 l0 x11_1).length : Int))), (wrap64 (x11_1 + 1)), rS, rS, H', ⟨by have := HK1.out; omega⟩, ⟨bB⟩⟩
     ·rw [if_neg c4] at H
      exact absurd H (by simp)
    ·rw [if_neg c3] at H
     exact absurd H (by simp)
   ·rw [if_neg c2] at H
    have c2b0 : decide (x11_1 < (l0.length : Int)) = false := decide_eq_false c2
    clear c2
    replace H := Option.bind_eq_some_iff.mp H
    obtain ⟨t518, A60, H⟩ := H
    replace H : (slices_Concat_byte_byte.l1 k1 t518 l0 (l0.length : Int) 0) = some r := H
    have A6 := aZ A60
    clear A60
    have H' := aZ H
    clear H
    go_wp2_with (first | ((with_reducible refine gC 78 rfl ?_); refine goL (some 24) Tryd.func78 #[.slice none 0 0, .int .i64 x3_1] ?_; (refine (slices_Grow_byte_byte.calls0 x3_1 t518 _ A6.out).mono ?_); rintro e w7 ⟨v519, rfl, ho0, hb⟩; refine ⟨_, rfl, ?_⟩; have HO520 := aZ (Kd.R_lower ho0 (below_size bB)); replace HB := aZ (below_step bB hb); (try clear hb); (try clear hb2); (try clear hk); (try clear hi); (try clear ho0)))
    go_loopg [6, 27] k1 (fun kq v6 v27 w' => ∃ (x6_2 : List Int) (x27_2 : Int), v27 = .int .i64 x27_2 ∧ Aside0 (slices_Concat_byte_byte.l1 kq x6_2 l0 (l0.length : Int) x27_2 = some r) ∧ Aside0 (kq ≤ k1) ∧ Aside0 (Kd.R (Kd.int .u8) 5 w' w.heap.size (fun _ => True) v6 x6_2) ∧ Aside0 (Below w.heap.size w w'))
    case atStart => exact ⟨(t518), (0), rS, H', ⟨Nat.le_refl _⟩, ⟨by refine kR ?_; exact HO520.out⟩, ⟨bB⟩⟩
    case round =>
     clear H'
     try clear c2
     try clear c2b0
     try clear p2
     try clear c3
     try clear c3b0
     try clear c4
     try clear c4b0
     try clear c5
     try clear c5b0
     try clear p5
     try clear q5
     try clear hx5
     try clear c6
     try clear p6
     try clear c7
     try clear hx517_0
     try clear p517
     try clear q517
     obtain ⟨x6_2, x27_2, rfl, HA, HK2, HO_6, HB⟩ := hrel
     cases gk with
     | zero => exact absurd HA.out (by simp [slices_Concat_byte_byte.l1])
     | succ k2 =>
      have H := HA.out
      clear HA
      simp only [slices_Concat_byte_byte.l1] at H
      by_cases c8 : x27_2 < (l0.length : Int)
      ·rw [if_pos c8] at H
       have c8b0 : decide (x27_2 < (l0.length : Int)) = true := decide_eq_true c8
       clear c8
       by_cases c9 : 0 ≤ x27_2
       ·rw [if_pos c9] at H
        have c9b0 : decide (0 ≤ x27_2) = true := decide_eq_true c9
        clear c9
        by_cases c10 : x27_2 < (l0.length : Int)
        ·rw [if_pos c10] at H
         have c10b0 : decide (x27_2 < (l0.length : Int)) = true := decide_eq_true c10
         clear c10
         by_cases c11 : x6_2.length + (rd_L2 l0 x27_2).length < 140737488355328
         ·rw [if_pos c11] at H
          have LMc11 := aZ c11
          clear c11
          obtain ⟨y522, hy522⟩ : ∃ y_ : List Int, y_ = (x6_2 ++ (rd_L2 l0 x27_2)) := ⟨_, rfl⟩
          replace H : (slices_Concat_byte_byte.l1 k2 y522 l0 (l0.length : Int) (wrap64 (x27_2 + 1))) = some r := by first | (rw [hy522]; with_reducible exact H) | (have H2_ := (Option.bind_some _ _).symm.trans H; rw [hy522]; with_reducible exact H2_) | (have H2_ := (Option.bind_some _ _).symm.trans H; with_reducible exact H2_) | with_reducible exact H | (rw [hy522]; exact H) | exact H
          have Ny522 := aZ hy522
          clear hy522
          have H' := aZ H
          clear H
          have p521 : 0 ≤ (x27_2 : Int) := oD
          have q521 : x27_2 < (l0.length : Int) := oD
          obtain ⟨ad521, A521_0, c521_0, e521, hx521_0, hl521_0, hi521_0⟩ := at_L2 HR0.out x27_2 p521 q521
          cases e521
          replace hx521_0 := (HB.out.cell (World.block_lt_of_cell? w _ hx521_0)).trans hx521_0
          have HR521_0 := aZ hi521_0
          have HC521_0 := aZ hl521_0
          clear hi521_0 hl521_0
          replace p521 := eq_true p521
          replace q521 := eq_true q521
          go_wp2_with (first | ((with_reducible refine gate_builtin (b := .append) (xs := #[.tmp 31, .tmp 32]) rfl ?_); at_builtin; refine Kd.R_append_rows (Kd.int .u8) (w0 := w) w.heap.size rfl (.tmp 31) (.tmp 32) 24 5 (.int .u8 0) 1 rfl Tryd.underlying24 info5 rfl (by decide) (by omega) u6 x6_2 (rd_L2 l0 x27_2) _ _ _ (fun _ => True) (fun _ => False) rfl rfl ?aO ?aR (fun _ _ h => h) (fun _ h => h.elim) ?aF ?aB ?aS ?aL ?_; (case aR => exact kC (Kd.C_below HR521_0.out HB.out)); (case aB => exact bB); (case aF => exact (fun _ _ => trivial)); (case aO => exact (kR HO_6.out)); (case aS => exact (below_size bB)); (case aL => have := LMc11.out; omega); intro v523 w12 ho hb hg hat; rw [← Ny522.out] at ho; replace HB := aZ (hb); have HO524 := aZ (ho); clear HO_6; clear ho hb hg hat))
          go_roundg k2
          case measure => have := HK1.out; have := HK2.out; omega
          case rel => exact ⟨(y522), (wrap64 (x27_2 + 1)), rS, H', ⟨by have := HK1.out; have := HK2.out; omega⟩, ⟨by refine kR ?_; exact HO524.out⟩, ⟨bB⟩⟩
         ·rw [if_neg c11] at H
          exact absurd H (by simp)
        ·rw [if_neg c10] at H
         exact absurd H (by simp)
       ·rw [if_neg c9] at H
        exact absurd H (by simp)
      ·rw [if_neg c8] at H
       have c8b0 : decide (x27_2 < (l0.length : Int)) = false := decide_eq_false c8
       clear c8
       obtain rfl := Option.some.inj H
       go_wp2
       go_ret
       exact ⟨_, rF, by refine kR ?_; exact HO_6.out, bB⟩
end Go.Proofs.YtkceebgncfggjaaDoor.PQ

namespace Go.Proofs.YtkceebgncfggjaaDoor.PQ
open Go.RowKit Go.Proofs.YtkceebgncfggjaaDoorW.PrintWords Go.Proofs.YtkceebgncfggjaaDoorW.PrintLast Go.Proofs.YtkceebgncfggjaaDoorW.PrintMore Go.Proofs.YtkceebgncfggjaaDoorX
set_option maxHeartbeats 8000000
set_option maxRecDepth 100000
attribute [local go_sem] max2_int min2_int max_two min_two
mutual
def warderref04_Same.j0 : Nat → Bool → Int → List Int → List (S43) → Int → List Int → List (S43) → Option (Bool)
 | 0, _, _, _, _, _, _, _ => none
 | k + 1, x29, x462000, x462001, x462002, x463000, x463001, x463002 => if x29 = true then (some false) else (warderref04_Same.l0 k 0 x462000 x462001 x462002 x463000 x463001 x463002)
def warderref04_Same.l0 : Nat → Int → Int → List Int → List (S43) → Int → List Int → List (S43) → Option (Bool)
 | 0, _, _, _, _, _, _, _ => none
 | k + 1, x5, x462000, x462001, x462002, x463000, x463001, x463002 => if x5 < (x462002.length : Int) then (if 0 ≤ x5 then (if x5 < (x463002.length : Int) then ((warderref04_Same.f k ((rd_T43 x462002 x5).f0) ((rd_T43 x462002 x5).f1) ((rd_T43 x462002 x5).f2) ((rd_T43 x463002 x5).f0) ((rd_T43 x463002 x5).f1) ((rd_T43 x463002 x5).f2)).bind fun t465 => (if t465 = true then (warderref04_Same.l0 k (wrap64 (x5 + 1)) x462000 x462001 x462002 x463000 x463001 x463002) else (some false))) else (none)) else (none)) else (some true)
def warderref04_Same.f : Nat → Int → List Int → List (S43) → Int → List Int → List (S43) → Option (Bool)
 | 0, _, _, _, _, _, _ => none
 | k + 1, a0_0, l0_1, l0_2, a1_0, l1_1, l1_2 => if a0_0 = a1_0 then (if (strOfNums l0_1).toList = (strOfNums l1_1).toList then (warderref04_Same.j0 k ((l0_2.length : Int) != (l1_2.length : Int)) a0_0 l0_1 l0_2 a1_0 l1_1 l1_2) else (warderref04_Same.j0 k true a0_0 l0_1 l0_2 a1_0 l1_1 l1_2)) else (warderref04_Same.j0 k true a0_0 l0_1 l0_2 a1_0 l1_1 l1_2)
end
def warderref04_Same.T6 : Bool × List (List Nat × List Nat) := (true, [([], []), ([0], [0]), ([], []), ([1, 2], [1, 2]), ([3], [3]), ([], []), ([5], [5]), ([], []), ([6, 7], [6, 7]), ([8], [8]), ([4, 9], [4, 9]), ([10, 10, 0, 1, 2, 3, 4, 5, 6, 7, 8, 9, 10], [10])])
def warderref04_Same.B6 : List Nat := [0, 1, 0, 7, 15, 0, 32, 0, 224, 480, 1023, 2047]
theorem warderref04_Same.tab6 : rtab .any (opsOf Tryd.f25 6) = warderref04_Same.T6 := by kernel_rfl
theorem warderref04_Same.bits6 : waitsOk warderref04_Same.T6.2 warderref04_Same.B6 = true := by kernel_rfl
theorem warderref04_Same.calls (k : Nat) : ∀ (a0_0 : Int) (A0_1 : Option Addr) (c0_1 : Nat) (l0_1 : List Int) (A0_2 : Option Addr) (c0_2 : Nat) (l0_2 : List (S43)) (a1_0 : Int) (A1_1 : Option Addr) (c1_1 : Nat) (l1_1 : List Int) (A1_2 : Option Addr) (c1_2 : Nat) (l1_2 : List (S43)) (r : Bool) (w : World) (hr0_1 : Kd.C (Kd.int .u8) w A0_1 l0_1.length l0_1) (hc0_1 : l0_1.length ≤ c0_1) (hr0_2 : Kd.C k43 w A0_2 l0_2.length l0_2) (hc0_2 : l0_2.length ≤ c0_2) (hr1_1 : Kd.C (Kd.int .u8) w A1_1 l1_1.length l1_1) (hc1_1 : l1_1.length ≤ c1_1) (hr1_2 : Kd.C k43 w A1_2 l1_2.length l1_2) (hc1_2 : l1_2.length ≤ c1_2) (h : warderref04_Same.f k a0_0 l0_1 l0_2 a1_0 l1_1 l1_2 = some r),
  Calls Tryd.prog 25 #[.agg #[.int .u8 a0_0, .slice A0_1 l0_1.length c0_1, .slice A0_2 l0_2.length c0_2], .agg #[.int .u8 a1_0, .slice A1_1 l1_1.length c1_1, .slice A1_2 l1_2.length c1_2]] w fun e w' => e = .returned (.bool r) ∧ Below w.heap.size w w' := by
 induction k using Nat.strongRecOn with
 | _ k ih =>
 intro a0_0 A0_1 c0_1 l0_1 A0_2 c0_2 l0_2 a1_0 A1_1 c1_1 l1_1 A1_2 c1_2 l1_2 r w hr0_1 hc0_1 hr0_2 hc0_2 hr1_1 hc1_1 hr1_2 hc1_2 h
 cases k with
 | zero => exact absurd h (by simp [warderref04_Same.f])
 | succ k =>
 simp only [warderref04_Same.f] at h
 have hu43 := Tryd.underlying43
 have HR0_1 := aZ hr0_1
 have HC0_1 := aZ hc0_1
 clear hr0_1 hc0_1
 have HR0_2 := aZ hr0_2
 have HC0_2 := aZ hc0_2
 clear hr0_2 hc0_2
 have HR1_1 := aZ hr1_1
 have HC1_1 := aZ hc1_1
 clear hr1_1 hc1_1
 have HR1_2 := aZ hr1_2
 have HC1_2 := aZ hc1_2
 clear hr1_2 hc1_2
 have HB := aZ (Below.refl w.heap.size w)
 have H : (if a0_0 = a1_0 then (if (strOfNums l0_1).toList = (strOfNums l1_1).toList then (warderref04_Same.j0 k ((l0_2.length : Int) != (l1_2.length : Int)) a0_0 l0_1 l0_2 a1_0 l1_1 l1_2) else (warderref04_Same.j0 k true a0_0 l0_1 l0_2 a1_0 l1_1 l1_2)) else (warderref04_Same.j0 k true a0_0 l0_1 l0_2 a1_0 l1_1 l1_2)) = some r := h
 clear h
 have HC3 := aZ H
 clear H
 go_enter Tryd.func25, Tryd.ntmps25
 go_upto_region 1 with (first | ((with_reducible refine gD 2 rfl ?_); (try (refine gate_guard (by rfl) ?_; dsimp only)); refine bxE (N := 2) (cs := #[.int .u8 a0_0, .slice A0_1 l0_1.length c0_1, .slice A0_2 l0_2.length c0_2]) (t := 43) ?_; intro gb461 hg w4 hbox hb; have BK461 := aZ (hbox); have GW461 := aZ ((by rw [hg]; exact (below_size bB) : w.heap.size ≤ gb461)); have GE461 := aZ ((by rw [hg]; exact (below_size bB) : w.heap.size ≤ gb461)); replace HB := aZ (below_step bB hb); clear hb hbox hg) | ((with_reducible refine gD 3 rfl ?_); (try (refine gate_guard (by rfl) ?_; dsimp only)); refine bxE (N := 3) (cs := #[.int .u8 a1_0, .slice A1_1 l1_1.length c1_1, .slice A1_2 l1_2.length c1_2]) (t := 43) ?_; intro gb462 hg w5 hbox hb; have BK462 := aZ (hbox); have GW462 := aZ ((by rw [hg]; exact (below_size bB) : w.heap.size ≤ gb462)); have GE462 := aZ ((by rw [hg]; exact (below_size bB) : w.heap.size ≤ gb462)); replace HB := aZ (below_step bB hb); have NB461_462 := aZ ((by rw [hg]; exact Nat.ne_of_lt (blk_lt (g := gb461) (o := .cells #[.int .u8 a0_0, .slice A0_1 l0_1.length c0_1, .slice A0_2 l0_2.length c0_2] 43 (0, 0)) (kB BK461.out)) : gb461 ≠ gb462)); have NB462_461 := aZ ((by rw [hg]; exact Nat.ne_of_gt (blk_lt (g := gb461) (o := .cells #[.int .u8 a0_0, .slice A0_1 l0_1.length c0_1, .slice A0_2 l0_2.length c0_2] 43 (0, 0)) (kB BK461.out)) : gb462 ≠ gb461)); replace BK461 := aZ (blk_below (g := gb461) (o := .cells #[.int .u8 a0_0, .slice A0_1 l0_1.length c0_1, .slice A0_2 l0_2.length c0_2] 43 (0, 0)) (kB BK461.out) hb); clear hb hbox hg))
 (try simp only [Act.put, List.setIfInBounds_toArray, List.set_cons_zero, List.set_cons_succ])
 go_cut [29] (fun v29 wc => ∃ (kq : Nat) (x29_2 : Bool), v29 = .bool x29_2 ∧ Aside0 (warderref04_Same.j0 kq x29_2 a0_0 l0_1 l0_2 a1_0 l1_1 l1_2 = some r) ∧ Aside0 (kq ≤ k) ∧ Aside0 (wc.heap[gb461]? = some (.cells #[.int .u8 a0_0, (.slice A0_1 l0_1.length c0_1), (.slice A0_2 l0_2.length c0_2)] 43 (0, 0))) ∧ Aside0 (wc.heap[gb462]? = some (.cells #[.int .u8 a1_0, (.slice A1_1 l1_1.length c1_1), (.slice A1_2 l1_2.length c1_2)] 43 (0, 0))) ∧ Aside0 (Below w.heap.size w wc))
 case first =>
  have H := HC3.out
  clear HC3
  by_cases c6 : a0_0 = a1_0
  ·rw [if_pos c6] at H
   have c6b0 : (a0_0 == a1_0) = true := beq_iff_eq.mpr c6
   have c6b1 : (a0_0 != a1_0) = false := bne_eq_false_iff_eq.mpr c6
   clear c6
   (first | rw [c6b0] | (simp only [i64_w, i32_w]; rw [c6b0]) | skip)
   by_cases c7 : (strOfNums l0_1).toList = (strOfNums l1_1).toList
   ·rw [if_pos c7] at H
    have c7b0 : ((strOfNums l0_1).toList == (strOfNums l1_1).toList) = true := beq_iff_eq.mpr c7
    have c7b1 : ((strOfNums l0_1).toList != (strOfNums l1_1).toList) = false := bne_eq_false_iff_eq.mpr c7
    clear c7
    have H' := aZ H
    clear H
    have hnb8 := NB461_462.out
    have hnc8 := NB462_461.out
    have hcz9_0 : w5.cell? ⟨gb461, 0, none⟩ = some (.int .u8 a0_0) := (blk_cell BK461.out 0).trans rfl
    have hcz9_1 : w5.cell? ⟨gb461, 1, none⟩ = some (.slice A0_1 l0_1.length c0_1) := (blk_cell BK461.out 1).trans rfl
    have hcz9_2 : w5.cell? ⟨gb461, 2, none⟩ = some (.slice A0_2 l0_2.length c0_2) := (blk_cell BK461.out 2).trans rfl
    have hfz9_0 := blk_frozen BK461.out 0
    have hfz9_1 := blk_frozen BK461.out 1
    have hfz9_2 := blk_frozen BK461.out 2
    have hcz10_0 : w5.cell? ⟨gb462, 0, none⟩ = some (.int .u8 a1_0) := (blk_cell BK462.out 0).trans rfl
    have hcz10_1 : w5.cell? ⟨gb462, 1, none⟩ = some (.slice A1_1 l1_1.length c1_1) := (blk_cell BK462.out 1).trans rfl
    have hcz10_2 : w5.cell? ⟨gb462, 2, none⟩ = some (.slice A1_2 l1_2.length c1_2) := (blk_cell BK462.out 2).trans rfl
    have hfz10_0 := blk_frozen BK462.out 0
    have hfz10_1 := blk_frozen BK462.out 1
    have hfz10_2 := blk_frozen BK462.out 2
    have hcv11 := Kd.C_string (P := Tryd.prog) (A := A0_1) (c := c0_1) Tryd.underlying24 Tryd.underlying5 Tryd.underlying9 (Kd.C_below HR0_1.out HB.out)
    have hcv12 := Kd.C_string (P := Tryd.prog) (A := A1_1) (c := c1_1) Tryd.underlying24 Tryd.underlying5 Tryd.underlying9 (Kd.C_below HR1_1.out HB.out)
    go_wp2
    go_meet
    case rel => exact ⟨_, (((l0_2.length : Int) != (l1_2.length : Int))), rS, H', ⟨by first | omega | exact Nat.le_refl _⟩, ⟨by refine kB ?_; exact BK461.out⟩, ⟨by refine kB ?_; exact BK462.out⟩, ⟨bB⟩⟩
   ·rw [if_neg c7] at H
    have c7b0 : ((strOfNums l0_1).toList == (strOfNums l1_1).toList) = false := beq_eq_false_iff_ne.mpr c7
    have c7b1 : ((strOfNums l0_1).toList != (strOfNums l1_1).toList) = true := bne_iff_ne.mpr c7
    have H' := aZ H
    clear H
    have hnb13 := NB461_462.out
    have hnc13 := NB462_461.out
    have hcz14_0 : w5.cell? ⟨gb461, 0, none⟩ = some (.int .u8 a0_0) := (blk_cell BK461.out 0).trans rfl
    have hcz14_1 : w5.cell? ⟨gb461, 1, none⟩ = some (.slice A0_1 l0_1.length c0_1) := (blk_cell BK461.out 1).trans rfl
    have hcz14_2 : w5.cell? ⟨gb461, 2, none⟩ = some (.slice A0_2 l0_2.length c0_2) := (blk_cell BK461.out 2).trans rfl
    have hfz14_0 := blk_frozen BK461.out 0
    have hfz14_1 := blk_frozen BK461.out 1
    have hfz14_2 := blk_frozen BK461.out 2
    have hcz15_0 : w5.cell? ⟨gb462, 0, none⟩ = some (.int .u8 a1_0) := (blk_cell BK462.out 0).trans rfl
    have hcz15_1 : w5.cell? ⟨gb462, 1, none⟩ = some (.slice A1_1 l1_1.length c1_1) := (blk_cell BK462.out 1).trans rfl
    have hcz15_2 : w5.cell? ⟨gb462, 2, none⟩ = some (.slice A1_2 l1_2.length c1_2) := (blk_cell BK462.out 2).trans rfl
    have hfz15_0 := blk_frozen BK462.out 0
    have hfz15_1 := blk_frozen BK462.out 1
    have hfz15_2 := blk_frozen BK462.out 2
    have hcv16 := Kd.C_string (P := Tryd.prog) (A := A0_1) (c := c0_1) Tryd.underlying24 Tryd.underlying5 Tryd.underlying9 (Kd.C_below HR0_1.out HB.out)
    have hcv17 := Kd.C_string (P := Tryd.prog) (A := A1_1) (c := c1_1) Tryd.underlying24 Tryd.underlying5 Tryd.underlying9 (Kd.C_below HR1_1.out HB.out)
    go_wp2
    go_meet
    case rel => exact ⟨_, (true), rS, H', ⟨by first | omega | exact Nat.le_refl _⟩, ⟨by refine kB ?_; exact BK461.out⟩, ⟨by refine kB ?_; exact BK462.out⟩, ⟨bB⟩⟩
  ·rw [if_neg c6] at H
   have c6b0 : (a0_0 == a1_0) = false := beq_eq_false_iff_ne.mpr c6
   have c6b1 : (a0_0 != a1_0) = true := bne_iff_ne.mpr c6
   (first | rw [c6b0] | (simp only [i64_w, i32_w]; rw [c6b0]) | skip)
   have H' := aZ H
   clear H
   have hnb18 := NB461_462.out
   have hnc18 := NB462_461.out
   have hcz19_0 : w5.cell? ⟨gb461, 0, none⟩ = some (.int .u8 a0_0) := (blk_cell BK461.out 0).trans rfl
   have hcz19_1 : w5.cell? ⟨gb461, 1, none⟩ = some (.slice A0_1 l0_1.length c0_1) := (blk_cell BK461.out 1).trans rfl
   have hcz19_2 : w5.cell? ⟨gb461, 2, none⟩ = some (.slice A0_2 l0_2.length c0_2) := (blk_cell BK461.out 2).trans rfl
   have hfz19_0 := blk_frozen BK461.out 0
   have hfz19_1 := blk_frozen BK461.out 1
   have hfz19_2 := blk_frozen BK461.out 2
   have hcz20_0 : w5.cell? ⟨gb462, 0, none⟩ = some (.int .u8 a1_0) := (blk_cell BK462.out 0).trans rfl
   have hcz20_1 : w5.cell? ⟨gb462, 1, none⟩ = some (.slice A1_1 l1_1.length c1_1) := (blk_cell BK462.out 1).trans rfl
   have hcz20_2 : w5.cell? ⟨gb462, 2, none⟩ = some (.slice A1_2 l1_2.length c1_2) := (blk_cell BK462.out 2).trans rfl
   have hfz20_0 := blk_frozen BK462.out 0
   have hfz20_1 := blk_frozen BK462.out 1
   have hfz20_2 := blk_frozen BK462.out 2
   go_wp2
   go_meet
   case rel => exact ⟨_, (true), rS, H', ⟨by first | omega | exact Nat.le_refl _⟩, ⟨by refine kB ?_; exact BK461.out⟩, ⟨by refine kB ?_; exact BK462.out⟩, ⟨bB⟩⟩
 case rest =>
  clear HC3
  try clear c1
  try clear hcv1
  try clear c2
  try clear p2
  try clear c6
  try clear c6b0
  try clear c6b1
  try clear c7
  try clear c7b0
  try clear c7b1
  try clear c8
  try clear hcv11
  try clear hcv12
  try clear c13
  try clear hcv16
  try clear hcv17
  try clear c18
  try clear hcz10_0
  try clear hcz10_1
  try clear hcz10_2
  try clear hcz14_0
  try clear hcz14_1
  try clear hcz14_2
  try clear hcz15_0
  try clear hcz15_1
  try clear hcz15_2
  try clear hcz19_0
  try clear hcz19_1
  try clear hcz19_2
  try clear hcz20_0
  try clear hcz20_1
  try clear hcz20_2
  try clear hcz9_0
  try clear hcz9_1
  try clear hcz9_2
  try clear hfz10_0
  try clear hfz10_1
  try clear hfz10_2
  try clear hfz14_0
  try clear hfz14_1
  try clear hfz14_2
  try clear hfz15_0
  try clear hfz15_1
  try clear hfz15_2
  try clear hfz19_0
  try clear hfz19_1
  try clear hfz19_2
  try clear hfz20_0
  try clear hfz20_1
  try clear hfz20_2
  try clear hfz9_0
  try clear hfz9_1
  try clear hfz9_2
  obtain ⟨kq, x29_2, rfl, HA, HJ2, BK461, BK462, HB⟩ := hcut
  cases kq with
  | zero => exact absurd HA.out (by simp [warderref04_Same.j0])
  | succ kj2 =>
   have H := HA.out
   clear HA
   simp only [warderref04_Same.j0] at H
   by_cases c21 : x29_2 = true
   ·subst c21
    have H1 : (some false) = some r := by rw [if_pos rfl] at H; exact H
    clear H
    have H := H1
    clear H1
    obtain rfl := Option.some.inj H
    go_wp2
    go_ret
    exact ⟨rF, bB⟩
   ·replace c21 := Bool.eq_false_iff.mpr c21
    subst c21
    have H1 : (warderref04_Same.l0 kj2 0 a0_0 l0_1 l0_2 a1_0 l1_1 l1_2) = some r := by rw [if_neg (show ¬ (false = true) by decide)] at H; exact H
    clear H
    have H := H1
    clear H1
    have H' := aZ H
    clear H
    go_wp2
    go_loopg [5] kj2 (fun kq v5 w' => ∃ (x5_2 : Int), v5 = .int .i64 x5_2 ∧ Aside0 (warderref04_Same.l0 kq x5_2 a0_0 l0_1 l0_2 a1_0 l1_1 l1_2 = some r) ∧ Aside0 (kq ≤ kj2) ∧ Aside0 (w'.heap[gb461]? = some (.cells #[.int .u8 a0_0, (.slice A0_1 l0_1.length c0_1), (.slice A0_2 l0_2.length c0_2)] 43 (0, 0))) ∧ Aside0 (w'.heap[gb462]? = some (.cells #[.int .u8 a1_0, (.slice A1_1 l1_1.length c1_1), (.slice A1_2 l1_2.length c1_2)] 43 (0, 0))) ∧ Aside0 (Below w.heap.size w w'))
    case atStart => exact ⟨(0), rS, H', ⟨Nat.le_refl _⟩, ⟨by refine kB ?_; exact BK461.out⟩, ⟨by refine kB ?_; exact BK462.out⟩, ⟨bB⟩⟩
    case round =>
     clear H'
     try clear c1
     try clear hcv1
     try clear c2
     try clear p2
     try clear c6
     try clear c6b0
     try clear c6b1
     try clear c7
     try clear c7b0
     try clear c7b1
     try clear c8
     try clear hcv11
     try clear hcv12
     try clear c13
     try clear hcv16
     try clear hcv17
     try clear c18
     try clear c21
     try clear hcz10_0
     try clear hcz10_1
     try clear hcz10_2
     try clear hcz14_0
     try clear hcz14_1
     try clear hcz14_2
     try clear hcz15_0
     try clear hcz15_1
     try clear hcz15_2
     try clear hcz19_0
     try clear hcz19_1
     try clear hcz19_2
     try clear hcz20_0
     try clear hcz20_1
     try clear hcz20_2
     try clear hcz9_0
     try clear hcz9_1
     try clear hcz9_2
     try clear hfz10_0
     try clear hfz10_1
     try clear hfz10_2
     try clear hfz14_0
     try clear hfz14_1
     try clear hfz14_2
     try clear hfz15_0
     try clear hfz15_1
     try clear hfz15_2
     try clear hfz19_0
     try clear hfz19_1
     try clear hfz19_2
     try clear hfz20_0
     try clear hfz20_1
     try clear hfz20_2
     try clear hfz9_0
     try clear hfz9_1
     try clear hfz9_2
     try clear p2
     obtain ⟨x5_2, rfl, HA, HK2, BK461, BK462, HB⟩ := hrel
     cases gk with
     | zero => exact absurd HA.out (by simp [warderref04_Same.l0])
     | succ k2 =>
      have H := HA.out
      clear HA
      simp only [warderref04_Same.l0] at H
      by_cases c22 : x5_2 < (l0_2.length : Int)
      ·rw [if_pos c22] at H
       have c22b0 : decide (x5_2 < (l0_2.length : Int)) = true := decide_eq_true c22
       clear c22
       by_cases c23 : 0 ≤ x5_2
       ·rw [if_pos c23] at H
        have c23b0 : decide (0 ≤ x5_2) = true := decide_eq_true c23
        clear c23
        by_cases c24 : x5_2 < (l1_2.length : Int)
        ·rw [if_pos c24] at H
         have c24b0 : decide (x5_2 < (l1_2.length : Int)) = true := decide_eq_true c24
         clear c24
         replace H := Option.bind_eq_some_iff.mp H
         obtain ⟨t465, A250, H⟩ := H
         replace H : (if t465 = true then (warderref04_Same.l0 k2 (wrap64 (x5_2 + 1)) a0_0 l0_1 l0_2 a1_0 l1_1 l1_2) else (some false)) = some r := H
         have A25 := aZ A250
         clear A250
         by_cases c26 : t465 = true
         ·subst c26
          have H1 : (warderref04_Same.l0 k2 (wrap64 (x5_2 + 1)) a0_0 l0_1 l0_2 a1_0 l1_1 l1_2) = some r := by rw [if_pos rfl] at H; exact H
          clear H
          have H := H1
          clear H1
          have H' := aZ H
          clear H
          have hnb27 := NB461_462.out
          have hnc27 := NB462_461.out
          have hcz28_0 : wr.cell? ⟨gb461, 0, none⟩ = some (.int .u8 a0_0) := (blk_cell BK461.out 0).trans rfl
          have hcz28_1 : wr.cell? ⟨gb461, 1, none⟩ = some (.slice A0_1 l0_1.length c0_1) := (blk_cell BK461.out 1).trans rfl
          have hcz28_2 : wr.cell? ⟨gb461, 2, none⟩ = some (.slice A0_2 l0_2.length c0_2) := (blk_cell BK461.out 2).trans rfl
          have hfz28_0 := blk_frozen BK461.out 0
          have hfz28_1 := blk_frozen BK461.out 1
          have hfz28_2 := blk_frozen BK461.out 2
          try go_wp2
          replace BK461 := aZ (blk_drew BK461.out)
          replace BK462 := aZ (blk_drew BK462.out)
          replace HB := aZ (below_drew1 HB.out)
          have p463 : 0 ≤ (x5_2 : Int) := oD
          have q463 : x5_2 < (l0_2.length : Int) := oD
          obtain ⟨ad463, A463_1, c463_1, A463_2, c463_2, e463, hx463_0, hx463_1, hx463_2, hl463_1, hi463_1, hl463_2, hi463_2⟩ := at_T43 HR0_2.out x5_2 p463 q463
          have hw463_2 := hx463_2
          have hw463_1 := hx463_1
          have hw463_0 := hx463_0
          cases e463
          replace hx463_0 := (HB.out.cell (World.block_lt_of_cell? w _ hx463_0)).trans hx463_0
          replace hx463_1 := (HB.out.cell (World.block_lt_of_cell? w _ hx463_1)).trans hx463_1
          replace hx463_2 := (HB.out.cell (World.block_lt_of_cell? w _ hx463_2)).trans hx463_2
          have HR463_1 := aZ hi463_1
          have HC463_1 := aZ hl463_1
          clear hi463_1 hl463_1
          have HR463_2 := aZ hi463_2
          have HC463_2 := aZ hl463_2
          clear hi463_2 hl463_2
          replace p463 := eq_true p463
          replace q463 := eq_true q463
          have p464 : 0 ≤ (x5_2 : Int) := oD
          have q464 : x5_2 < (l1_2.length : Int) := oD
          obtain ⟨ad464, A464_1, c464_1, A464_2, c464_2, e464, hx464_0, hx464_1, hx464_2, hl464_1, hi464_1, hl464_2, hi464_2⟩ := at_T43 HR1_2.out x5_2 p464 q464
          have hw464_2 := hx464_2
          have hw464_1 := hx464_1
          have hw464_0 := hx464_0
          cases e464
          replace hx464_0 := (HB.out.cell (World.block_lt_of_cell? w _ hx464_0)).trans hx464_0
          replace hx464_1 := (HB.out.cell (World.block_lt_of_cell? w _ hx464_1)).trans hx464_1
          replace hx464_2 := (HB.out.cell (World.block_lt_of_cell? w _ hx464_2)).trans hx464_2
          have HR464_1 := aZ hi464_1
          have HC464_1 := aZ hl464_1
          clear hi464_1 hl464_1
          have HR464_2 := aZ hi464_2
          have HC464_2 := aZ hl464_2
          clear hi464_2 hl464_2
          replace p464 := eq_true p464
          replace q464 := eq_true q464
          refine start_ (n := 12) (S := fun w' => w'.cell? ⟨gb461, 0, none⟩ = some (.int .u8 a0_0) ∧ w'.cell? ⟨gb461, 1, none⟩ = some (.slice A0_1 l0_1.length c0_1) ∧ w'.cell? ⟨gb461, 2, none⟩ = some (.slice (some ad463) l0_2.length c0_2) ∧ w'.cell? ⟨gb462, 0, none⟩ = some (.int .u8 a1_0) ∧ w'.cell? ⟨gb462, 1, none⟩ = some (.slice A1_1 l1_1.length c1_1) ∧ w'.cell? ⟨gb462, 2, none⟩ = some (.slice (some ad464) l1_2.length c1_2) ∧ w'.cell? (ad463.add ((x5_2).toNat * 3)) = some (.int .u8 ((rd_T43 l0_2 x5_2).f0)) ∧ w'.cell? ⟨(ad463.add ((x5_2).toNat * 3)).block, (ad463.add ((x5_2).toNat * 3)).off + 1, none⟩ = some (.slice A463_1 ((rd_T43 l0_2 x5_2).f1).length c463_1) ∧ w'.cell? ⟨(ad463.add ((x5_2).toNat * 3)).block, (ad463.add ((x5_2).toNat * 3)).off + 2, none⟩ = some (.slice A463_2 ((rd_T43 l0_2 x5_2).f2).length c463_2) ∧ w'.cell? (ad464.add ((x5_2).toNat * 3)) = some (.int .u8 ((rd_T43 l1_2 x5_2).f0)) ∧ w'.cell? ⟨(ad464.add ((x5_2).toNat * 3)).block, (ad464.add ((x5_2).toNat * 3)).off + 1, none⟩ = some (.slice A464_1 ((rd_T43 l1_2 x5_2).f1).length c464_1) ∧ w'.cell? ⟨(ad464.add ((x5_2).toNat * 3)).block, (ad464.add ((x5_2).toNat * 3)).off + 2, none⟩ = some (.slice A464_2 ((rd_T43 l1_2 x5_2).f2).length c464_2)) (ds := []) #[false, false, false, false, false, false, false, false, false, false, false, false] (by kernel_rfl) rfl rfl ⟨(blk_cell BK461.out 0).trans rfl, (blk_cell BK461.out 1).trans rfl, (blk_cell BK461.out 2).trans rfl, (blk_cell BK462.out 0).trans rfl, (blk_cell BK462.out 1).trans rfl, (blk_cell BK462.out 2).trans rfl, ((HB.out.cell (World.block_lt_of_cell? w _ hw463_0)).trans hw463_0), ((HB.out.cell (World.block_lt_of_cell? w _ hw463_1)).trans hw463_1), ((HB.out.cell (World.block_lt_of_cell? w _ hw463_2)).trans hw463_2), ((HB.out.cell (World.block_lt_of_cell? w _ hw464_0)).trans hw464_0), ((HB.out.cell (World.block_lt_of_cell? w _ hw464_1)).trans hw464_1), ((HB.out.cell (World.block_lt_of_cell? w _ hw464_2)).trans hw464_2)⟩ (fun hHeld => ?_); refine with_tabW warderref04_Same.tab6 warderref04_Same.bits6 (fun HT_ HW_ => ?_)
          generalize wr.drew = w29 at BK461 BK462 HB HR463_1 HR463_2 HR464_1 HR464_2 hx463_0 hx463_1 hx463_2 hx464_0 hx464_1 hx464_2 hHeld ⊢
          refine pure_ (i := 0) (N := some 37) (v := ?_) (a' := ?_) #[true, false, false, false, false, false, false, false, false, false, false, false] rfl rfl (any_of HT_.out (by kernel_rfl)) (fun _ _ _ h => h) (Or.inl ⟨by rfl, ?_⟩) ?_ ?_
          rotate_left
          ·intro w'
           go_simp
           with_reducible rfl
          rotate_left
          ·simp only [Act.put, List.setIfInBounds_toArray, List.set_cons_zero, List.set_cons_succ, i64_w, i32_w]
           rfl
          refine pure_ (i := 2) (N := some 39) (v := ?_) (a' := ?_) #[true, false, true, false, false, false, false, false, false, false, false, false] rfl rfl (any_of HT_.out (by kernel_rfl)) (fun _ _ _ h => h) (Or.inl ⟨by rfl, ?_⟩) ?_ ?_
          rotate_left
          ·intro w'
           go_simp
           with_reducible rfl
          rotate_left
          ·simp only [Act.put, List.setIfInBounds_toArray, List.set_cons_zero, List.set_cons_succ, i64_w, i32_w]
           rfl
          refine pure_ (i := 5) (N := some 42) (v := ?_) (a' := ?_) #[true, false, true, false, false, true, false, false, false, false, false, false] rfl rfl (any_of HT_.out (by kernel_rfl)) (fun _ _ _ h => h) (Or.inl ⟨by rfl, ?_⟩) ?_ ?_
          rotate_left
          ·intro w'
           go_simp
           with_reducible rfl
          rotate_left
          ·simp only [Act.put, List.setIfInBounds_toArray, List.set_cons_zero, List.set_cons_succ, i64_w, i32_w]
           rfl
          refine pure_ (i := 7) (N := some 44) (v := ?_) (a' := ?_) #[true, false, true, false, false, true, false, true, false, false, false, false] rfl rfl (any_of HT_.out (by kernel_rfl)) (fun _ _ _ h => h) (Or.inl ⟨by rfl, ?_⟩) ?_ ?_
          rotate_left
          ·intro w'
           go_simp
           with_reducible rfl
          rotate_left
          ·simp only [Act.put, List.setIfInBounds_toArray, List.set_cons_zero, List.set_cons_succ, i64_w, i32_w]
           rfl
          refine take_ (i := 1) (N := some 38) (v := ?_) (a' := ?_) #[true, true, true, false, false, true, false, true, false, false, false, false] rfl rfl (take_ofW HT_.out HW_.out (by kernel_rfl)) (fun _ _ _ h => h) (Or.inl ⟨by rfl, ?_⟩) hHeld ?_ ?_
          rotate_left
          ·rintro w' ⟨s0, s1, s2, s3, s4, s5, s6, s7, s8, s9, s10, s11⟩
           go_simp
           with_reducible rfl
          rotate_left
          ·simp only [Act.put, List.setIfInBounds_toArray, List.set_cons_zero, List.set_cons_succ, i64_w, i32_w]
           rfl
          refine pure_ (i := 3) (N := some 40) (v := ?_) (a' := ?_) #[true, true, true, true, false, true, false, true, false, false, false, false] rfl rfl (any_of HT_.out (by kernel_rfl)) (fun _ _ _ h => h) (Or.inl ⟨by rfl, ?_⟩) ?_ ?_
          rotate_left
          ·intro w'
           go_simp
           with_reducible rfl
          rotate_left
          ·simp only [Act.put, List.setIfInBounds_toArray, List.set_cons_zero, List.set_cons_succ, i64_w, i32_w]
           rfl
          refine take_ (i := 4) (N := some 41) (v := ?_) (a' := ?_) #[true, true, true, true, true, true, false, true, false, false, false, false] rfl rfl (take_ofW HT_.out HW_.out (by kernel_rfl)) (fun _ _ _ h => h) (Or.inl ⟨by rfl, ?_⟩) hHeld ?_ ?_
          rotate_left
          ·rintro w' ⟨s0, s1, s2, s3, s4, s5, s6, s7, s8, s9, s10, s11⟩
           go_simp
           with_reducible rfl
          rotate_left
          ·simp only [Act.put, List.setIfInBounds_toArray, List.set_cons_zero, List.set_cons_succ, i64_w, i32_w]
           rfl
          refine take_ (i := 6) (N := some 43) (v := ?_) (a' := ?_) #[true, true, true, true, true, true, true, true, false, false, false, false] rfl rfl (take_ofW HT_.out HW_.out (by kernel_rfl)) (fun _ _ _ h => h) (Or.inl ⟨by rfl, ?_⟩) hHeld ?_ ?_
          rotate_left
          ·rintro w' ⟨s0, s1, s2, s3, s4, s5, s6, s7, s8, s9, s10, s11⟩
           go_simp
           with_reducible rfl
          rotate_left
          ·simp only [Act.put, List.setIfInBounds_toArray, List.set_cons_zero, List.set_cons_succ, i64_w, i32_w]
           rfl
          refine pure_ (i := 8) (N := some 45) (v := ?_) (a' := ?_) #[true, true, true, true, true, true, true, true, true, false, false, false] rfl rfl (any_of HT_.out (by kernel_rfl)) (fun _ _ _ h => h) (Or.inl ⟨by rfl, ?_⟩) ?_ ?_
          rotate_left
          ·intro w'
           go_simp
           with_reducible rfl
          rotate_left
          ·simp only [Act.put, List.setIfInBounds_toArray, List.set_cons_zero, List.set_cons_succ, i64_w, i32_w]
           rfl
          refine take_ (i := 9) (N := some 46) (v := ?_) (a' := ?_) #[true, true, true, true, true, true, true, true, true, true, false, false] rfl rfl (take_ofW HT_.out HW_.out (by kernel_rfl)) (fun _ _ _ h => h) (Or.inl ⟨by rfl, ?_⟩) hHeld ?_ ?_
          rotate_left
          ·rintro w' ⟨s0, s1, s2, s3, s4, s5, s6, s7, s8, s9, s10, s11⟩
           go_simp
           with_reducible rfl
          rotate_left
          ·simp only [Act.put, List.setIfInBounds_toArray, List.set_cons_zero, List.set_cons_succ, i64_w, i32_w]
           rfl
          refine one_ (i := 10) (N := some 47) #[true, true, true, true, true, true, true, true, true, true, true, false] rfl rfl (one_of HT_.out (by kernel_rfl)) (by decide) (fun K hK => ?_)
          refine goes_ Tryd.func25 (by kernel_rfl) rfl #[.agg #[.int .u8 ((rd_T43 l0_2 x5_2).f0), .slice A463_1 ((rd_T43 l0_2 x5_2).f1).length c463_1, .slice A463_2 ((rd_T43 l0_2 x5_2).f2).length c463_2], .agg #[.int .u8 ((rd_T43 l1_2 x5_2).f0), .slice A464_1 ((rd_T43 l1_2 x5_2).f1).length c464_1, .slice A464_2 ((rd_T43 l1_2 x5_2).f2).length c464_2]] (by rfl) rfl rfl aA ?_
          with_reducible refine (ih k2 (by have := HJ2.out; have := HK2.out; omega) ((rd_T43 l0_2 x5_2).f0) _ _ ((rd_T43 l0_2 x5_2).f1) _ _ ((rd_T43 l0_2 x5_2).f2) ((rd_T43 l1_2 x5_2).f0) _ _ ((rd_T43 l1_2 x5_2).f1) _ _ ((rd_T43 l1_2 x5_2).f2) true _ ?side1 ?side2 ?side3 ?side4 ?side5 ?side6 ?side7 ?side8 A25.out).mono ?_
          (case side1 => exact kC (Kd.C_below HR463_1.out HB.out))
          (case side2 => exact HC463_1.out)
          (case side3 => exact kC (Kd.C_below HR463_2.out HB.out))
          (case side4 => exact HC463_2.out)
          (case side5 => exact kC (Kd.C_below HR464_1.out HB.out))
          (case side6 => exact HC464_1.out)
          (case side7 => exact kC (Kd.C_below HR464_2.out HB.out))
          (case side8 => exact HC464_2.out)
          rintro e w30 ⟨rfl, hb⟩
          refine ⟨_, rfl, ?_⟩
          replace BK461 := aZ (blk_below (g := gb461) (o := .cells #[.int .u8 a0_0, .slice A0_1 l0_1.length c0_1, .slice (some ad463) l0_2.length c0_2] 43 (0, 0)) (kB BK461.out) hb)
          replace BK462 := aZ (blk_below (g := gb462) (o := .cells #[.int .u8 a1_0, .slice A1_1 l1_1.length c1_1, .slice (some ad464) l1_2.length c1_2] 43 (0, 0)) (kB BK462.out) hb)
          replace HB := aZ (below_step bB hb)
          (try clear hb)
          (try clear hb2)
          (try clear hk)
          (try clear hi)
          refine hK.out _ _ ⟨(blk_cell BK461.out 0).trans rfl, (blk_cell BK461.out 1).trans rfl, (blk_cell BK461.out 2).trans rfl, (blk_cell BK462.out 0).trans rfl, (blk_cell BK462.out 1).trans rfl, (blk_cell BK462.out 2).trans rfl, ((HB.out.cell (World.block_lt_of_cell? w _ hw463_0)).trans hw463_0), ((HB.out.cell (World.block_lt_of_cell? w _ hw463_1)).trans hw463_1), ((HB.out.cell (World.block_lt_of_cell? w _ hw463_2)).trans hw463_2), ((HB.out.cell (World.block_lt_of_cell? w _ hw464_0)).trans hw464_0), ((HB.out.cell (World.block_lt_of_cell? w _ hw464_1)).trans hw464_1), ((HB.out.cell (World.block_lt_of_cell? w _ hw464_2)).trans hw464_2)⟩ (fun hHeld => ?_)
          clear hK K
          refine norm_ (a' := ?_) ?_ ?_
          rotate_left
          ·show Act.put _ (some 47) _ = _
           simp only [Act.put, List.setIfInBounds_toArray, List.set_cons_zero, List.set_cons_succ, i64_w, i32_w]
           rfl
          refine pure_ (i := 11) (N := some 6) (v := ?_) (a' := ?_) #[true, true, true, true, true, true, true, true, true, true, true, true] rfl rfl (any_of HT_.out (by kernel_rfl)) (fun _ _ _ h => h) (Or.inl ⟨by rfl, ?_⟩) ?_ ?_
          rotate_left
          ·intro w'
           go_simp
           with_reducible rfl
          rotate_left
          ·simp only [Act.put, List.setIfInBounds_toArray, List.set_cons_zero, List.set_cons_succ, i64_w, i32_w]
           rfl
          refine done_ (done_of HT_.out (by kernel_rfl)) ?_
          try go_wp2
          go_roundg k2
          case measure => have := HJ2.out; have := HK2.out; omega
          case rel => exact ⟨(wrap64 (x5_2 + 1)), rS, H', ⟨by have := HJ2.out; have := HK2.out; omega⟩, ⟨by refine kB ?_; exact BK461.out⟩, ⟨by refine kB ?_; exact BK462.out⟩, ⟨bB⟩⟩
         ·replace c26 := Bool.eq_false_iff.mpr c26
          subst c26
          have H1 : (some false) = some r := by rw [if_neg (show ¬ (false = true) by decide)] at H; exact H
          clear H
          have H := H1
          clear H1
          obtain rfl := Option.some.inj H
          have hnb31 := NB461_462.out
          have hnc31 := NB462_461.out
          have hcz32_0 : wr.cell? ⟨gb461, 0, none⟩ = some (.int .u8 a0_0) := (blk_cell BK461.out 0).trans rfl
          have hcz32_1 : wr.cell? ⟨gb461, 1, none⟩ = some (.slice A0_1 l0_1.length c0_1) := (blk_cell BK461.out 1).trans rfl
          have hcz32_2 : wr.cell? ⟨gb461, 2, none⟩ = some (.slice A0_2 l0_2.length c0_2) := (blk_cell BK461.out 2).trans rfl
          have hfz32_0 := blk_frozen BK461.out 0
          have hfz32_1 := blk_frozen BK461.out 1
          have hfz32_2 := blk_frozen BK461.out 2
          try go_wp2
          replace BK461 := aZ (blk_drew BK461.out)
          replace BK462 := aZ (blk_drew BK462.out)
          replace HB := aZ (below_drew1 HB.out)
          have p463 : 0 ≤ (x5_2 : Int) := oD
          have q463 : x5_2 < (l0_2.length : Int) := oD
          obtain ⟨ad463, A463_1, c463_1, A463_2, c463_2, e463, hx463_0, hx463_1, hx463_2, hl463_1, hi463_1, hl463_2, hi463_2⟩ := at_T43 HR0_2.out x5_2 p463 q463
          have hw463_2 := hx463_2
          have hw463_1 := hx463_1
          have hw463_0 := hx463_0
          cases e463
          replace hx463_0 := (HB.out.cell (World.block_lt_of_cell? w _ hx463_0)).trans hx463_0
          replace hx463_1 := (HB.out.cell (World.block_lt_of_cell? w _ hx463_1)).trans hx463_1
          replace hx463_2 := (HB.out.cell (World.block_lt_of_cell? w _ hx463_2)).trans hx463_2
          have HR463_1 := aZ hi463_1
          have HC463_1 := aZ hl463_1
          clear hi463_1 hl463_1
          have HR463_2 := aZ hi463_2
          have HC463_2 := aZ hl463_2
          clear hi463_2 hl463_2
          replace p463 := eq_true p463
          replace q463 := eq_true q463
          have p464 : 0 ≤ (x5_2 : Int) := oD
          have q464 : x5_2 < (l1_2.length : Int) := oD
          obtain ⟨ad464, A464_1, c464_1, A464_2, c464_2, e464, hx464_0, hx464_1, hx464_2, hl464_1, hi464_1, hl464_2, hi464_2⟩ := at_T43 HR1_2.out x5_2 p464 q464
          have hw464_2 := hx464_2
          have hw464_1 := hx464_1
          have hw464_0 := hx464_0
          cases e464
          replace hx464_0 := (HB.out.cell (World.block_lt_of_cell? w _ hx464_0)).trans hx464_0
          replace hx464_1 := (HB.out.cell (World.block_lt_of_cell? w _ hx464_1)).trans hx464_1
          replace hx464_2 := (HB.out.cell (World.block_lt_of_cell? w _ hx464_2)).trans hx464_2
          have HR464_1 := aZ hi464_1
          have HC464_1 := aZ hl464_1
          clear hi464_1 hl464_1
          have HR464_2 := aZ hi464_2
          have HC464_2 := aZ hl464_2
          clear hi464_2 hl464_2
          replace p464 := eq_true p464
          replace q464 := eq_true q464
          refine start_ (n := 12) (S := fun w' => w'.cell? ⟨gb461, 0, none⟩ = some (.int .u8 a0_0) ∧ w'.cell? ⟨gb461, 1, none⟩ = some (.slice A0_1 l0_1.length c0_1) ∧ w'.cell? ⟨gb461, 2, none⟩ = some (.slice (some ad463) l0_2.length c0_2) ∧ w'.cell? ⟨gb462, 0, none⟩ = some (.int .u8 a1_0) ∧ w'.cell? ⟨gb462, 1, none⟩ = some (.slice A1_1 l1_1.length c1_1) ∧ w'.cell? ⟨gb462, 2, none⟩ = some (.slice (some ad464) l1_2.length c1_2) ∧ w'.cell? (ad463.add ((x5_2).toNat * 3)) = some (.int .u8 ((rd_T43 l0_2 x5_2).f0)) ∧ w'.cell? ⟨(ad463.add ((x5_2).toNat * 3)).block, (ad463.add ((x5_2).toNat * 3)).off + 1, none⟩ = some (.slice A463_1 ((rd_T43 l0_2 x5_2).f1).length c463_1) ∧ w'.cell? ⟨(ad463.add ((x5_2).toNat * 3)).block, (ad463.add ((x5_2).toNat * 3)).off + 2, none⟩ = some (.slice A463_2 ((rd_T43 l0_2 x5_2).f2).length c463_2) ∧ w'.cell? (ad464.add ((x5_2).toNat * 3)) = some (.int .u8 ((rd_T43 l1_2 x5_2).f0)) ∧ w'.cell? ⟨(ad464.add ((x5_2).toNat * 3)).block, (ad464.add ((x5_2).toNat * 3)).off + 1, none⟩ = some (.slice A464_1 ((rd_T43 l1_2 x5_2).f1).length c464_1) ∧ w'.cell? ⟨(ad464.add ((x5_2).toNat * 3)).block, (ad464.add ((x5_2).toNat * 3)).off + 2, none⟩ = some (.slice A464_2 ((rd_T43 l1_2 x5_2).f2).length c464_2)) (ds := []) #[false, false, false, false, false, false, false, false, false, false, false, false] (by kernel_rfl) rfl rfl ⟨(blk_cell BK461.out 0).trans rfl, (blk_cell BK461.out 1).trans rfl, (blk_cell BK461.out 2).trans rfl, (blk_cell BK462.out 0).trans rfl, (blk_cell BK462.out 1).trans rfl, (blk_cell BK462.out 2).trans rfl, ((HB.out.cell (World.block_lt_of_cell? w _ hw463_0)).trans hw463_0), ((HB.out.cell (World.block_lt_of_cell? w _ hw463_1)).trans hw463_1), ((HB.out.cell (World.block_lt_of_cell? w _ hw463_2)).trans hw463_2), ((HB.out.cell (World.block_lt_of_cell? w _ hw464_0)).trans hw464_0), ((HB.out.cell (World.block_lt_of_cell? w _ hw464_1)).trans hw464_1), ((HB.out.cell (World.block_lt_of_cell? w _ hw464_2)).trans hw464_2)⟩ (fun hHeld => ?_); refine with_tabW warderref04_Same.tab6 warderref04_Same.bits6 (fun HT_ HW_ => ?_)
          generalize wr.drew = w33 at BK461 BK462 HB HR463_1 HR463_2 HR464_1 HR464_2 hx463_0 hx463_1 hx463_2 hx464_0 hx464_1 hx464_2 hHeld ⊢
          refine pure_ (i := 0) (N := some 37) (v := ?_) (a' := ?_) #[true, false, false, false, false, false, false, false, false, false, false, false] rfl rfl (any_of HT_.out (by kernel_rfl)) (fun _ _ _ h => h) (Or.inl ⟨by rfl, ?_⟩) ?_ ?_
          rotate_left
          ·intro w'
           go_simp
           with_reducible rfl
          rotate_left
          ·simp only [Act.put, List.setIfInBounds_toArray, List.set_cons_zero, List.set_cons_succ, i64_w, i32_w]
           rfl
          refine pure_ (i := 2) (N := some 39) (v := ?_) (a' := ?_) #[true, false, true, false, false, false, false, false, false, false, false, false] rfl rfl (any_of HT_.out (by kernel_rfl)) (fun _ _ _ h => h) (Or.inl ⟨by rfl, ?_⟩) ?_ ?_
          rotate_left
          ·intro w'
           go_simp
           with_reducible rfl
          rotate_left
          ·simp only [Act.put, List.setIfInBounds_toArray, List.set_cons_zero, List.set_cons_succ, i64_w, i32_w]
           rfl
          refine pure_ (i := 5) (N := some 42) (v := ?_) (a' := ?_) #[true, false, true, false, false, true, false, false, false, false, false, false] rfl rfl (any_of HT_.out (by kernel_rfl)) (fun _ _ _ h => h) (Or.inl ⟨by rfl, ?_⟩) ?_ ?_
          rotate_left
          ·intro w'
           go_simp
           with_reducible rfl
          rotate_left
          ·simp only [Act.put, List.setIfInBounds_toArray, List.set_cons_zero, List.set_cons_succ, i64_w, i32_w]
           rfl
          refine pure_ (i := 7) (N := some 44) (v := ?_) (a' := ?_) #[true, false, true, false, false, true, false, true, false, false, false, false] rfl rfl (any_of HT_.out (by kernel_rfl)) (fun _ _ _ h => h) (Or.inl ⟨by rfl, ?_⟩) ?_ ?_
          rotate_left
          ·intro w'
           go_simp
           with_reducible rfl
          rotate_left
          ·simp only [Act.put, List.setIfInBounds_toArray, List.set_cons_zero, List.set_cons_succ, i64_w, i32_w]
           rfl
          refine take_ (i := 1) (N := some 38) (v := ?_) (a' := ?_) #[true, true, true, false, false, true, false, true, false, false, false, false] rfl rfl (take_ofW HT_.out HW_.out (by kernel_rfl)) (fun _ _ _ h => h) (Or.inl ⟨by rfl, ?_⟩) hHeld ?_ ?_
          rotate_left
          ·rintro w' ⟨s0, s1, s2, s3, s4, s5, s6, s7, s8, s9, s10, s11⟩
           go_simp
           with_reducible rfl
          rotate_left
          ·simp only [Act.put, List.setIfInBounds_toArray, List.set_cons_zero, List.set_cons_succ, i64_w, i32_w]
           rfl
          refine pure_ (i := 3) (N := some 40) (v := ?_) (a' := ?_) #[true, true, true, true, false, true, false, true, false, false, false, false] rfl rfl (any_of HT_.out (by kernel_rfl)) (fun _ _ _ h => h) (Or.inl ⟨by rfl, ?_⟩) ?_ ?_
          rotate_left
          ·intro w'
           go_simp
           with_reducible rfl
          rotate_left
          ·simp only [Act.put, List.setIfInBounds_toArray, List.set_cons_zero, List.set_cons_succ, i64_w, i32_w]
           rfl
          refine take_ (i := 4) (N := some 41) (v := ?_) (a' := ?_) #[true, true, true, true, true, true, false, true, false, false, false, false] rfl rfl (take_ofW HT_.out HW_.out (by kernel_rfl)) (fun _ _ _ h => h) (Or.inl ⟨by rfl, ?_⟩) hHeld ?_ ?_
          rotate_left
          ·rintro w' ⟨s0, s1, s2, s3, s4, s5, s6, s7, s8, s9, s10, s11⟩
           go_simp
           with_reducible rfl
          rotate_left
          ·simp only [Act.put, List.setIfInBounds_toArray, List.set_cons_zero, List.set_cons_succ, i64_w, i32_w]
           rfl
          refine take_ (i := 6) (N := some 43) (v := ?_) (a' := ?_) #[true, true, true, true, true, true, true, true, false, false, false, false] rfl rfl (take_ofW HT_.out HW_.out (by kernel_rfl)) (fun _ _ _ h => h) (Or.inl ⟨by rfl, ?_⟩) hHeld ?_ ?_
          rotate_left
          ·rintro w' ⟨s0, s1, s2, s3, s4, s5, s6, s7, s8, s9, s10, s11⟩
           go_simp
           with_reducible rfl
          rotate_left
          ·simp only [Act.put, List.setIfInBounds_toArray, List.set_cons_zero, List.set_cons_succ, i64_w, i32_w]
           rfl
          refine pure_ (i := 8) (N := some 45) (v := ?_) (a' := ?_) #[true, true, true, true, true, true, true, true, true, false, false, false] rfl rfl (any_of HT_.out (by kernel_rfl)) (fun _ _ _ h => h) (Or.inl ⟨by rfl, ?_⟩) ?_ ?_
          rotate_left
          ·intro w'
           go_simp
           with_reducible rfl
          rotate_left
          ·simp only [Act.put, List.setIfInBounds_toArray, List.set_cons_zero, List.set_cons_succ, i64_w, i32_w]
           rfl
          refine take_ (i := 9) (N := some 46) (v := ?_) (a' := ?_) #[true, true, true, true, true, true, true, true, true, true, false, false] rfl rfl (take_ofW HT_.out HW_.out (by kernel_rfl)) (fun _ _ _ h => h) (Or.inl ⟨by rfl, ?_⟩) hHeld ?_ ?_
          rotate_left
          ·rintro w' ⟨s0, s1, s2, s3, s4, s5, s6, s7, s8, s9, s10, s11⟩
           go_simp
           with_reducible rfl
          rotate_left
          ·simp only [Act.put, List.setIfInBounds_toArray, List.set_cons_zero, List.set_cons_succ, i64_w, i32_w]
           rfl
          refine one_ (i := 10) (N := some 47) #[true, true, true, true, true, true, true, true, true, true, true, false] rfl rfl (one_of HT_.out (by kernel_rfl)) (by decide) (fun K hK => ?_)
          refine goes_ Tryd.func25 (by kernel_rfl) rfl #[.agg #[.int .u8 ((rd_T43 l0_2 x5_2).f0), .slice A463_1 ((rd_T43 l0_2 x5_2).f1).length c463_1, .slice A463_2 ((rd_T43 l0_2 x5_2).f2).length c463_2], .agg #[.int .u8 ((rd_T43 l1_2 x5_2).f0), .slice A464_1 ((rd_T43 l1_2 x5_2).f1).length c464_1, .slice A464_2 ((rd_T43 l1_2 x5_2).f2).length c464_2]] (by rfl) rfl rfl aA ?_
          with_reducible refine (ih k2 (by have := HJ2.out; have := HK2.out; omega) ((rd_T43 l0_2 x5_2).f0) _ _ ((rd_T43 l0_2 x5_2).f1) _ _ ((rd_T43 l0_2 x5_2).f2) ((rd_T43 l1_2 x5_2).f0) _ _ ((rd_T43 l1_2 x5_2).f1) _ _ ((rd_T43 l1_2 x5_2).f2) false _ ?side1 ?side2 ?side3 ?side4 ?side5 ?side6 ?side7 ?side8 A25.out).mono ?_
          (case side1 => exact kC (Kd.C_below HR463_1.out HB.out))
          (case side2 => exact HC463_1.out)
          (case side3 => exact kC (Kd.C_below HR463_2.out HB.out))
          (case side4 => exact HC463_2.out)
          (case side5 => exact kC (Kd.C_below HR464_1.out HB.out))
          (case side6 => exact HC464_1.out)
          (case side7 => exact kC (Kd.C_below HR464_2.out HB.out))
          (case side8 => exact HC464_2.out)
          rintro e w34 ⟨rfl, hb⟩
          refine ⟨_, rfl, ?_⟩
          replace BK461 := aZ (blk_below (g := gb461) (o := .cells #[.int .u8 a0_0, .slice A0_1 l0_1.length c0_1, .slice (some ad463) l0_2.length c0_2] 43 (0, 0)) (kB BK461.out) hb)
          replace BK462 := aZ (blk_below (g := gb462) (o := .cells #[.int .u8 a1_0, .slice A1_1 l1_1.length c1_1, .slice (some ad464) l1_2.length c1_2] 43 (0, 0)) (kB BK462.out) hb)
          replace HB := aZ (below_step bB hb)
          (try clear hb)
          (try clear hb2)
          (try clear hk)
          (try clear hi)
          refine hK.out _ _ ⟨(blk_cell BK461.out 0).trans rfl, (blk_cell BK461.out 1).trans rfl, (blk_cell BK461.out 2).trans rfl, (blk_cell BK462.out 0).trans rfl, (blk_cell BK462.out 1).trans rfl, (blk_cell BK462.out 2).trans rfl, ((HB.out.cell (World.block_lt_of_cell? w _ hw463_0)).trans hw463_0), ((HB.out.cell (World.block_lt_of_cell? w _ hw463_1)).trans hw463_1), ((HB.out.cell (World.block_lt_of_cell? w _ hw463_2)).trans hw463_2), ((HB.out.cell (World.block_lt_of_cell? w _ hw464_0)).trans hw464_0), ((HB.out.cell (World.block_lt_of_cell? w _ hw464_1)).trans hw464_1), ((HB.out.cell (World.block_lt_of_cell? w _ hw464_2)).trans hw464_2)⟩ (fun hHeld => ?_)
          clear hK K
          refine norm_ (a' := ?_) ?_ ?_
          rotate_left
          ·show Act.put _ (some 47) _ = _
           simp only [Act.put, List.setIfInBounds_toArray, List.set_cons_zero, List.set_cons_succ, i64_w, i32_w]
           rfl
          refine pure_ (i := 11) (N := some 6) (v := ?_) (a' := ?_) #[true, true, true, true, true, true, true, true, true, true, true, true] rfl rfl (any_of HT_.out (by kernel_rfl)) (fun _ _ _ h => h) (Or.inl ⟨by rfl, ?_⟩) ?_ ?_
          rotate_left
          ·intro w'
           go_simp
           with_reducible rfl
          rotate_left
          ·simp only [Act.put, List.setIfInBounds_toArray, List.set_cons_zero, List.set_cons_succ, i64_w, i32_w]
           rfl
          refine done_ (done_of HT_.out (by kernel_rfl)) ?_
          try go_wp2
          go_ret
          exact ⟨rF, bB⟩
        ·rw [if_neg c24] at H
         exact absurd H (by simp)
       ·rw [if_neg c23] at H
        exact absurd H (by simp)
      ·rw [if_neg c22] at H
       have c22b0 : decide (x5_2 < (l0_2.length : Int)) = false := decide_eq_false c22
       clear c22
       obtain rfl := Option.some.inj H
       have hnb35 := NB461_462.out
       have hnc35 := NB462_461.out
       have hcz36_0 : wr.cell? ⟨gb461, 0, none⟩ = some (.int .u8 a0_0) := (blk_cell BK461.out 0).trans rfl
       have hcz36_1 : wr.cell? ⟨gb461, 1, none⟩ = some (.slice A0_1 l0_1.length c0_1) := (blk_cell BK461.out 1).trans rfl
       have hcz36_2 : wr.cell? ⟨gb461, 2, none⟩ = some (.slice A0_2 l0_2.length c0_2) := (blk_cell BK461.out 2).trans rfl
       have hfz36_0 := blk_frozen BK461.out 0
       have hfz36_1 := blk_frozen BK461.out 1
       have hfz36_2 := blk_frozen BK461.out 2
       go_wp2
       go_ret
       exact ⟨rF, bB⟩
end Go.Proofs.YtkceebgncfggjaaDoor.PQ

namespace Go.Proofs.YtkceebgncfggjaaDoor.PQ
open Go.RowKit Go.Proofs.YtkceebgncfggjaaDoorW.PrintWords Go.Proofs.YtkceebgncfggjaaDoorW.PrintLast Go.Proofs.YtkceebgncfggjaaDoorW.PrintMore Go.Proofs.YtkceebgncfggjaaDoorX
set_option maxHeartbeats 8000000
set_option maxRecDepth 100000
attribute [local go_sem] max2_int min2_int max_two min_two
mutual
def warderref04_Parts.l0 : Nat → Int → Int → Int → Int → List Int → List (S43) → Option (Int)
 | 0, _, _, _, _, _, _ => none
 | k + 1, x1, x5, x6, x497000, x497001, x497002 => if x6 < (x497002.length : Int) then (if x5 ≤ x1 then (if 0 ≤ x6 then ((warderref04_Parts.f k ((rd_T43 x497002 x6).f0) ((rd_T43 x497002 x6).f1) ((rd_T43 x497002 x6).f2) (wrap64 (x1 - x5))).bind fun t498 => (warderref04_Parts.l0 k x1 (wrap64 (x5 + t498)) (wrap64 (x6 + 1)) x497000 x497001 x497002)) else (none)) else (some x5)) else (some x5)
def warderref04_Parts.f : Nat → Int → List Int → List (S43) → Int → Option (Int)
 | 0, _, _, _, _ => none
 | k + 1, a0_0, l0_1, l0_2, a1 => warderref04_Parts.l0 k a1 1 0 a0_0 l0_1 l0_2
end
theorem warderref04_Parts.calls (k : Nat) : ∀ (a0_0 : Int) (A0_1 : Option Addr) (c0_1 : Nat) (l0_1 : List Int) (A0_2 : Option Addr) (c0_2 : Nat) (l0_2 : List (S43)) (a1 : Int) (r : Int) (w : World) (hr0_1 : Kd.C (Kd.int .u8) w A0_1 l0_1.length l0_1) (hc0_1 : l0_1.length ≤ c0_1) (hr0_2 : Kd.C k43 w A0_2 l0_2.length l0_2) (hc0_2 : l0_2.length ≤ c0_2) (h : warderref04_Parts.f k a0_0 l0_1 l0_2 a1 = some r),
  Calls Tryd.prog 26 #[.agg #[.int .u8 a0_0, .slice A0_1 l0_1.length c0_1, .slice A0_2 l0_2.length c0_2], .int .i64 a1] w fun e w' => e = .returned (.int .i64 r) ∧ Below w.heap.size w w' := by
 induction k using Nat.strongRecOn with
 | _ k ih =>
 intro a0_0 A0_1 c0_1 l0_1 A0_2 c0_2 l0_2 a1 r w hr0_1 hc0_1 hr0_2 hc0_2 h
 cases k with
 | zero => exact absurd h (by simp [warderref04_Parts.f])
 | succ k =>
 simp only [warderref04_Parts.f] at h
 have hu43 := Tryd.underlying43
 have HR0_1 := aZ hr0_1
 have HC0_1 := aZ hc0_1
 clear hr0_1 hc0_1
 have HR0_2 := aZ hr0_2
 have HC0_2 := aZ hc0_2
 clear hr0_2 hc0_2
 have HB := aZ (Below.refl w.heap.size w)
 have H : (warderref04_Parts.l0 k a1 1 0 a0_0 l0_1 l0_2) = some r := h
 clear h
 have H' := aZ H
 clear H
 go_enter Tryd.func26, Tryd.ntmps26
 go_wp2_with (first | ((with_reducible refine gD 2 rfl ?_); refine bxE (N := 2) (cs := #[.int .u8 a0_0, .slice A0_1 l0_1.length c0_1, .slice A0_2 l0_2.length c0_2]) (t := 43) ?_; intro gb496 hg w3 hbox hb; have BK496 := aZ (hbox); have GW496 := aZ ((by rw [hg]; exact (below_size bB) : w.heap.size ≤ gb496)); have GE496 := aZ ((by rw [hg]; exact (below_size bB) : w.heap.size ≤ gb496)); replace HB := aZ (below_step bB hb); clear hb hbox hg))
 go_loopg [5, 6] k (fun kq v5 v6 w' => ∃ (x5_1 : Int) (x6_1 : Int), v5 = .int .i64 x5_1 ∧ v6 = .int .i64 x6_1 ∧ Aside0 (warderref04_Parts.l0 kq a1 x5_1 x6_1 a0_0 l0_1 l0_2 = some r) ∧ Aside0 (kq ≤ k) ∧ Aside0 (w'.heap[gb496]? = some (.cells #[.int .u8 a0_0, (.slice A0_1 l0_1.length c0_1), (.slice A0_2 l0_2.length c0_2)] 43 (0, 0))) ∧ Aside0 (Below w.heap.size w w'))
 case atStart => exact ⟨(1), (0), rS, rS, H', ⟨Nat.le_refl _⟩, ⟨by refine kB ?_; exact BK496.out⟩, ⟨bB⟩⟩
 case round =>
  clear H'
  try clear c2
  try clear p2
  obtain ⟨x5_1, x6_1, rfl, rfl, HA, HK1, BK496, HB⟩ := hrel
  cases gk with
  | zero => exact absurd HA.out (by simp [warderref04_Parts.l0])
  | succ k1 =>
   have H := HA.out
   clear HA
   simp only [warderref04_Parts.l0] at H
   by_cases c4 : x6_1 < (l0_2.length : Int)
   ·rw [if_pos c4] at H
    have c4b0 : decide (x6_1 < (l0_2.length : Int)) = true := decide_eq_true c4
    clear c4
    by_cases c5 : x5_1 ≤ a1
    ·rw [if_pos c5] at H
     have c5b0 : decide (x5_1 ≤ a1) = true := decide_eq_true c5
     clear c5
     by_cases c6 : 0 ≤ x6_1
     ·rw [if_pos c6] at H
      have c6b0 : decide (0 ≤ x6_1) = true := decide_eq_true c6
      clear c6
      replace H := Option.bind_eq_some_iff.mp H
      obtain ⟨t498, A70, H⟩ := H
      replace H : (warderref04_Parts.l0 k1 a1 (wrap64 (x5_1 + t498)) (wrap64 (x6_1 + 1)) a0_0 l0_1 l0_2) = some r := H
      have A7 := aZ A70
      clear A70
      have H' := aZ H
      clear H
      have hcz8_0 : wr.cell? ⟨gb496, 0, none⟩ = some (.int .u8 a0_0) := (blk_cell BK496.out 0).trans rfl
      have hcz8_1 : wr.cell? ⟨gb496, 1, none⟩ = some (.slice A0_1 l0_1.length c0_1) := (blk_cell BK496.out 1).trans rfl
      have hcz8_2 : wr.cell? ⟨gb496, 2, none⟩ = some (.slice A0_2 l0_2.length c0_2) := (blk_cell BK496.out 2).trans rfl
      have hfz8_0 := blk_frozen BK496.out 0
      have hfz8_1 := blk_frozen BK496.out 1
      have hfz8_2 := blk_frozen BK496.out 2
      have p497 : 0 ≤ (x6_1 : Int) := oD
      have q497 : x6_1 < (l0_2.length : Int) := oD
      obtain ⟨ad497, A497_1, c497_1, A497_2, c497_2, e497, hx497_0, hx497_1, hx497_2, hl497_1, hi497_1, hl497_2, hi497_2⟩ := at_T43 HR0_2.out x6_1 p497 q497
      cases e497
      replace hx497_0 := (HB.out.cell (World.block_lt_of_cell? w _ hx497_0)).trans hx497_0
      replace hx497_1 := (HB.out.cell (World.block_lt_of_cell? w _ hx497_1)).trans hx497_1
      replace hx497_2 := (HB.out.cell (World.block_lt_of_cell? w _ hx497_2)).trans hx497_2
      have HR497_1 := aZ hi497_1
      have HC497_1 := aZ hl497_1
      clear hi497_1 hl497_1
      have HR497_2 := aZ hi497_2
      have HC497_2 := aZ hl497_2
      clear hi497_2 hl497_2
      replace p497 := eq_true p497
      replace q497 := eq_true q497
      go_wp2_with (first | ((with_reducible refine gC 26 rfl ?_); refine goL (some 28) Tryd.func26 #[.agg #[.int .u8 ((rd_T43 l0_2 x6_1).f0), .slice A497_1 ((rd_T43 l0_2 x6_1).f1).length c497_1, .slice A497_2 ((rd_T43 l0_2 x6_1).f2).length c497_2], .int .i64 (wrap64 (a1 - x5_1))] ?_; (with_reducible refine (ih k1 (by have := HK1.out; omega) ((rd_T43 l0_2 x6_1).f0) _ _ ((rd_T43 l0_2 x6_1).f1) _ _ ((rd_T43 l0_2 x6_1).f2) (wrap64 (a1 - x5_1)) t498 _ ?side1 ?side2 ?side3 ?side4 A7.out).mono ?_); (case side1 => exact kC (Kd.C_below HR497_1.out HB.out)); (case side2 => exact HC497_1.out); (case side3 => exact kC (Kd.C_below HR497_2.out HB.out)); (case side4 => exact HC497_2.out); rintro e w9 ⟨rfl, hb⟩; refine ⟨_, rfl, ?_⟩; replace BK496 := aZ (blk_below (g := gb496) (o := .cells #[.int .u8 a0_0, .slice A0_1 l0_1.length c0_1, .slice (some ad497) l0_2.length c0_2] 43 (0, 0)) (kB BK496.out) hb); replace HB := aZ (below_step bB hb); (try clear hb); (try clear hb2); (try clear hk); (try clear hi)))
      go_roundg k1
      case measure => have := HK1.out; omega
      case rel => exact ⟨(wrap64 (x5_1 + t498)), (wrap64 (x6_1 + 1)), rS, rS, H', ⟨by have := HK1.out; omega⟩, ⟨by refine kB ?_; exact BK496.out⟩, ⟨bB⟩⟩
     ·rw [if_neg c6] at H
      exact absurd H (by simp)
    ·rw [if_neg c5] at H
     have c5b0 : decide (x5_1 ≤ a1) = false := decide_eq_false c5
     clear c5
     obtain rfl := Option.some.inj H
     have hcz10_0 : wr.cell? ⟨gb496, 0, none⟩ = some (.int .u8 a0_0) := (blk_cell BK496.out 0).trans rfl
     have hcz10_1 : wr.cell? ⟨gb496, 1, none⟩ = some (.slice A0_1 l0_1.length c0_1) := (blk_cell BK496.out 1).trans rfl
     have hcz10_2 : wr.cell? ⟨gb496, 2, none⟩ = some (.slice A0_2 l0_2.length c0_2) := (blk_cell BK496.out 2).trans rfl
     have hfz10_0 := blk_frozen BK496.out 0
     have hfz10_1 := blk_frozen BK496.out 1
     have hfz10_2 := blk_frozen BK496.out 2
     go_wp2
     go_ret
     exact ⟨rF, bB⟩
   ·rw [if_neg c4] at H
    have c4b0 : decide (x6_1 < (l0_2.length : Int)) = false := decide_eq_false c4
    clear c4
    obtain rfl := Option.some.inj H
    have hcz11_0 : wr.cell? ⟨gb496, 0, none⟩ = some (.int .u8 a0_0) := (blk_cell BK496.out 0).trans rfl
    have hcz11_1 : wr.cell? ⟨gb496, 1, none⟩ = some (.slice A0_1 l0_1.length c0_1) := (blk_cell BK496.out 1).trans rfl
    have hcz11_2 : wr.cell? ⟨gb496, 2, none⟩ = some (.slice A0_2 l0_2.length c0_2) := (blk_cell BK496.out 2).trans rfl
    have hfz11_0 := blk_frozen BK496.out 0
    have hfz11_1 := blk_frozen BK496.out 1
    have hfz11_2 := blk_frozen BK496.out 2
    go_wp2
    go_ret
    exact ⟨rF, bB⟩
end Go.Proofs.YtkceebgncfggjaaDoor.PQ

