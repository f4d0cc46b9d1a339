/- LawNodesInner: texts of this claim, laid one behind the other by a program of this session's (wip/bundle.py): words, printed functions and plain laws that its theorem uses. No condition beside those in each theorem's own line. -/
import Derived.Test.YtkceebgncfggjaaDoorZJ1
import Derived.Test.YtkceebgncfggjaaDoorZJ2
import Derived.Test.YtkceebgncfggjaaDoorZJ3
import Derived.Test.YtkceebgncfggjaaDoorZJ4
import Derived.Test.YtkceebgncfggjaaDoorZJ5
import Derived.Test.YtkceebgncfggjaaDoorZJ6
set_option linter.unusedVariables false
set_option linter.unusedSimpArgs false
namespace Go.Proofs.YtkceebgncfggjaaDoor.PQ
open Go.RowKit Go.Proofs.YtkceebgncfggjaaDoorW.PrintWords Go.Proofs.YtkceebgncfggjaaDoorW.PrintLast Go.Proofs.YtkceebgncfggjaaDoorW.PrintMore Go.Proofs.YtkceebgncfggjaaDoorX
set_option maxHeartbeats 8000000
set_option maxRecDepth 100000
attribute [local go_sem] max2_int min2_int max_two min_two
mutual
def warderref04_Same.j0 : Nat → Bool → Int → List Int → List (S43) → Int → List Int → List (S43) → Option (Bool)
 | 0, _, _, _, _, _, _, _ => none
 | k + 1, x29, x462000, x462001, x462002, x463000, x463001, x463002 => if x29 = true then (some false) else (warderref04_Same.l0 k 0 x462000 x462001 x462002 x463000 x463001 x463002)
def warderref04_Same.l0 : Nat → Int → Int → List Int → List (S43) → Int → List Int → List (S43) → Option (Bool)
 | 0, _, _, _, _, _, _, _ => none
 | k + 1, x5, x462000, x462001, x462002, x463000, x463001, x463002 => if x5 < (x462002.length : Int) then (if 0 ≤ x5 then (if x5 < (x463002.length : Int) then ((warderref04_Same.f k ((rd_T43 x462002 x5).f0) ((rd_T43 x462002 x5).f1) ((rd_T43 x462002 x5).f2) ((rd_T43 x463002 x5).f0) ((rd_T43 x463002 x5).f1) ((rd_T43 x463002 x5).f2)).bind fun t465 => (if t465 = true then (warderref04_Same.l0 k (wrap64 (x5 + 1)) x462000 x462001 x462002 x463000 x463001 x463002) else (some false))) else (none)) else (none)) else (some true)
def warderref04_Same.f : Nat → Int → List Int → List (S43) → Int → List Int → List (S43) → Option (Bool)
 | 0, _, _, _, _, _, _ => none
 | k + 1, a0_0, l0_1, l0_2, a1_0, l1_1, l1_2 => if a0_0 = a1_0 then (if (strOfNums l0_1).toList = (strOfNums l1_1).toList then (warderref04_Same.j0 k ((l0_2.length : Int) != (l1_2.length : Int)) a0_0 l0_1 l0_2 a1_0 l1_1 l1_2) else (warderref04_Same.j0 k true a0_0 l0_1 l0_2 a1_0 l1_1 l1_2)) else (warderref04_Same.j0 k true a0_0 l0_1 l0_2 a1_0 l1_1 l1_2)
end
def warderref04_Same.T6 : Bool × List (List Nat × List Nat) := (true, [([], []), ([0], [0]), ([], []), ([1, 2], [1, 2]), ([3], [3]), ([], []), ([5], [5]), ([], []), ([6, 7], [6, 7]), ([8], [8]), ([4, 9], [4, 9]), ([10, 10, 0, 1, 2, 3, 4, 5, 6, 7, 8, 9, 10], [10])])
def warderref04_Same.B6 : List Nat := [0, 1, 0, 7, 15, 0, 32, 0, 224, 480, 1023, 2047]
theorem warderref04_Same.tab6 : rtab .any (opsOf Tryd.f25 6) = warderref04_Same.T6 := by kernel_rfl
theorem warderref04_Same.bits6 : waitsOk warderref04_Same.T6.2 warderref04_Same.B6 = true := by kernel_rfl
theorem warderref04_Same.calls (k : Nat) : ∀ (a0_0 : Int) (A0_1 : Option Addr) (c0_1 : Nat) (l0_1 : List Int) (A0_2 : Option Addr) (c0_2 : Nat) (l0_2 : List (S43)) (a1_0 : Int) (A1_1 : Option Addr) (c1_1 : Nat) (l1_1 : List Int) (A1_2 : Option Addr) (c1_2 : Nat) (l1_2 : List (S43)) (r : Bool) (w : World) (hr0_1 : Kd.C (Kd.int .u8) w A0_1 l0_1.length l0_1) (hc0_1 : l0_1.length ≤ c0_1) (hr0_2 : Kd.C k43 w A0_2 l0_2.length l0_2) (hc0_2 : l0_2.length ≤ c0_2) (hr1_1 : Kd.C (Kd.int .u8) w A1_1 l1_1.length l1_1) (hc1_1 : l1_1.length ≤ c1_1) (hr1_2 : Kd.C k43 w A1_2 l1_2.length l1_2) (hc1_2 : l1_2.length ≤ c1_2) (h : warderref04_Same.f k a0_0 l0_1 l0_2 a1_0 l1_1 l1_2 = some r),
  Calls Tryd.prog 25 #[.agg #[.int .u8 a0_0, .slice A0_1 l0_1.length c0_1, .slice A0_2 l0_2.length c0_2], .agg #[.int .u8 a1_0, .slice A1_1 l1_1.length c1_1, .slice A1_2 l1_2.length c1_2]] w fun e w' => e = .returned (.bool r) ∧ Below w.heap.size w w' := by
 induction k using Nat.strongRecOn with
 | _ k ih =>
 intro a0_0 A0_1 c0_1 l0_1 A0_2 c0_2 l0_2 a1_0 A1_1 c1_1 l1_1 A1_2 c1_2 l1_2 r w hr0_1 hc0_1 hr0_2 hc0_2 hr1_1 hc1_1 hr1_2 hc1_2 h
 cases k with
 | zero => exact absurd h (by simp [warderref04_Same.f])
 | succ k =>
 simp only [warderref04_Same.f] at h
 have hu43 := Tryd.underlying43
 have HR0_1 := aZ hr0_1
 have HC0_1 := aZ hc0_1
 clear hr0_1 hc0_1
 have HR0_2 := aZ hr0_2
 have HC0_2 := aZ hc0_2
 clear hr0_2 hc0_2
 have HR1_1 := aZ hr1_1
 have HC1_1 := aZ hc1_1
 clear hr1_1 hc1_1
 have HR1_2 := aZ hr1_2
 have HC1_2 := aZ hc1_2
 clear hr1_2 hc1_2
 have HB := aZ (Below.refl w.heap.size w)
 have H := h
 clear h
 have HC3 := aZ H
 clear H
 go_enter Tryd.func25, Tryd.ntmps25
 go_upto_region 1 with (first | ((with_reducible refine gD 2 rfl ?_); (try (refine gate_guard (by rfl) ?_; dsimp only)); refine bxE (N := 2) (cs := #[.int .u8 a0_0, .slice A0_1 l0_1.length c0_1, .slice A0_2 l0_2.length c0_2]) (t := 43) ?_; intro gb461 hg w4 hbox hb; have BK461 := aZ (hbox); have GW461 := aZ (gwB hg : w.heap.size ≤ gb461); have GE461 := aZ (gwB hg : w.heap.size ≤ gb461); replace HB := aZ (below_step bB hb); clear hb hbox hg) | ((with_reducible refine gD 3 rfl ?_); (try (refine gate_guard (by rfl) ?_; dsimp only)); refine bxE (N := 3) (cs := #[.int .u8 a1_0, .slice A1_1 l1_1.length c1_1, .slice A1_2 l1_2.length c1_2]) (t := 43) ?_; intro gb462 hg w5 hbox hb; have BK462 := aZ (hbox); have GW462 := aZ (gwB hg : w.heap.size ≤ gb462); have GE462 := aZ (gwB hg : w.heap.size ≤ gb462); replace HB := aZ (below_step bB hb); have NB461_462 := aZ (nbL BK461.out hg); have NB462_461 := aZ (nbR BK461.out hg); replace BK461 := aZ (bkB BK461.out hb); clear hb hbox hg))
 (try simp only [Act.put, List.setIfInBounds_toArray, List.set_cons_zero, List.set_cons_succ])
 go_cut [29] (fun v29 wc => ∃ (kq : Nat) (x29_2 : Bool), v29 = .bool x29_2 ∧ Aside0 (warderref04_Same.j0 kq x29_2 a0_0 l0_1 l0_2 a1_0 l1_1 l1_2 = some r) ∧ Aside0 (kq ≤ k) ∧ Aside0 (wc.heap[gb461]? = some (.cells #[.int .u8 a0_0, (.slice A0_1 l0_1.length c0_1), (.slice A0_2 l0_2.length c0_2)] 43 (0, 0))) ∧ Aside0 (wc.heap[gb462]? = some (.cells #[.int .u8 a1_0, (.slice A1_1 l1_1.length c1_1), (.slice A1_2 l1_2.length c1_2)] 43 (0, 0))) ∧ Aside0 (Below w.heap.size w wc))
 case first =>
  have H := HC3.out
  clear HC3
  by_cases c6 : a0_0 = a1_0
  ·rw [if_pos c6] at H
   have c6b0 : (a0_0 == a1_0) = true := beq_iff_eq.mpr c6
   have c6b1 : (a0_0 != a1_0) = false := bne_eq_false_iff_eq.mpr c6
   clear c6
   (first | rw [c6b0] | (simp only [i64_w, i32_w]; rw [c6b0]) | skip)
   by_cases c7 : (strOfNums l0_1).toList = (strOfNums l1_1).toList
   ·rw [if_pos c7] at H
    have c7b0 : ((strOfNums l0_1).toList == (strOfNums l1_1).toList) = true := beq_iff_eq.mpr c7
    have c7b1 : ((strOfNums l0_1).toList != (strOfNums l1_1).toList) = false := bne_eq_false_iff_eq.mpr c7
    clear c7
    have H' := aZ H
    clear H
    have hnb8 := NB461_462.out
    have hnc8 := NB462_461.out
    obtain ⟨hcz9_0, hcz9_1, hcz9_2⟩ := cz3 (w := w5) BK461.out
    obtain ⟨hfz9_0, hfz9_1, hfz9_2⟩ := fz3 BK461.out
    obtain ⟨hcz10_0, hcz10_1, hcz10_2⟩ := cz3 (w := w5) BK462.out
    obtain ⟨hfz10_0, hfz10_1, hfz10_2⟩ := fz3 BK462.out
    have hcv11 := Kd.C_string (P := Tryd.prog) (A := A0_1) (c := c0_1) Tryd.underlying24 Tryd.underlying5 Tryd.underlying9 (Kd.C_below HR0_1.out HB.out)
    have hcv12 := Kd.C_string (P := Tryd.prog) (A := A1_1) (c := c1_1) Tryd.underlying24 Tryd.underlying5 Tryd.underlying9 (Kd.C_below HR1_1.out HB.out)
    go_wp2
    go_meet
    case rel => exact ⟨_, (((l0_2.length : Int) != (l1_2.length : Int))), rS, H', ⟨by first | omega | exact Nat.le_refl _⟩, ⟨by refine kB ?_; exact BK461.out⟩, ⟨by refine kB ?_; exact BK462.out⟩, ⟨bB⟩⟩
   ·rw [if_neg c7] at H
    have c7b0 : ((strOfNums l0_1).toList == (strOfNums l1_1).toList) = false := beq_eq_false_iff_ne.mpr c7
    have c7b1 : ((strOfNums l0_1).toList != (strOfNums l1_1).toList) = true := bne_iff_ne.mpr c7
    have H' := aZ H
    clear H
    have hnb13 := NB461_462.out
    have hnc13 := NB462_461.out
    obtain ⟨hcz14_0, hcz14_1, hcz14_2⟩ := cz3 (w := w5) BK461.out
    obtain ⟨hfz14_0, hfz14_1, hfz14_2⟩ := fz3 BK461.out
    obtain ⟨hcz15_0, hcz15_1, hcz15_2⟩ := cz3 (w := w5) BK462.out
    obtain ⟨hfz15_0, hfz15_1, hfz15_2⟩ := fz3 BK462.out
    have hcv16 := Kd.C_string (P := Tryd.prog) (A := A0_1) (c := c0_1) Tryd.underlying24 Tryd.underlying5 Tryd.underlying9 (Kd.C_below HR0_1.out HB.out)
    have hcv17 := Kd.C_string (P := Tryd.prog) (A := A1_1) (c := c1_1) Tryd.underlying24 Tryd.underlying5 Tryd.underlying9 (Kd.C_below HR1_1.out HB.out)
    go_wp2
    go_meet
    case rel => exact ⟨_, (true), rS, H', ⟨by first | omega | exact Nat.le_refl _⟩, ⟨by refine kB ?_; exact BK461.out⟩, ⟨by refine kB ?_; exact BK462.out⟩, ⟨bB⟩⟩
  ·rw [if_neg c6] at H
   have c6b0 : (a0_0 == a1_0) = false := beq_eq_false_iff_ne.mpr c6
   have c6b1 : (a0_0 != a1_0) = true := bne_iff_ne.mpr c6
   (first | rw [c6b0] | (simp only [i64_w, i32_w]; rw [c6b0]) | skip)
   have H' := aZ H
   clear H
   have hnb18 := NB461_462.out
   have hnc18 := NB462_461.out
   obtain ⟨hcz19_0, hcz19_1, hcz19_2⟩ := cz3 (w := w5) BK461.out
   obtain ⟨hfz19_0, hfz19_1, hfz19_2⟩ := fz3 BK461.out
   obtain ⟨hcz20_0, hcz20_1, hcz20_2⟩ := cz3 (w := w5) BK462.out
   obtain ⟨hfz20_0, hfz20_1, hfz20_2⟩ := fz3 BK462.out
   go_wp2
   go_meet
   case rel => exact ⟨_, (true), rS, H', ⟨by first | omega | exact Nat.le_refl _⟩, ⟨by refine kB ?_; exact BK461.out⟩, ⟨by refine kB ?_; exact BK462.out⟩, ⟨bB⟩⟩
 case rest =>
  clear HC3
  try clear c1
  try clear hcv1
  try clear c2
  try clear p2
  try clear c6
  try clear c6b0
  try clear c6b1
  try clear c7
  try clear c7b0
  try clear c7b1
  try clear c8
  try clear hcv11
  try clear hcv12
  try clear c13
  try clear hcv16
  try clear hcv17
  try clear c18
  try clear hcz10_0
  try clear hcz10_1
  try clear hcz10_2
  try clear hcz14_0
  try clear hcz14_1
  try clear hcz14_2
  try clear hcz15_0
  try clear hcz15_1
  try clear hcz15_2
  try clear hcz19_0
  try clear hcz19_1
  try clear hcz19_2
  try clear hcz20_0
  try clear hcz20_1
  try clear hcz20_2
  try clear hcz9_0
  try clear hcz9_1
  try clear hcz9_2
  try clear hfz10_0
  try clear hfz10_1
  try clear hfz10_2
  try clear hfz14_0
  try clear hfz14_1
  try clear hfz14_2
  try clear hfz15_0
  try clear hfz15_1
  try clear hfz15_2
  try clear hfz19_0
  try clear hfz19_1
  try clear hfz19_2
  try clear hfz20_0
  try clear hfz20_1
  try clear hfz20_2
  try clear hfz9_0
  try clear hfz9_1
  try clear hfz9_2
  obtain ⟨kq, x29_2, rfl, HA, HJ2, BK461, BK462, HB⟩ := hcut
  cases kq with
  | zero => exact absurd HA.out (by simp [warderref04_Same.j0])
  | succ kj2 =>
   have H := HA.out
   clear HA
   simp only [warderref04_Same.j0] at H
   by_cases c21 : x29_2 = true
   ·subst c21
    rw [if_pos rfl] at H
    obtain rfl := Option.some.inj H
    go_wp2
    go_ret
    exact ⟨rF, bB⟩
   ·replace c21 := Bool.eq_false_iff.mpr c21
    subst c21
    rw [if_neg (show ¬ (false = true) by decide)] at H
    have H' := aZ H
    clear H
    go_wp2
    go_loopg [5] kj2 (fun kq v5 w' => ∃ (x5_2 : Int), v5 = .int .i64 x5_2 ∧ Aside0 (warderref04_Same.l0 kq x5_2 a0_0 l0_1 l0_2 a1_0 l1_1 l1_2 = some r) ∧ Aside0 (kq ≤ kj2) ∧ Aside0 (w'.heap[gb461]? = some (.cells #[.int .u8 a0_0, (.slice A0_1 l0_1.length c0_1), (.slice A0_2 l0_2.length c0_2)] 43 (0, 0))) ∧ Aside0 (w'.heap[gb462]? = some (.cells #[.int .u8 a1_0, (.slice A1_1 l1_1.length c1_1), (.slice A1_2 l1_2.length c1_2)] 43 (0, 0))) ∧ Aside0 (Below w.heap.size w w'))
    case atStart => exact ⟨(0), rS, H', ⟨Nat.le_refl _⟩, ⟨by refine kB ?_; exact BK461.out⟩, ⟨by refine kB ?_; exact BK462.out⟩, ⟨bB⟩⟩
    case round =>
     clear H'
     try clear c1
     try clear hcv1
     try clear c2
     try clear p2
     try clear c6
     try clear c6b0
     try clear c6b1
     try clear c7
     try clear c7b0
     try clear c7b1
     try clear c8
     try clear hcv11
     try clear hcv12
     try clear c13
     try clear hcv16
     try clear hcv17
     try clear c18
     try clear c21
     try clear hcz10_0
     try clear hcz10_1
     try clear hcz10_2
     try clear hcz14_0
     try clear hcz14_1
     try clear hcz14_2
     try clear hcz15_0
     try clear hcz15_1
     try clear hcz15_2
     try clear hcz19_0
     try clear hcz19_1
     try clear hcz19_2
     try clear hcz20_0
     try clear hcz20_1
     try clear hcz20_2
     try clear hcz9_0
     try clear hcz9_1
     try clear hcz9_2
     try clear hfz10_0
     try clear hfz10_1
     try clear hfz10_2
     try clear hfz14_0
     try clear hfz14_1
     try clear hfz14_2
     try clear hfz15_0
     try clear hfz15_1
     try clear hfz15_2
     try clear hfz19_0
     try clear hfz19_1
     try clear hfz19_2
     try clear hfz20_0
     try clear hfz20_1
     try clear hfz20_2
     try clear hfz9_0
     try clear hfz9_1
     try clear hfz9_2
     try clear p2
     obtain ⟨x5_2, rfl, HA, HK2, BK461, BK462, HB⟩ := hrel
     cases gk with
     | zero => exact absurd HA.out (by simp [warderref04_Same.l0])
     | succ k2 =>
      have H := HA.out
      clear HA
      simp only [warderref04_Same.l0] at H
      by_cases c22 : x5_2 < (l0_2.length : Int)
      ·rw [if_pos c22] at H
       have c22b0 : decide (x5_2 < (l0_2.length : Int)) = true := decide_eq_true c22
       clear c22
       by_cases c23 : 0 ≤ x5_2
       ·rw [if_pos c23] at H
        have c23b0 : decide (0 ≤ x5_2) = true := decide_eq_true c23
        clear c23
        by_cases c24 : x5_2 < (l1_2.length : Int)
        ·rw [if_pos c24] at H
         have c24b0 : decide (x5_2 < (l1_2.length : Int)) = true := decide_eq_true c24
         clear c24
         replace H := Option.bind_eq_some_iff.mp H
         obtain ⟨t465, A250, H⟩ := H
         try dsimp only at H
         have A25 := aZ A250
         clear A250
         by_cases c26 : t465 = true
         ·subst c26
          rw [if_pos rfl] at H
          have H' := aZ H
          clear H
          have hnb27 := NB461_462.out
          have hnc27 := NB462_461.out
          obtain ⟨hcz28_0, hcz28_1, hcz28_2⟩ := cz3 (w := wr) BK461.out
          obtain ⟨hfz28_0, hfz28_1, hfz28_2⟩ := fz3 BK461.out
          try go_wp2
          replace BK461 := aZ (blk_drew BK461.out)
          replace BK462 := aZ (blk_drew BK462.out)
          replace HB := aZ (below_drew1 HB.out)
          have p463 : 0 ≤ (x5_2 : Int) := oD
          have q463 : x5_2 < (l0_2.length : Int) := oD
          obtain ⟨ad463, A463_1, c463_1, A463_2, c463_2, e463, hx463_0, hx463_1, hx463_2, hl463_1, hi463_1, hl463_2, hi463_2⟩ := at_T43 HR0_2.out x5_2 p463 q463
          have hw463_2 := hx463_2
          have hw463_1 := hx463_1
          have hw463_0 := hx463_0
          cases e463
          replace hx463_0 := (HB.out.cell (World.block_lt_of_cell? w _ hx463_0)).trans hx463_0
          replace hx463_1 := (HB.out.cell (World.block_lt_of_cell? w _ hx463_1)).trans hx463_1
          replace hx463_2 := (HB.out.cell (World.block_lt_of_cell? w _ hx463_2)).trans hx463_2
          have HR463_1 := aZ hi463_1
          have HC463_1 := aZ hl463_1
          clear hi463_1 hl463_1
          have HR463_2 := aZ hi463_2
          have HC463_2 := aZ hl463_2
          clear hi463_2 hl463_2
          replace p463 := eq_true p463
          replace q463 := eq_true q463
          have p464 : 0 ≤ (x5_2 : Int) := oD
          have q464 : x5_2 < (l1_2.length : Int) := oD
          obtain ⟨ad464, A464_1, c464_1, A464_2, c464_2, e464, hx464_0, hx464_1, hx464_2, hl464_1, hi464_1, hl464_2, hi464_2⟩ := at_T43 HR1_2.out x5_2 p464 q464
          have hw464_2 := hx464_2
          have hw464_1 := hx464_1
          have hw464_0 := hx464_0
          cases e464
          replace hx464_0 := (HB.out.cell (World.block_lt_of_cell? w _ hx464_0)).trans hx464_0
          replace hx464_1 := (HB.out.cell (World.block_lt_of_cell? w _ hx464_1)).trans hx464_1
          replace hx464_2 := (HB.out.cell (World.block_lt_of_cell? w _ hx464_2)).trans hx464_2
          have HR464_1 := aZ hi464_1
          have HC464_1 := aZ hl464_1
          clear hi464_1 hl464_1
          have HR464_2 := aZ hi464_2
          have HC464_2 := aZ hl464_2
          clear hi464_2 hl464_2
          replace p464 := eq_true p464
          replace q464 := eq_true q464
          refine start_ (n := 12) (S := fun w' => w'.cell? ⟨gb461, 0, none⟩ = some (.int .u8 a0_0) ∧ w'.cell? ⟨gb461, 1, none⟩ = some (.slice A0_1 l0_1.length c0_1) ∧ w'.cell? ⟨gb461, 2, none⟩ = some (.slice (some ad463) l0_2.length c0_2) ∧ w'.cell? ⟨gb462, 0, none⟩ = some (.int .u8 a1_0) ∧ w'.cell? ⟨gb462, 1, none⟩ = some (.slice A1_1 l1_1.length c1_1) ∧ w'.cell? ⟨gb462, 2, none⟩ = some (.slice (some ad464) l1_2.length c1_2) ∧ w'.cell? (ad463.add ((x5_2).toNat * 3)) = some (.int .u8 ((rd_T43 l0_2 x5_2).f0)) ∧ w'.cell? ⟨(ad463.add ((x5_2).toNat * 3)).block, (ad463.add ((x5_2).toNat * 3)).off + 1, none⟩ = some (.slice A463_1 ((rd_T43 l0_2 x5_2).f1).length c463_1) ∧ w'.cell? ⟨(ad463.add ((x5_2).toNat * 3)).block, (ad463.add ((x5_2).toNat * 3)).off + 2, none⟩ = some (.slice A463_2 ((rd_T43 l0_2 x5_2).f2).length c463_2) ∧ w'.cell? (ad464.add ((x5_2).toNat * 3)) = some (.int .u8 ((rd_T43 l1_2 x5_2).f0)) ∧ w'.cell? ⟨(ad464.add ((x5_2).toNat * 3)).block, (ad464.add ((x5_2).toNat * 3)).off + 1, none⟩ = some (.slice A464_1 ((rd_T43 l1_2 x5_2).f1).length c464_1) ∧ w'.cell? ⟨(ad464.add ((x5_2).toNat * 3)).block, (ad464.add ((x5_2).toNat * 3)).off + 2, none⟩ = some (.slice A464_2 ((rd_T43 l1_2 x5_2).f2).length c464_2)) (ds := []) #[false, false, false, false, false, false, false, false, false, false, false, false] (by kernel_rfl) rfl rfl ⟨(blk_cell BK461.out 0).trans rfl, (blk_cell BK461.out 1).trans rfl, (blk_cell BK461.out 2).trans rfl, (blk_cell BK462.out 0).trans rfl, (blk_cell BK462.out 1).trans rfl, (blk_cell BK462.out 2).trans rfl, ((HB.out.cell (World.block_lt_of_cell? w _ hw463_0)).trans hw463_0), ((HB.out.cell (World.block_lt_of_cell? w _ hw463_1)).trans hw463_1), ((HB.out.cell (World.block_lt_of_cell? w _ hw463_2)).trans hw463_2), ((HB.out.cell (World.block_lt_of_cell? w _ hw464_0)).trans hw464_0), ((HB.out.cell (World.block_lt_of_cell? w _ hw464_1)).trans hw464_1), ((HB.out.cell (World.block_lt_of_cell? w _ hw464_2)).trans hw464_2)⟩ (fun hHeld => ?_); refine with_tabW warderref04_Same.tab6 warderref04_Same.bits6 (fun HT_ HW_ => ?_)
          generalize wr.drew = w29 at BK461 BK462 HB HR463_1 HR463_2 HR464_1 HR464_2 hx463_0 hx463_1 hx463_2 hx464_0 hx464_1 hx464_2 hHeld ⊢
          refine pure_ (i := 0) (N := some 37) (v := ?_) (a' := ?_) #[true, false, false, false, false, false, false, false, false, false, false, false] rfl rfl (any_of HT_.out (by kernel_rfl)) (fun _ _ _ h => h) (Or.inl ⟨by rfl, ?_⟩) ?_ ?_
          rotate_left
          ·intro w'
           go_simp
           with_reducible rfl
          rotate_left
          ·simp only [Act.put, List.setIfInBounds_toArray, List.set_cons_zero, List.set_cons_succ, i64_w, i32_w]
           rfl
          refine pure_ (i := 2) (N := some 39) (v := ?_) (a' := ?_) #[true, false, true, false, false, false, false, false, false, false, false, false] rfl rfl (any_of HT_.out (by kernel_rfl)) (fun _ _ _ h => h) (Or.inl ⟨by rfl, ?_⟩) ?_ ?_
          rotate_left
          ·intro w'
           go_simp
           with_reducible rfl
          rotate_left
          ·simp only [Act.put, List.setIfInBounds_toArray, List.set_cons_zero, List.set_cons_succ, i64_w, i32_w]
           rfl
          refine pure_ (i := 5) (N := some 42) (v := ?_) (a' := ?_) #[true, false, true, false, false, true, false, false, false, false, false, false] rfl rfl (any_of HT_.out (by kernel_rfl)) (fun _ _ _ h => h) (Or.inl ⟨by rfl, ?_⟩) ?_ ?_
          rotate_left
          ·intro w'
           go_simp
           with_reducible rfl
          rotate_left
          ·simp only [Act.put, List.setIfInBounds_toArray, List.set_cons_zero, List.set_cons_succ, i64_w, i32_w]
           rfl
          refine pure_ (i := 7) (N := some 44) (v := ?_) (a' := ?_) #[true, false, true, false, false, true, false, true, false, false, false, false] rfl rfl (any_of HT_.out (by kernel_rfl)) (fun _ _ _ h => h) (Or.inl ⟨by rfl, ?_⟩) ?_ ?_
          rotate_left
          ·intro w'
           go_simp
           with_reducible rfl
          rotate_left
          ·simp only [Act.put, List.setIfInBounds_toArray, List.set_cons_zero, List.set_cons_succ, i64_w, i32_w]
           rfl
          refine take_ (i := 1) (N := some 38) (v := ?_) (a' := ?_) #[true, true, true, false, false, true, false, true, false, false, false, false] rfl rfl (take_ofW HT_.out HW_.out (by kernel_rfl)) (fun _ _ _ h => h) (Or.inl ⟨by rfl, ?_⟩) hHeld ?_ ?_
          rotate_left
          ·rintro w' ⟨s0, s1, s2, s3, s4, s5, s6, s7, s8, s9, s10, s11⟩
           go_simp
           with_reducible rfl
          rotate_left
          ·simp only [Act.put, List.setIfInBounds_toArray, List.set_cons_zero, List.set_cons_succ, i64_w, i32_w]
           rfl
          refine pure_ (i := 3) (N := some 40) (v := ?_) (a' := ?_) #[true, true, true, true, false, true, false, true, false, false, false, false] rfl rfl (any_of HT_.out (by kernel_rfl)) (fun _ _ _ h => h) (Or.inl ⟨by rfl, ?_⟩) ?_ ?_
          rotate_left
          ·intro w'
           go_simp
           with_reducible rfl
          rotate_left
          ·simp only [Act.put, List.setIfInBounds_toArray, List.set_cons_zero, List.set_cons_succ, i64_w, i32_w]
           rfl
          refine take_ (i := 4) (N := some 41) (v := ?_) (a' := ?_) #[true, true, true, true, true, true, false, true, false, false, false, false] rfl rfl (take_ofW HT_.out HW_.out (by kernel_rfl)) (fun _ _ _ h => h) (Or.inl ⟨by rfl, ?_⟩) hHeld ?_ ?_
          rotate_left
          ·rintro w' ⟨s0, s1, s2, s3, s4, s5, s6, s7, s8, s9, s10, s11⟩
           go_simp
           with_reducible rfl
          rotate_left
          ·simp only [Act.put, List.setIfInBounds_toArray, List.set_cons_zero, List.set_cons_succ, i64_w, i32_w]
           rfl
          refine take_ (i := 6) (N := some 43) (v := ?_) (a' := ?_) #[true, true, true, true, true, true, true, true, false, false, false, false] rfl rfl (take_ofW HT_.out HW_.out (by kernel_rfl)) (fun _ _ _ h => h) (Or.inl ⟨by rfl, ?_⟩) hHeld ?_ ?_
          rotate_left
          ·rintro w' ⟨s0, s1, s2, s3, s4, s5, s6, s7, s8, s9, s10, s11⟩
           go_simp
           with_reducible rfl
          rotate_left
          ·simp only [Act.put, List.setIfInBounds_toArray, List.set_cons_zero, List.set_cons_succ, i64_w, i32_w]
           rfl
          refine pure_ (i := 8) (N := some 45) (v := ?_) (a' := ?_) #[true, true, true, true, true, true, true, true, true, false, false, false] rfl rfl (any_of HT_.out (by kernel_rfl)) (fun _ _ _ h => h) (Or.inl ⟨by rfl, ?_⟩) ?_ ?_
          rotate_left
          ·intro w'
           go_simp
           with_reducible rfl
          rotate_left
          ·simp only [Act.put, List.setIfInBounds_toArray, List.set_cons_zero, List.set_cons_succ, i64_w, i32_w]
           rfl
          refine take_ (i := 9) (N := some 46) (v := ?_) (a' := ?_) #[true, true, true, true, true, true, true, true, true, true, false, false] rfl rfl (take_ofW HT_.out HW_.out (by kernel_rfl)) (fun _ _ _ h => h) (Or.inl ⟨by rfl, ?_⟩) hHeld ?_ ?_
          rotate_left
          ·rintro w' ⟨s0, s1, s2, s3, s4, s5, s6, s7, s8, s9, s10, s11⟩
           go_simp
           with_reducible rfl
          rotate_left
          ·simp only [Act.put, List.setIfInBounds_toArray, List.set_cons_zero, List.set_cons_succ, i64_w, i32_w]
           rfl
          refine one_ (i := 10) (N := some 47) #[true, true, true, true, true, true, true, true, true, true, true, false] rfl rfl (one_of HT_.out (by kernel_rfl)) (by decide) (fun K hK => ?_)
          refine goes_ Tryd.func25 (by kernel_rfl) rfl #[.agg #[.int .u8 ((rd_T43 l0_2 x5_2).f0), .slice A463_1 ((rd_T43 l0_2 x5_2).f1).length c463_1, .slice A463_2 ((rd_T43 l0_2 x5_2).f2).length c463_2], .agg #[.int .u8 ((rd_T43 l1_2 x5_2).f0), .slice A464_1 ((rd_T43 l1_2 x5_2).f1).length c464_1, .slice A464_2 ((rd_T43 l1_2 x5_2).f2).length c464_2]] (by rfl) rfl rfl aA ?_
          with_reducible refine (ih k2 (by have := HJ2.out; have := HK2.out; omega) ((rd_T43 l0_2 x5_2).f0) _ _ ((rd_T43 l0_2 x5_2).f1) _ _ ((rd_T43 l0_2 x5_2).f2) ((rd_T43 l1_2 x5_2).f0) _ _ ((rd_T43 l1_2 x5_2).f1) _ _ ((rd_T43 l1_2 x5_2).f2) true _ ?side1 ?side2 ?side3 ?side4 ?side5 ?side6 ?side7 ?side8 A25.out).mono ?_
          (case side1 => exact kC (Kd.C_below HR463_1.out HB.out))
          (case side2 => exact HC463_1.out)
          (case side3 => exact kC (Kd.C_below HR463_2.out HB.out))
          (case side4 => exact HC463_2.out)
          (case side5 => exact kC (Kd.C_below HR464_1.out HB.out))
          (case side6 => exact HC464_1.out)
          (case side7 => exact kC (Kd.C_below HR464_2.out HB.out))
          (case side8 => exact HC464_2.out)
          rintro e w30 ⟨rfl, hb⟩
          refine ⟨_, rfl, ?_⟩
          replace BK461 := aZ (bkB BK461.out hb)
          replace BK462 := aZ (bkB BK462.out hb)
          replace HB := aZ (below_step bB hb)
          (try clear hb)
          (try clear hb2)
          (try clear hk)
          (try clear hi)
          refine hK.out _ _ ⟨(blk_cell BK461.out 0).trans rfl, (blk_cell BK461.out 1).trans rfl, (blk_cell BK461.out 2).trans rfl, (blk_cell BK462.out 0).trans rfl, (blk_cell BK462.out 1).trans rfl, (blk_cell BK462.out 2).trans rfl, ((HB.out.cell (World.block_lt_of_cell? w _ hw463_0)).trans hw463_0), ((HB.out.cell (World.block_lt_of_cell? w _ hw463_1)).trans hw463_1), ((HB.out.cell (World.block_lt_of_cell? w _ hw463_2)).trans hw463_2), ((HB.out.cell (World.block_lt_of_cell? w _ hw464_0)).trans hw464_0), ((HB.out.cell (World.block_lt_of_cell? w _ hw464_1)).trans hw464_1), ((HB.out.cell (World.block_lt_of_cell? w _ hw464_2)).trans hw464_2)⟩ (fun hHeld => ?_)
          clear hK K
          refine norm_ (a' := ?_) ?_ ?_
          rotate_left
          ·show Act.put _ (some 47) _ = _
           simp only [Act.put, List.setIfInBounds_toArray, List.set_cons_zero, List.set_cons_succ, i64_w, i32_w]
           rfl
          refine pure_ (i := 11) (N := some 6) (v := ?_) (a' := ?_) #[true, true, true, true, true, true, true, true, true, true, true, true] rfl rfl (any_of HT_.out (by kernel_rfl)) (fun _ _ _ h => h) (Or.inl ⟨by rfl, ?_⟩) ?_ ?_
          rotate_left
          ·intro w'
           go_simp
           with_reducible rfl
          rotate_left
          ·simp only [Act.put, List.setIfInBounds_toArray, List.set_cons_zero, List.set_cons_succ, i64_w, i32_w]
           rfl
          refine done_ (done_of HT_.out (by kernel_rfl)) ?_
          try go_wp2
          go_roundg k2
          case measure => have := HJ2.out; have := HK2.out; omega
          case rel => exact ⟨(wrap64 (x5_2 + 1)), rS, H', ⟨by have := HJ2.out; have := HK2.out; omega⟩, ⟨by refine kB ?_; exact BK461.out⟩, ⟨by refine kB ?_; exact BK462.out⟩, ⟨bB⟩⟩
         ·replace c26 := Bool.eq_false_iff.mpr c26
          subst c26
          rw [if_neg (show ¬ (false = true) by decide)] at H
          obtain rfl := Option.some.inj H
          have hnb31 := NB461_462.out
          have hnc31 := NB462_461.out
          obtain ⟨hcz32_0, hcz32_1, hcz32_2⟩ := cz3 (w := wr) BK461.out
          obtain ⟨hfz32_0, hfz32_1, hfz32_2⟩ := fz3 BK461.out
          try go_wp2
          replace BK461 := aZ (blk_drew BK461.out)
          replace BK462 := aZ (blk_drew BK462.out)
          replace HB := aZ (below_drew1 HB.out)
          have p463 : 0 ≤ (x5_2 : Int) := oD
          have q463 : x5_2 < (l0_2.length : Int) := oD
          obtain ⟨ad463, A463_1, c463_1, A463_2, c463_2, e463, hx463_0, hx463_1, hx463_2, hl463_1, hi463_1, hl463_2, hi463_2⟩ := at_T43 HR0_2.out x5_2 p463 q463
          have hw463_2 := hx463_2
          have hw463_1 := hx463_1
          have hw463_0 := hx463_0
          cases e463
          replace hx463_0 := (HB.out.cell (World.block_lt_of_cell? w _ hx463_0)).trans hx463_0
          replace hx463_1 := (HB.out.cell (World.block_lt_of_cell? w _ hx463_1)).trans hx463_1
          replace hx463_2 := (HB.out.cell (World.block_lt_of_cell? w _ hx463_2)).trans hx463_2
          have HR463_1 := aZ hi463_1
          have HC463_1 := aZ hl463_1
          clear hi463_1 hl463_1
          have HR463_2 := aZ hi463_2
          have HC463_2 := aZ hl463_2
          clear hi463_2 hl463_2
          replace p463 := eq_true p463
          replace q463 := eq_true q463
          have p464 : 0 ≤ (x5_2 : Int) := oD
          have q464 : x5_2 < (l1_2.length : Int) := oD
          obtain ⟨ad464, A464_1, c464_1, A464_2, c464_2, e464, hx464_0, hx464_1, hx464_2, hl464_1, hi464_1, hl464_2, hi464_2⟩ := at_T43 HR1_2.out x5_2 p464 q464
          have hw464_2 := hx464_2
          have hw464_1 := hx464_1
          have hw464_0 := hx464_0
          cases e464
          replace hx464_0 := (HB.out.cell (World.block_lt_of_cell? w _ hx464_0)).trans hx464_0
          replace hx464_1 := (HB.out.cell (World.block_lt_of_cell? w _ hx464_1)).trans hx464_1
          replace hx464_2 := (HB.out.cell (World.block_lt_of_cell? w _ hx464_2)).trans hx464_2
          have HR464_1 := aZ hi464_1
          have HC464_1 := aZ hl464_1
          clear hi464_1 hl464_1
          have HR464_2 := aZ hi464_2
          have HC464_2 := aZ hl464_2
          clear hi464_2 hl464_2
          replace p464 := eq_true p464
          replace q464 := eq_true q464
          refine start_ (n := 12) (S := fun w' => w'.cell? ⟨gb461, 0, none⟩ = some (.int .u8 a0_0) ∧ w'.cell? ⟨gb461, 1, none⟩ = some (.slice A0_1 l0_1.length c0_1) ∧ w'.cell? ⟨gb461, 2, none⟩ = some (.slice (some ad463) l0_2.length c0_2) ∧ w'.cell? ⟨gb462, 0, none⟩ = some (.int .u8 a1_0) ∧ w'.cell? ⟨gb462, 1, none⟩ = some (.slice A1_1 l1_1.length c1_1) ∧ w'.cell? ⟨gb462, 2, none⟩ = some (.slice (some ad464) l1_2.length c1_2) ∧ w'.cell? (ad463.add ((x5_2).toNat * 3)) = some (.int .u8 ((rd_T43 l0_2 x5_2).f0)) ∧ w'.cell? ⟨(ad463.add ((x5_2).toNat * 3)).block, (ad463.add ((x5_2).toNat * 3)).off + 1, none⟩ = some (.slice A463_1 ((rd_T43 l0_2 x5_2).f1).length c463_1) ∧ w'.cell? ⟨(ad463.add ((x5_2).toNat * 3)).block, (ad463.add ((x5_2).toNat * 3)).off + 2, none⟩ = some (.slice A463_2 ((rd_T43 l0_2 x5_2).f2).length c463_2) ∧ w'.cell? (ad464.add ((x5_2).toNat * 3)) = some (.int .u8 ((rd_T43 l1_2 x5_2).f0)) ∧ w'.cell? ⟨(ad464.add ((x5_2).toNat * 3)).block, (ad464.add ((x5_2).toNat * 3)).off + 1, none⟩ = some (.slice A464_1 ((rd_T43 l1_2 x5_2).f1).length c464_1) ∧ w'.cell? ⟨(ad464.add ((x5_2).toNat * 3)).block, (ad464.add ((x5_2).toNat * 3)).off + 2, none⟩ = some (.slice A464_2 ((rd_T43 l1_2 x5_2).f2).length c464_2)) (ds := []) #[false, false, false, false, false, false, false, false, false, false, false, false] (by kernel_rfl) rfl rfl ⟨(blk_cell BK461.out 0).trans rfl, (blk_cell BK461.out 1).trans rfl, (blk_cell BK461.out 2).trans rfl, (blk_cell BK462.out 0).trans rfl, (blk_cell BK462.out 1).trans rfl, (blk_cell BK462.out 2).trans rfl, ((HB.out.cell (World.block_lt_of_cell? w _ hw463_0)).trans hw463_0), ((HB.out.cell (World.block_lt_of_cell? w _ hw463_1)).trans hw463_1), ((HB.out.cell (World.block_lt_of_cell? w _ hw463_2)).trans hw463_2), ((HB.out.cell (World.block_lt_of_cell? w _ hw464_0)).trans hw464_0), ((HB.out.cell (World.block_lt_of_cell? w _ hw464_1)).trans hw464_1), ((HB.out.cell (World.block_lt_of_cell? w _ hw464_2)).trans hw464_2)⟩ (fun hHeld => ?_); refine with_tabW warderref04_Same.tab6 warderref04_Same.bits6 (fun HT_ HW_ => ?_)
          generalize wr.drew = w33 at BK461 BK462 HB HR463_1 HR463_2 HR464_1 HR464_2 hx463_0 hx463_1 hx463_2 hx464_0 hx464_1 hx464_2 hHeld ⊢
          refine pure_ (i := 0) (N := some 37) (v := ?_) (a' := ?_) #[true, false, false, false, false, false, false, false, false, false, false, false] rfl rfl (any_of HT_.out (by kernel_rfl)) (fun _ _ _ h => h) (Or.inl ⟨by rfl, ?_⟩) ?_ ?_
          rotate_left
          ·intro w'
           go_simp
           with_reducible rfl
          rotate_left
          ·simp only [Act.put, List.setIfInBounds_toArray, List.set_cons_zero, List.set_cons_succ, i64_w, i32_w]
           rfl
          refine pure_ (i := 2) (N := some 39) (v := ?_) (a' := ?_) #[true, false, true, false, false, false, false, false, false, false, false, false] rfl rfl (any_of HT_.out (by kernel_rfl)) (fun _ _ _ h => h) (Or.inl ⟨by rfl, ?_⟩) ?_ ?_
          rotate_left
          ·intro w'
           go_simp
           with_reducible rfl
          rotate_left
          ·simp only [Act.put, List.setIfInBounds_toArray, List.set_cons_zero, List.set_cons_succ, i64_w, i32_w]
           rfl
          refine pure_ (i := 5) (N := some 42) (v := ?_) (a' := ?_) #[true, false, true, false, false, true, false, false, false, false, false, false] rfl rfl (any_of HT_.out (by kernel_rfl)) (fun _ _ _ h => h) (Or.inl ⟨by rfl, ?_⟩) ?_ ?_
          rotate_left
          ·intro w'
           go_simp
           with_reducible rfl
          rotate_left
          ·simp only [Act.put, List.setIfInBounds_toArray, List.set_cons_zero, List.set_cons_succ, i64_w, i32_w]
           rfl
          refine pure_ (i := 7) (N := some 44) (v := ?_) (a' := ?_) #[true, false, true, false, false, true, false, true, false, false, false, false] rfl rfl (any_of HT_.out (by kernel_rfl)) (fun _ _ _ h => h) (Or.inl ⟨by rfl, ?_⟩) ?_ ?_
          rotate_left
          ·intro w'
           go_simp
           with_reducible rfl
          rotate_left
          ·simp only [Act.put, List.setIfInBounds_toArray, List.set_cons_zero, List.set_cons_succ, i64_w, i32_w]
           rfl
          refine take_ (i := 1) (N := some 38) (v := ?_) (a' := ?_) #[true, true, true, false, false, true, false, true, false, false, false, false] rfl rfl (take_ofW HT_.out HW_.out (by kernel_rfl)) (fun _ _ _ h => h) (Or.inl ⟨by rfl, ?_⟩) hHeld ?_ ?_
          rotate_left
          ·rintro w' ⟨s0, s1, s2, s3, s4, s5, s6, s7, s8, s9, s10, s11⟩
           go_simp
           with_reducible rfl
          rotate_left
          ·simp only [Act.put, List.setIfInBounds_toArray, List.set_cons_zero, List.set_cons_succ, i64_w, i32_w]
           rfl
          refine pure_ (i := 3) (N := some 40) (v := ?_) (a' := ?_) #[true, true, true, true, false, true, false, true, false, false, false, false] rfl rfl (any_of HT_.out (by kernel_rfl)) (fun _ _ _ h => h) (Or.inl ⟨by rfl, ?_⟩) ?_ ?_
          rotate_left
          ·intro w'
           go_simp
           with_reducible rfl
          rotate_left
          ·simp only [Act.put, List.setIfInBounds_toArray, List.set_cons_zero, List.set_cons_succ, i64_w, i32_w]
           rfl
          refine take_ (i := 4) (N := some 41) (v := ?_) (a' := ?_) #[true, true, true, true, true, true, false, true, false, false, false, false] rfl rfl (take_ofW HT_.out HW_.out (by kernel_rfl)) (fun _ _ _ h => h) (Or.inl ⟨by rfl, ?_⟩) hHeld ?_ ?_
          rotate_left
          ·rintro w' ⟨s0, s1, s2, s3, s4, s5, s6, s7, s8, s9, s10, s11⟩
           go_simp
           with_reducible rfl
          rotate_left
          ·simp only [Act.put, List.setIfInBounds_toArray, List.set_cons_zero, List.set_cons_succ, i64_w, i32_w]
           rfl
          refine take_ (i := 6) (N := some 43) (v := ?_) (a' := ?_) #[true, true, true, true, true, true, true, true, false, false, false, false] rfl rfl (take_ofW HT_.out HW_.out (by kernel_rfl)) (fun _ _ _ h => h) (Or.inl ⟨by rfl, ?_⟩) hHeld ?_ ?_
          rotate_left
          ·rintro w' ⟨s0, s1, s2, s3, s4, s5, s6, s7, s8, s9, s10, s11⟩
           go_simp
           with_reducible rfl
          rotate_left
          ·simp only [Act.put, List.setIfInBounds_toArray, List.set_cons_zero, List.set_cons_succ, i64_w, i32_w]
           rfl
          refine pure_ (i := 8) (N := some 45) (v := ?_) (a' := ?_) #[true, true, true, true, true, true, true, true, true, false, false, false] rfl rfl (any_of HT_.out (by kernel_rfl)) (fun _ _ _ h => h) (Or.inl ⟨by rfl, ?_⟩) ?_ ?_
          rotate_left
          ·intro w'
           go_simp
           with_reducible rfl
          rotate_left
          ·simp only [Act.put, List.setIfInBounds_toArray, List.set_cons_zero, List.set_cons_succ, i64_w, i32_w]
           rfl
          refine take_ (i := 9) (N := some 46) (v := ?_) (a' := ?_) #[true, true, true, true, true, true, true, true, true, true, false, false] rfl rfl (take_ofW HT_.out HW_.out (by kernel_rfl)) (fun _ _ _ h => h) (Or.inl ⟨by rfl, ?_⟩) hHeld ?_ ?_
          rotate_left
          ·rintro w' ⟨s0, s1, s2, s3, s4, s5, s6, s7, s8, s9, s10, s11⟩
           go_simp
           with_reducible rfl
          rotate_left
          ·simp only [Act.put, List.setIfInBounds_toArray, List.set_cons_zero, List.set_cons_succ, i64_w, i32_w]
           rfl
          refine one_ (i := 10) (N := some 47) #[true, true, true, true, true, true, true, true, true, true, true, false] rfl rfl (one_of HT_.out (by kernel_rfl)) (by decide) (fun K hK => ?_)
          refine goes_ Tryd.func25 (by kernel_rfl) rfl #[.agg #[.int .u8 ((rd_T43 l0_2 x5_2).f0), .slice A463_1 ((rd_T43 l0_2 x5_2).f1).length c463_1, .slice A463_2 ((rd_T43 l0_2 x5_2).f2).length c463_2], .agg #[.int .u8 ((rd_T43 l1_2 x5_2).f0), .slice A464_1 ((rd_T43 l1_2 x5_2).f1).length c464_1, .slice A464_2 ((rd_T43 l1_2 x5_2).f2).length c464_2]] (by rfl) rfl rfl aA ?_
          with_reducible refine (ih k2 (by have := HJ2.out; have := HK2.out; omega) ((rd_T43 l0_2 x5_2).f0) _ _ ((rd_T43 l0_2 x5_2).f1) _ _ ((rd_T43 l0_2 x5_2).f2) ((rd_T43 l1_2 x5_2).f0) _ _ ((rd_T43 l1_2 x5_2).f1) _ _ ((rd_T43 l1_2 x5_2).f2) false _ ?side1 ?side2 ?side3 ?side4 ?side5 ?side6 ?side7 ?side8 A25.out).mono ?_
          (case side1 => exact kC (Kd.C_below HR463_1.out HB.out))
          (case side2 => exact HC463_1.out)
          (case side3 => exact kC (Kd.C_below HR463_2.out HB.out))
          (case side4 => exact HC463_2.out)
          (case side5 => exact kC (Kd.C_below HR464_1.out HB.out))
          (case side6 => exact HC464_1.out)
          (case side7 => exact kC (Kd.C_below HR464_2.out HB.out))
          (case side8 => exact HC464_2.out)
          rintro e w34 ⟨rfl, hb⟩
          refine ⟨_, rfl, ?_⟩
          replace BK461 := aZ (bkB BK461.out hb)
          replace BK462 := aZ (bkB BK462.out hb)
          replace HB := aZ (below_step bB hb)
          (try clear hb)
          (try clear hb2)
          (try clear hk)
          (try clear hi)
          refine hK.out _ _ ⟨(blk_cell BK461.out 0).trans rfl, (blk_cell BK461.out 1).trans rfl, (blk_cell BK461.out 2).trans rfl, (blk_cell BK462.out 0).trans rfl, (blk_cell BK462.out 1).trans rfl, (blk_cell BK462.out 2).trans rfl, ((HB.out.cell (World.block_lt_of_cell? w _ hw463_0)).trans hw463_0), ((HB.out.cell (World.block_lt_of_cell? w _ hw463_1)).trans hw463_1), ((HB.out.cell (World.block_lt_of_cell? w _ hw463_2)).trans hw463_2), ((HB.out.cell (World.block_lt_of_cell? w _ hw464_0)).trans hw464_0), ((HB.out.cell (World.block_lt_of_cell? w _ hw464_1)).trans hw464_1), ((HB.out.cell (World.block_lt_of_cell? w _ hw464_2)).trans hw464_2)⟩ (fun hHeld => ?_)
          clear hK K
          refine norm_ (a' := ?_) ?_ ?_
          rotate_left
          ·show Act.put _ (some 47) _ = _
           simp only [Act.put, List.setIfInBounds_toArray, List.set_cons_zero, List.set_cons_succ, i64_w, i32_w]
           rfl
          refine pure_ (i := 11) (N := some 6) (v := ?_) (a' := ?_) #[true, true, true, true, true, true, true, true, true, true, true, true] rfl rfl (any_of HT_.out (by kernel_rfl)) (fun _ _ _ h => h) (Or.inl ⟨by rfl, ?_⟩) ?_ ?_
          rotate_left
          ·intro w'
           go_simp
           with_reducible rfl
          rotate_left
          ·simp only [Act.put, List.setIfInBounds_toArray, List.set_cons_zero, List.set_cons_succ, i64_w, i32_w]
           rfl
          refine done_ (done_of HT_.out (by kernel_rfl)) ?_
          try go_wp2
          go_ret
          exact ⟨rF, bB⟩
        ·rw [if_neg c24] at H
         exact absurd H (by simp)
       ·rw [if_neg c23] at H
        exact absurd H (by simp)
      ·rw [if_neg c22] at H
       have c22b0 : decide (x5_2 < (l0_2.length : Int)) = false := decide_eq_false c22
       clear c22
       obtain rfl := Option.some.inj H
       have hnb35 := NB461_462.out
       have hnc35 := NB462_461.out
       obtain ⟨hcz36_0, hcz36_1, hcz36_2⟩ := cz3 (w := wr) BK461.out
       obtain ⟨hfz36_0, hfz36_1, hfz36_2⟩ := fz3 BK461.out
       go_wp2
       go_ret
       exact ⟨rF, bB⟩
end Go.Proofs.YtkceebgncfggjaaDoor.PQ

namespace Go.Proofs.YtkceebgncfggjaaDoor.PQ
open Go.RowKit Go.Proofs.YtkceebgncfggjaaDoorW.PrintWords Go.Proofs.YtkceebgncfggjaaDoorW.PrintLast Go.Proofs.YtkceebgncfggjaaDoorW.PrintMore Go.Proofs.YtkceebgncfggjaaDoorX
set_option maxHeartbeats 8000000
set_option maxRecDepth 100000
attribute [local go_sem] max2_int min2_int max_two min_two
mutual
def warderref04_Parts.l0 : Nat → Int → Int → Int → Int → List Int → List (S43) → Option (Int)
 | 0, _, _, _, _, _, _ => none
 | k + 1, x1, x5, x6, x497000, x497001, x497002 => if x6 < (x497002.length : Int) then (if x5 ≤ x1 then (if 0 ≤ x6 then ((warderref04_Parts.f k ((rd_T43 x497002 x6).f0) ((rd_T43 x497002 x6).f1) ((rd_T43 x497002 x6).f2) (wrap64 (x1 - x5))).bind fun t498 => (warderref04_Parts.l0 k x1 (wrap64 (x5 + t498)) (wrap64 (x6 + 1)) x497000 x497001 x497002)) else (none)) else (some x5)) else (some x5)
def warderref04_Parts.f : Nat → Int → List Int → List (S43) → Int → Option (Int)
 | 0, _, _, _, _ => none
 | k + 1, a0_0, l0_1, l0_2, a1 => warderref04_Parts.l0 k a1 1 0 a0_0 l0_1 l0_2
end
theorem warderref04_Parts.calls (k : Nat) : ∀ (a0_0 : Int) (A0_1 : Option Addr) (c0_1 : Nat) (l0_1 : List Int) (A0_2 : Option Addr) (c0_2 : Nat) (l0_2 : List (S43)) (a1 : Int) (r : Int) (w : World) (hr0_1 : Kd.C (Kd.int .u8) w A0_1 l0_1.length l0_1) (hc0_1 : l0_1.length ≤ c0_1) (hr0_2 : Kd.C k43 w A0_2 l0_2.length l0_2) (hc0_2 : l0_2.length ≤ c0_2) (h : warderref04_Parts.f k a0_0 l0_1 l0_2 a1 = some r),
  Calls Tryd.prog 26 #[.agg #[.int .u8 a0_0, .slice A0_1 l0_1.length c0_1, .slice A0_2 l0_2.length c0_2], .int .i64 a1] w fun e w' => e = .returned (.int .i64 r) ∧ Below w.heap.size w w' := by
 induction k using Nat.strongRecOn with
 | _ k ih =>
 intro a0_0 A0_1 c0_1 l0_1 A0_2 c0_2 l0_2 a1 r w hr0_1 hc0_1 hr0_2 hc0_2 h
 cases k with
 | zero => exact absurd h (by simp [warderref04_Parts.f])
 | succ k =>
 simp only [warderref04_Parts.f] at h
 have hu43 := Tryd.underlying43
 have HR0_1 := aZ hr0_1
 have HC0_1 := aZ hc0_1
 clear hr0_1 hc0_1
 have HR0_2 := aZ hr0_2
 have HC0_2 := aZ hc0_2
 clear hr0_2 hc0_2
 have HB := aZ (Below.refl w.heap.size w)
 have H := h
 clear h
 have H' := aZ H
 clear H
 go_enter Tryd.func26, Tryd.ntmps26
 go_wp2_with (first | ((with_reducible refine gD 2 rfl ?_); refine bxE (N := 2) (cs := #[.int .u8 a0_0, .slice A0_1 l0_1.length c0_1, .slice A0_2 l0_2.length c0_2]) (t := 43) ?_; intro gb496 hg w3 hbox hb; have BK496 := aZ (hbox); have GW496 := aZ (gwB hg : w.heap.size ≤ gb496); have GE496 := aZ (gwB hg : w.heap.size ≤ gb496); replace HB := aZ (below_step bB hb); clear hb hbox hg))
 go_loopg [5, 6] k (fun kq v5 v6 w' => ∃ (x5_1 : Int) (x6_1 : Int), v5 = .int .i64 x5_1 ∧ v6 = .int .i64 x6_1 ∧ Aside0 (warderref04_Parts.l0 kq a1 x5_1 x6_1 a0_0 l0_1 l0_2 = some r) ∧ Aside0 (kq ≤ k) ∧ Aside0 (w'.heap[gb496]? = some (.cells #[.int .u8 a0_0, (.slice A0_1 l0_1.length c0_1), (.slice A0_2 l0_2.length c0_2)] 43 (0, 0))) ∧ Aside0 (Below w.heap.size w w'))
 case atStart => exact ⟨(1), (0), rS, rS, H', ⟨Nat.le_refl _⟩, ⟨by refine kB ?_; exact BK496.out⟩, ⟨bB⟩⟩
 case round =>
  clear H'
  try clear c2
  try clear p2
  obtain ⟨x5_1, x6_1, rfl, rfl, HA, HK1, BK496, HB⟩ := hrel
  cases gk with
  | zero => exact absurd HA.out (by simp [warderref04_Parts.l0])
  | succ k1 =>
   have H := HA.out
   clear HA
   simp only [warderref04_Parts.l0] at H
   by_cases c4 : x6_1 < (l0_2.length : Int)
   ·rw [if_pos c4] at H
    have c4b0 : decide (x6_1 < (l0_2.length : Int)) = true := decide_eq_true c4
    clear c4
    by_cases c5 : x5_1 ≤ a1
    ·rw [if_pos c5] at H
     have c5b0 : decide (x5_1 ≤ a1) = true := decide_eq_true c5
     clear c5
     by_cases c6 : 0 ≤ x6_1
     ·rw [if_pos c6] at H
      have c6b0 : decide (0 ≤ x6_1) = true := decide_eq_true c6
      clear c6
      replace H := Option.bind_eq_some_iff.mp H
      obtain ⟨t498, A70, H⟩ := H
      try dsimp only at H
      have A7 := aZ A70
      clear A70
      have H' := aZ H
      clear H
      obtain ⟨hcz8_0, hcz8_1, hcz8_2⟩ := cz3 (w := wr) BK496.out
      obtain ⟨hfz8_0, hfz8_1, hfz8_2⟩ := fz3 BK496.out
      have p497 : 0 ≤ (x6_1 : Int) := oD
      have q497 : x6_1 < (l0_2.length : Int) := oD
      obtain ⟨ad497, A497_1, c497_1, A497_2, c497_2, e497, hx497_0, hx497_1, hx497_2, hl497_1, hi497_1, hl497_2, hi497_2⟩ := at_T43 HR0_2.out x6_1 p497 q497
      cases e497
      replace hx497_0 := (HB.out.cell (World.block_lt_of_cell? w _ hx497_0)).trans hx497_0
      replace hx497_1 := (HB.out.cell (World.block_lt_of_cell? w _ hx497_1)).trans hx497_1
      replace hx497_2 := (HB.out.cell (World.block_lt_of_cell? w _ hx497_2)).trans hx497_2
      have HR497_1 := aZ hi497_1
      have HC497_1 := aZ hl497_1
      clear hi497_1 hl497_1
      have HR497_2 := aZ hi497_2
      have HC497_2 := aZ hl497_2
      clear hi497_2 hl497_2
      replace p497 := eq_true p497
      replace q497 := eq_true q497
      go_wp2_with (first | ((with_reducible refine gC 26 rfl ?_); refine goL (some 28) Tryd.func26 #[.agg #[.int .u8 ((rd_T43 l0_2 x6_1).f0), .slice A497_1 ((rd_T43 l0_2 x6_1).f1).length c497_1, .slice A497_2 ((rd_T43 l0_2 x6_1).f2).length c497_2], .int .i64 (wrap64 (a1 - x5_1))] ?_; (with_reducible refine (ih k1 (by have := HK1.out; omega) ((rd_T43 l0_2 x6_1).f0) _ _ ((rd_T43 l0_2 x6_1).f1) _ _ ((rd_T43 l0_2 x6_1).f2) (wrap64 (a1 - x5_1)) t498 _ ?side1 ?side2 ?side3 ?side4 A7.out).mono ?_); (case side1 => exact kC (Kd.C_below HR497_1.out HB.out)); (case side2 => exact HC497_1.out); (case side3 => exact kC (Kd.C_below HR497_2.out HB.out)); (case side4 => exact HC497_2.out); rintro e w9 ⟨rfl, hb⟩; refine ⟨_, rfl, ?_⟩; replace BK496 := aZ (bkB BK496.out hb); replace HB := aZ (below_step bB hb); (try clear hb); (try clear hb2); (try clear hk); (try clear hi)))
      go_roundg k1
      case measure => have := HK1.out; omega
      case rel => exact ⟨(wrap64 (x5_1 + t498)), (wrap64 (x6_1 + 1)), rS, rS, H', ⟨by have := HK1.out; omega⟩, ⟨by refine kB ?_; exact BK496.out⟩, ⟨bB⟩⟩
     ·rw [if_neg c6] at H
      exact absurd H (by simp)
    ·rw [if_neg c5] at H
     have c5b0 : decide (x5_1 ≤ a1) = false := decide_eq_false c5
     clear c5
     obtain rfl := Option.some.inj H
     obtain ⟨hcz10_0, hcz10_1, hcz10_2⟩ := cz3 (w := wr) BK496.out
     obtain ⟨hfz10_0, hfz10_1, hfz10_2⟩ := fz3 BK496.out
     go_wp2
     go_ret
     exact ⟨rF, bB⟩
   ·rw [if_neg c4] at H
    have c4b0 : decide (x6_1 < (l0_2.length : Int)) = false := decide_eq_false c4
    clear c4
    obtain rfl := Option.some.inj H
    obtain ⟨hcz11_0, hcz11_1, hcz11_2⟩ := cz3 (w := wr) BK496.out
    obtain ⟨hfz11_0, hfz11_1, hfz11_2⟩ := fz3 BK496.out
    go_wp2
    go_ret
    exact ⟨rF, bB⟩
end Go.Proofs.YtkceebgncfggjaaDoor.PQ

