/- NodesSets: words, printed functions and plain laws that the claim uses, laid by a program of this session's. No condition beside those in each theorem's own line. -/
import Derived.Test.YtkceebgncfggjaaDoorZS15
import Derived.Test.YtkceebgncfggjaaDoorZS17
set_option linter.unusedVariables false
set_option linter.unusedSimpArgs false
namespace Go.Proofs.YtkceebgncfggjaaDoor.PQ
open Go.RowKit Go.Proofs.YtkceebgncfggjaaDoorW.PrintWords Go.Proofs.YtkceebgncfggjaaDoorW.PrintLast Go.Proofs.YtkceebgncfggjaaDoorW.PrintMore Go.Proofs.YtkceebgncfggjaaDoorX
set_option maxHeartbeats 8000000
set_option maxRecDepth 100000
attribute [local go_sem] max2_int min2_int max_two min_two
mutual
def nodes_printed.l0 : Nat → Int → List (List Int) → List (S43) → Int → Int → Int → List Int → List (S43) → Option (XR (List Int))
 | 0, _, _, _, _, _, _, _, _ => none
 | k + 1, x1, x7, x53, x54, x55, x526000, x526001, x526002 => if x55 < x54 then (if 0 ≤ x55 then (if x55 < (x53.length : Int) then (bindX (nodes_printed.f k ((rd_T43 x53 x55).f0) ((rd_T43 x53 x55).f1) ((rd_T43 x53 x55).f2) (wrap64 (x1 + 1))) fun t538 => (if x7.length < 5864062014805 then (nodes_printed.l0 k x1 (x7 ++ [t538]) x53 x54 (wrap64 (x55 + 1)) x526000 x526001 x526002) else (none))) else (none)) else (none)) else (bindX (nodes_rise.f k x526000 x7 0) fun _ => ((slices_Concat_byte_byte.f k x7).bind fun t544 => ((tlv_Put.f x526000 t544).bind fun bt547 => (bindX (nodes_must.f (bt547.2 == 0) bt547.2 0) fun _ => (some (.ok (bt547.1)))))))
def nodes_printed.f : Nat → Int → List Int → List (S43) → Int → Option (XR (List Int))
 | 0, _, _, _, _ => none
 | k + 1, a0_0, l0_1, l0_2, a1 => bindX (nodes_must.f (decide (a1 < 32)) 41 0) fun _ => (bindX (nodes_tagged.f k a0_0 0) fun _ => ((nodes_compound.f a0_0).bind fun t526 => (if t526 = true then (bindX (nodes_must.f ((l0_1.length : Int) == 0) 43 0) fun _ => (nodes_printed.l0 k a1 ([] : List (List Int)) l0_2 (l0_2.length : Int) 0 a0_0 l0_1 l0_2)) else (if (l0_2.length : Int) = 0 then ((nodes_right.f k a0_0 l0_1).bind fun t527 => (bindX (nodes_must.f t527 43 0) fun _ => ((tlv_Put.f a0_0 l0_1).bind fun bt528 => (bindX (nodes_must.f (bt528.2 == 0) bt528.2 0) fun _ => (some (.ok (bt528.1))))))) else (bindX (nodes_must.f false 43 0) fun _ => ((tlv_Put.f a0_0 l0_1).bind fun bt532 => (bindX (nodes_must.f (bt532.2 == 0) bt532.2 0) fun _ => (some (.ok (bt532.1))))))))))
end
def nodes_printed.T16 : Bool × List (List Nat × List Nat) := (true, [([], []), ([0], [0]), ([], []), ([2], [2]), ([1, 3, 3], [1, 3]), ([4], [4]), ([5], [5]), ([5], [5]), ([6, 4, 0, 1, 2, 3, 4, 5, 6], [6]), ([7, 8, 0, 1, 2, 3, 4, 5, 6, 7, 8], [7])])
def nodes_printed.B16 : List Nat := [0, 1, 0, 4, 15, 31, 63, 63, 127, 511]
theorem nodes_printed.tab16 : rtab .any (opsOf Tryd.f46 16) = nodes_printed.T16 := by kernel_rfl
theorem nodes_printed.bits16 : waitsOk nodes_printed.T16.2 nodes_printed.B16 = true := by kernel_rfl
theorem nodes_printed.calls (k : Nat) : ∀ (a0_0 : Int) (A0_1 : Option Addr) (c0_1 : Nat) (l0_1 : List Int) (A0_2 : Option Addr) (c0_2 : Nat) (l0_2 : List (S43)) (a1 : Int) (rr : XR (List Int)) (w : World) (hT : TabU w) (hr0_1 : Kd.C (Kd.int .u8) w A0_1 l0_1.length l0_1) (hc0_1 : l0_1.length ≤ c0_1) (hr0_2 : Kd.C k43 w A0_2 l0_2.length l0_2) (hc0_2 : l0_2.length ≤ c0_2) (h : nodes_printed.f k a0_0 l0_1 l0_2 a1 = some rr),
  Calls Tryd.prog 46 #[.agg #[.int .u8 a0_0, .slice A0_1 l0_1.length c0_1, .slice A0_2 l0_2.length c0_2], .int .i64 a1] w fun e w' => XR.post rr (fun r => ∃ v0_ : Value, e = .returned (v0_) ∧ Kd.R (Kd.int .u8) 5 w' w.heap.size (fun _ => True) v0_ r ∧ Below w.heap.size w w') (fun er_ => ErrX w er_ e w') := by
 induction k using Nat.strongRecOn with
 | _ k ih =>
 intro a0_0 A0_1 c0_1 l0_1 A0_2 c0_2 l0_2 a1 rr w hT hr0_1 hc0_1 hr0_2 hc0_2 h
 cases k with
 | zero => exact absurd h (by simp [nodes_printed.f])
 | succ k =>
 simp only [nodes_printed.f] at h
 have hu43 := Tryd.underlying43
 have HT := aZ hT
 clear hT
 have HR0_1 := aZ hr0_1
 have HC0_1 := aZ hc0_1
 clear hr0_1 hc0_1
 have HR0_2 := aZ hr0_2
 have HC0_2 := aZ hc0_2
 clear hr0_2 hc0_2
 have HB := aZ (Below.refl w.heap.size w)
 have H := h
 clear h
 rcases bindX_some H with ⟨er_, A30, H⟩ | ⟨_, A30, H⟩
 ·obtain rfl := H
  have A3 := aZ A30
  clear A30
  go_enter Tryd.func46, Tryd.ntmps46
  go_wp2_with (first | ((with_reducible refine gD 2 rfl ?_); refine bxE (N := 2) (cs := #[.int .u8 a0_0, .slice A0_1 l0_1.length c0_1, .slice A0_2 l0_2.length c0_2]) (t := 43) ?_; intro gb525 hg w4 hbox hb; have BK525 := aZ (hbox); have GW525 := aZ (gwB hg : w.heap.size ≤ gb525); have GE525 := aZ (gwB hg : w.heap.size ≤ gb525); replace HB := aZ (below_step bB hb); clear hb hbox hg) | ((with_reducible refine gC 43 rfl ?_); refine goP (some 14) Tryd.func43 #[.bool (decide (a1 < 32)), .int .i64 41, .int .i64 0] ?_; (with_reducible refine (nodes_must.calls (decide (a1 < 32)) 41 0 (.error er_) _ A3.out).mono ?_); rintro e w' ⟨rfl, hbP⟩; refine ⟨_, rfl, ?_⟩; have HBP := below_step bB hbP))
  exact bodyPostX rfl ⟨rfl, HBP⟩
 ·try dsimp only at H
  have A3 := aZ A30
  clear A30
  rcases bindX_some H with ⟨er_, A50, H⟩ | ⟨_, A50, H⟩
  ·obtain rfl := H
   have A5 := aZ A50
   clear A50
   go_enter Tryd.func46, Tryd.ntmps46
   go_wp2_with (first | ((with_reducible refine gD 2 rfl ?_); refine bxE (N := 2) (cs := #[.int .u8 a0_0, .slice A0_1 l0_1.length c0_1, .slice A0_2 l0_2.length c0_2]) (t := 43) ?_; intro gb525 hg w6 hbox hb; have BK525 := aZ (hbox); have GW525 := aZ (gwB hg : w.heap.size ≤ gb525); have GE525 := aZ (gwB hg : w.heap.size ≤ gb525); replace HB := aZ (below_step bB hb); clear hb hbox hg) | ((with_reducible refine gC 43 rfl ?_); refine goL (some 14) Tryd.func43 #[.bool (decide (a1 < 32)), .int .i64 41, .int .i64 0] ?_; (with_reducible refine (nodes_must.calls (decide (a1 < 32)) 41 0 (.ok ()) _ A3.out).mono ?_); rintro e w' ⟨rfl, ⟨nd, rfl⟩⟩; refine ⟨_, rfl, ?_⟩; obtain ⟨hcz7_0, hcz7_1, hcz7_2⟩ := cz3 (w := w6) BK525.out; obtain ⟨hfz7_0, hfz7_1, hfz7_2⟩ := fz3 BK525.out) | ((with_reducible refine gC 52 rfl ?_); refine goP (some 17) Tryd.func52 #[.int .u8 a0_0, .int .i64 0] ?_; (with_reducible refine (nodes_tagged.calls k a0_0 0 (.error er_) _ A5.out).mono ?_); rintro e w' ⟨rfl, hbP⟩; refine ⟨_, rfl, ?_⟩; have HBP := below_step bB hbP))
   exact bodyPostX rfl ⟨rfl, HBP⟩
  ·try dsimp only at H
   have A5 := aZ A50
   clear A50
   replace H := Option.bind_eq_some_iff.mp H
   obtain ⟨t526, A80, H⟩ := H
   try dsimp only at H
   have A8 := aZ A80
   clear A80
   by_cases c9 : t526 = true
   ·subst c9
    rw [if_pos rfl] at H
    rcases bindX_some H with ⟨er_, A100, H⟩ | ⟨_, A100, H⟩
    ·obtain rfl := H
     have A10 := aZ A100
     clear A100
     go_enter Tryd.func46, Tryd.ntmps46
     go_wp2_with (first | ((with_reducible refine gD 2 rfl ?_); refine bxE (N := 2) (cs := #[.int .u8 a0_0, .slice A0_1 l0_1.length c0_1, .slice A0_2 l0_2.length c0_2]) (t := 43) ?_; intro gb525 hg w11 hbox hb; have BK525 := aZ (hbox); have GW525 := aZ (gwB hg : w.heap.size ≤ gb525); have GE525 := aZ (gwB hg : w.heap.size ≤ gb525); replace HB := aZ (below_step bB hb); clear hb hbox hg) | ((with_reducible refine gC 43 rfl ?_); refine goL (some 14) Tryd.func43 #[.bool (decide (a1 < 32)), .int .i64 41, .int .i64 0] ?_; (with_reducible refine (nodes_must.calls (decide (a1 < 32)) 41 0 (.ok ()) _ A3.out).mono ?_); rintro e w' ⟨rfl, ⟨nd, rfl⟩⟩; refine ⟨_, rfl, ?_⟩; obtain ⟨hcz12_0, hcz12_1, hcz12_2⟩ := cz3 (w := w11) BK525.out; obtain ⟨hfz12_0, hfz12_1, hfz12_2⟩ := fz3 BK525.out) | ((with_reducible refine gC 52 rfl ?_); refine goL (some 17) Tryd.func52 #[.int .u8 a0_0, .int .i64 0] ?_; (with_reducible refine (nodes_tagged.calls k a0_0 0 (.ok ()) _ A5.out).mono ?_); rintro e w13 ⟨rfl, hb⟩; refine ⟨_, rfl, ?_⟩; replace BK525 := aZ (bkB BK525.out hb); replace HB := aZ (below_step bB hb); (try clear hb); (try clear hb2); (try clear hk); (try clear hi); obtain ⟨hcz14_0, hcz14_1, hcz14_2⟩ := cz3 (w := w13) BK525.out; obtain ⟨hfz14_0, hfz14_1, hfz14_2⟩ := fz3 BK525.out) | ((with_reducible refine gC 53 rfl ?_); refine goL (some 20) Tryd.func53 #[.int .u8 a0_0] ?_; (with_reducible refine (nodes_compound.calls a0_0 true _ A8.out).mono ?_); rintro e w' ⟨rfl, ⟨nd, rfl⟩⟩; refine ⟨_, rfl, ?_⟩) | ((with_reducible refine gC 43 rfl ?_); refine goP (some 51) Tryd.func43 #[.bool ((l0_1.length : Int) == 0), .int .i64 43, .int .i64 0] ?_; (with_reducible refine (nodes_must.calls ((l0_1.length : Int) == 0) 43 0 (.error er_) _ A10.out).mono ?_); rintro e w' ⟨rfl, hbP⟩; refine ⟨_, rfl, ?_⟩; have HBP := below_step bB hbP))
     exact bodyPostX rfl ⟨rfl, HBP⟩
    ·try dsimp only at H
     have A10 := aZ A100
     clear A100
     have H' := aZ H
     clear H
     go_enter Tryd.func46, Tryd.ntmps46
     go_wp2_with (first | ((with_reducible refine gD 2 rfl ?_); refine bxE (N := 2) (cs := #[.int .u8 a0_0, .slice A0_1 l0_1.length c0_1, .slice A0_2 l0_2.length c0_2]) (t := 43) ?_; intro gb525 hg w15 hbox hb; have BK525 := aZ (hbox); have GW525 := aZ (gwB hg : w.heap.size ≤ gb525); have GE525 := aZ (gwB hg : w.heap.size ≤ gb525); replace HB := aZ (below_step bB hb); clear hb hbox hg) | ((with_reducible refine gC 43 rfl ?_); refine goL (some 14) Tryd.func43 #[.bool (decide (a1 < 32)), .int .i64 41, .int .i64 0] ?_; (with_reducible refine (nodes_must.calls (decide (a1 < 32)) 41 0 (.ok ()) _ A3.out).mono ?_); rintro e w' ⟨rfl, ⟨nd, rfl⟩⟩; refine ⟨_, rfl, ?_⟩; obtain ⟨hcz16_0, hcz16_1, hcz16_2⟩ := cz3 (w := w15) BK525.out; obtain ⟨hfz16_0, hfz16_1, hfz16_2⟩ := fz3 BK525.out) | ((with_reducible refine gC 52 rfl ?_); refine goL (some 17) Tryd.func52 #[.int .u8 a0_0, .int .i64 0] ?_; (with_reducible refine (nodes_tagged.calls k a0_0 0 (.ok ()) _ A5.out).mono ?_); rintro e w17 ⟨rfl, hb⟩; refine ⟨_, rfl, ?_⟩; replace BK525 := aZ (bkB BK525.out hb); replace HB := aZ (below_step bB hb); (try clear hb); (try clear hb2); (try clear hk); (try clear hi); obtain ⟨hcz18_0, hcz18_1, hcz18_2⟩ := cz3 (w := w17) BK525.out; obtain ⟨hfz18_0, hfz18_1, hfz18_2⟩ := fz3 BK525.out) | ((with_reducible refine gC 53 rfl ?_); refine goL (some 20) Tryd.func53 #[.int .u8 a0_0] ?_; (with_reducible refine (nodes_compound.calls a0_0 true _ A8.out).mono ?_); rintro e w' ⟨rfl, ⟨nd, rfl⟩⟩; refine ⟨_, rfl, ?_⟩) | ((with_reducible refine gC 43 rfl ?_); refine goL (some 51) Tryd.func43 #[.bool ((l0_1.length : Int) == 0), .int .i64 43, .int .i64 0] ?_; (with_reducible refine (nodes_must.calls ((l0_1.length : Int) == 0) 43 0 (.ok ()) _ A10.out).mono ?_); rintro e w' ⟨rfl, ⟨nd, rfl⟩⟩; refine ⟨_, rfl, ?_⟩))
     go_loopg [7, 55] k (fun kq v7 v55 w' => ∃ (x7_1 : List (List Int)) (x55_1 : Int), v55 = .int .i64 x55_1 ∧ Aside0 (nodes_printed.l0 kq a1 x7_1 l0_2 (l0_2.length : Int) x55_1 a0_0 l0_1 l0_2 = some rr) ∧ Aside0 (kq ≤ k) ∧ Aside0 (Kd.S (Kd.slice 5 (Kd.int .u8)) 24 w' w.heap.size (fun _ => True) v7 x7_1) ∧ Aside0 (w'.heap[gb525]? = some (.cells #[.int .u8 a0_0, (.slice A0_1 l0_1.length c0_1), (.slice A0_2 l0_2.length c0_2)] 43 (0, 0))) ∧ Aside0 (Below w.heap.size w w'))
     case atStart => exact ⟨(([] : List (List Int))), (0), rS, H', ⟨Nat.le_refl _⟩, ⟨by first | exact Kd.S_nil _ _ _ _ _ | exact Kd.N_nil _ _ _ _ _ | exact Kd.V_nil _ _ _ _ _ | exact Kd.Q_nil _ _ _ _ _ | exact Kd.R_nil _ _ _ _ _⟩, ⟨by refine kB ?_; exact BK525.out⟩, ⟨bB⟩⟩
     case round =>
      clear H'
      try clear p2
      try clear c4
      try clear c5
      try clear c9
      try clear hcz12_0
      try clear hcz12_1
      try clear hcz12_2
      try clear hcz14_0
      try clear hcz14_1
      try clear hcz14_2
      try clear hcz16_0
      try clear hcz16_1
      try clear hcz16_2
      try clear hcz18_0
      try clear hcz18_1
      try clear hcz18_2
      try clear hcz7_0
      try clear hcz7_1
      try clear hcz7_2
      try clear hfz12_0
      try clear hfz12_1
      try clear hfz12_2
      try clear hfz14_0
      try clear hfz14_1
      try clear hfz14_2
      try clear hfz16_0
      try clear hfz16_1
      try clear hfz16_2
      try clear hfz18_0
      try clear hfz18_1
      try clear hfz18_2
      try clear hfz7_0
      try clear hfz7_1
      try clear hfz7_2
      obtain ⟨x7_1, x55_1, rfl, HA, HK1, HO_7, BK525, HB⟩ := hrel
      cases gk with
      | zero => exact absurd HA.out (by simp [nodes_printed.l0])
      | succ k1 =>
       have H := HA.out
       clear HA
       simp only [nodes_printed.l0] at H
       by_cases c19 : x55_1 < (l0_2.length : Int)
       ·rw [if_pos c19] at H
        have c19b0 : decide (x55_1 < (l0_2.length : Int)) = true := decide_eq_true c19
        clear c19
        by_cases c20 : 0 ≤ x55_1
        ·rw [if_pos c20] at H
         have c20b0 : decide (0 ≤ x55_1) = true := decide_eq_true c20
         clear c20
         by_cases c21 : x55_1 < (l0_2.length : Int)
         ·rw [if_pos c21] at H
          have c21b0 : decide (x55_1 < (l0_2.length : Int)) = true := decide_eq_true c21
          clear c21
          rcases bindX_some H with ⟨er_, A220, H⟩ | ⟨t538, A220, H⟩
          ·obtain rfl := H
           have A22 := aZ A220
           clear A220
           have p536 : 0 ≤ (x55_1 : Int) := oD
           have q536 : x55_1 < (l0_2.length : Int) := oD
           obtain ⟨ad536, A536_1, c536_1, A536_2, c536_2, e536, hx536_0, hx536_1, hx536_2, hl536_1, hi536_1, hl536_2, hi536_2⟩ := at_T43 HR0_2.out x55_1 p536 q536
           cases e536
           replace hx536_0 := (HB.out.cell (World.block_lt_of_cell? w _ hx536_0)).trans hx536_0
           replace hx536_1 := (HB.out.cell (World.block_lt_of_cell? w _ hx536_1)).trans hx536_1
           replace hx536_2 := (HB.out.cell (World.block_lt_of_cell? w _ hx536_2)).trans hx536_2
           have HR536_1 := aZ hi536_1
           have HC536_1 := aZ hl536_1
           clear hi536_1 hl536_1
           have HR536_2 := aZ hi536_2
           have HC536_2 := aZ hl536_2
           clear hi536_2 hl536_2
           replace p536 := eq_true p536
           replace q536 := eq_true q536
           go_wp2_with (first | ((with_reducible refine gD 9 rfl ?_); refine bxE (N := 9) (cs := #[.int .u8 0, .slice none 0 0, .slice none 0 0]) (t := 43) ?_; intro gb537 hg w23 hbox hb; replace HO_7 := aZ (Kd.S_below (kS HO_7.out) hb); have BK537 := aZ (hbox); have GW537 := aZ (gwB hg : w.heap.size ≤ gb537); have GE537 := aZ (gwB hg : w.heap.size ≤ gb537); replace HB := aZ (below_step bB hb); have NB525_537 := aZ (nbL BK525.out hg); have NB537_525 := aZ (nbR BK525.out hg); replace BK525 := aZ (bkB BK525.out hb); clear hb hbox hg; have hnb24 := NB537_525.out; have hnc24 := NB525_537.out; obtain ⟨hcz25_0, hcz25_1, hcz25_2⟩ := cz3 (w := w23) BK537.out; obtain ⟨hfz25_0, hfz25_1, hfz25_2⟩ := fz3 BK537.out) | ((with_reducible refine gC 46 rfl ?_); refine goP (some 63) Tryd.func46 #[.agg #[.int .u8 ((rd_T43 l0_2 x55_1).f0), .slice A536_1 ((rd_T43 l0_2 x55_1).f1).length c536_1, .slice A536_2 ((rd_T43 l0_2 x55_1).f2).length c536_2], .int .i64 (wrap64 (a1 + 1))] ?_; (with_reducible refine (ih k1 (by have := HK1.out; omega) ((rd_T43 l0_2 x55_1).f0) _ _ ((rd_T43 l0_2 x55_1).f1) _ _ ((rd_T43 l0_2 x55_1).f2) (wrap64 (a1 + 1)) (.error er_) _ ?side1 ?side2 ?side3 ?side4 ?side5 A22.out).mono ?_); (case side1 => exact hTU); (case side2 => exact Kd.C_below HR536_1.out bB); (case side3 => exact HC536_1.out); (case side4 => exact Kd.C_below HR536_2.out bB); (case side5 => exact HC536_2.out); rintro e w' ⟨rfl, hbP⟩; refine ⟨_, rfl, ?_⟩; have HBP := below_step bB hbP))
           exact bodyPostX rfl ⟨rfl, HBP⟩
          ·try dsimp only at H
           have A22 := aZ A220
           clear A220
           by_cases c26 : x7_1.length < 5864062014805
           ·rw [if_pos c26] at H
            have LMc26 := aZ c26
            clear c26
            obtain ⟨y541, hy541⟩ : ∃ y_ : List (List Int), y_ = (x7_1 ++ [t538]) := ⟨_, rfl⟩
            replace H : (nodes_printed.l0 k1 a1 y541 l0_2 (l0_2.length : Int) (wrap64 (x55_1 + 1)) a0_0 l0_1 l0_2) = some rr := by first | (rw [hy541]; with_reducible exact H) | (have H2_ := (Option.bind_some _ _).symm.trans H; rw [hy541]; with_reducible exact H2_) | (have H2_ := (Option.bind_some _ _).symm.trans H; with_reducible exact H2_) | with_reducible exact H | (rw [hy541]; exact H) | exact H
            have Ny541 := aZ hy541
            clear hy541
            have H' := aZ H
            clear H
            have p536 : 0 ≤ (x55_1 : Int) := oD
            have q536 : x55_1 < (l0_2.length : Int) := oD
            obtain ⟨ad536, A536_1, c536_1, A536_2, c536_2, e536, hx536_0, hx536_1, hx536_2, hl536_1, hi536_1, hl536_2, hi536_2⟩ := at_T43 HR0_2.out x55_1 p536 q536
            cases e536
            replace hx536_0 := (HB.out.cell (World.block_lt_of_cell? w _ hx536_0)).trans hx536_0
            replace hx536_1 := (HB.out.cell (World.block_lt_of_cell? w _ hx536_1)).trans hx536_1
            replace hx536_2 := (HB.out.cell (World.block_lt_of_cell? w _ hx536_2)).trans hx536_2
            have HR536_1 := aZ hi536_1
            have HC536_1 := aZ hl536_1
            clear hi536_1 hl536_1
            have HR536_2 := aZ hi536_2
            have HC536_2 := aZ hl536_2
            clear hi536_2 hl536_2
            replace p536 := eq_true p536
            replace q536 := eq_true q536
            go_wp2_with (first | ((with_reducible refine gD 9 rfl ?_); refine bxE (N := 9) (cs := #[.int .u8 0, .slice none 0 0, .slice none 0 0]) (t := 43) ?_; intro gb537 hg w27 hbox hb; replace HO_7 := aZ (Kd.S_below (kS HO_7.out) hb); have BK537 := aZ (hbox); have GW537 := aZ (gwB hg : w.heap.size ≤ gb537); have GE537 := aZ (gwB hg : w.heap.size ≤ gb537); replace HB := aZ (below_step bB hb); have NB525_537 := aZ (nbL BK525.out hg); have NB537_525 := aZ (nbR BK525.out hg); replace BK525 := aZ (bkB BK525.out hb); clear hb hbox hg; have hnb28 := NB537_525.out; have hnc28 := NB525_537.out; obtain ⟨hcz29_0, hcz29_1, hcz29_2⟩ := cz3 (w := w27) BK537.out; obtain ⟨hfz29_0, hfz29_1, hfz29_2⟩ := fz3 BK537.out) | ((with_reducible refine gC 46 rfl ?_); refine goL (some 63) Tryd.func46 #[.agg #[.int .u8 ((rd_T43 l0_2 x55_1).f0), .slice A536_1 ((rd_T43 l0_2 x55_1).f1).length c536_1, .slice A536_2 ((rd_T43 l0_2 x55_1).f2).length c536_2], .int .i64 (wrap64 (a1 + 1))] ?_; (with_reducible refine (ih k1 (by have := HK1.out; omega) ((rd_T43 l0_2 x55_1).f0) _ _ ((rd_T43 l0_2 x55_1).f1) _ _ ((rd_T43 l0_2 x55_1).f2) (wrap64 (a1 + 1)) (.ok (t538)) _ ?side1 ?side2 ?side3 ?side4 ?side5 A22.out).mono ?_); (case side1 => exact hTU); (case side2 => exact Kd.C_below HR536_1.out bB); (case side3 => exact HC536_1.out); (case side4 => exact Kd.C_below HR536_2.out bB); (case side5 => exact HC536_2.out); rintro e w30 ⟨v539, rfl, ho0, hb⟩; refine ⟨_, rfl, ?_⟩; replace HO_7 := aZ (Kd.S_elder' (by refine kS ?_; exact (Kd.S_mono (Kd.S_far (p := ⟨gb537, 2, none⟩) (Kd.S_far (p := ⟨gb537, 1, none⟩) (Kd.S_far (p := ⟨gb537, 0, none⟩) (Kd.S_types HO_7.out BK537.out (by decide)) (fun _ hk => hk.2) (.int .u8 ((rd_T43 l0_2 x55_1).f0))) (fun _ hk => hk.2) (.slice A536_1 ((rd_T43 l0_2 x55_1).f1).length c536_1)) (fun _ hk => hk.2) (.slice A536_2 ((rd_T43 l0_2 x55_1).f2).length c536_2)) (fun _ h_ => h_.1))) (Kd.R_base ho0) hb); have HO540 := aZ (Kd.R_lower ho0 (below_size bB)); replace BK525 := aZ (blk_below (g := gb525) (o := .cells #[.int .u8 a0_0, .slice A0_1 l0_1.length c0_1, .slice (some ad536) l0_2.length c0_2] 43 (0, 0)) (by refine kB ?_; refine blk_far ?_ NB525_537.out _; refine kB ?_; refine blk_far ?_ NB525_537.out _; refine kB ?_; refine blk_far ?_ NB525_537.out _; refine kB ?_; exact BK525.out) hb); replace BK537 := aZ (blk_below (g := gb537) (o := .cells #[.int .u8 ((rd_T43 l0_2 x55_1).f0), .slice A536_1 ((rd_T43 l0_2 x55_1).f1).length c536_1, .slice A536_2 ((rd_T43 l0_2 x55_1).f2).length c536_2] 43 (0, 0)) (by refine kB ?_; refine blk_put (cs := #[.int .u8 ((rd_T43 l0_2 x55_1).f0), .slice A536_1 ((rd_T43 l0_2 x55_1).f1).length c536_1, .slice none 0 0]) ?_ 2 _ rfl; refine kB ?_; refine blk_put (cs := #[.int .u8 ((rd_T43 l0_2 x55_1).f0), .slice none 0 0, .slice none 0 0]) ?_ 1 _ rfl; refine kB ?_; refine blk_put (cs := #[.int .u8 0, .slice none 0 0, .slice none 0 0]) ?_ 0 _ rfl; refine kB ?_; exact BK537.out) hb); replace HB := aZ (below_step bB hb); (try clear hb); (try clear hb2); (try clear hk); (try clear hi); (try clear ho0); obtain ⟨Ao32, co32, eo32⟩ := Kd.R_slice HO540.out; subst eo32) | ((with_reducible refine gate_builtin (b := .append) (xs := #[.tmp 59, .tmp 64]) rfl ?_); at_builtin; refine Kd.S_append (Kd.slice 5 (Kd.int .u8)) (w0 := w) w.heap.size rfl (.tmp 59) (.tmp 64) 86 24 (.slice none 0 0) 24 rfl Tryd.underlying86 info24 rfl (by decide) (by omega) u7 x7_1 t538 [.slice Ao32 t538.length co32] (fun _ => True) (fun k_ => some k_ = (.slice Ao32 t538.length co32 : Value).ownBlock) rfl rfl ?aP (fun k_ hk_ => ((Kd.R_mono (ok' := fun k_ => ((fun _ => True)) k_ ∧ some k_ ≠ (u7 : Value).ownBlock) (Kd.R_apart' (HO540.out) (Kd.S_typed HO_7.out) (by decide)) (fun k_ hk => ⟨trivial, hk.2⟩))).1 k_ hk_.symm) ?aF ?aO ?aB ?aS ?aL ?_; (case aP => exact Kd.M_row (Kd.R_mono (Kd.R_tight rfl (Kd.R_mono (ok' := fun k_ => ((fun _ => True)) k_ ∧ some k_ ≠ (u7 : Value).ownBlock) (Kd.R_apart' (HO540.out) (Kd.S_typed HO_7.out) (by decide)) (fun k_ hk => ⟨trivial, hk.2⟩))) (fun _ h_ => h_))); (case aB => exact bB); (case aF => exact (fun _ _ => trivial)); (case aO => exact (by refine kS ?_; exact Kd.S_mono HO_7.out (fun k_ hk => ⟨trivial, fun e_ => hk.2 e_⟩))); (case aS => exact (below_size bB)); (case aL => have := LMc26.out; omega); intro v542 w31 ho hb hg hat; rw [← Ny541.out] at ho; replace BK525 := aZ (blk_grown (g := gb525) (o := .cells #[.int .u8 a0_0, .slice A0_1 l0_1.length c0_1, .slice (some ad536) l0_2.length c0_2] 43 (0, 0)) (kB BK525.out) hg (Kd.S_ne HO_7.out BK525.out (by decide))); replace BK537 := aZ (blk_grown (g := gb537) (o := .cells #[.int .u8 ((rd_T43 l0_2 x55_1).f0), .slice A536_1 ((rd_T43 l0_2 x55_1).f1).length c536_1, .slice A536_2 ((rd_T43 l0_2 x55_1).f2).length c536_2] 43 (0, 0)) (kB BK537.out) hg (Kd.S_ne HO_7.out BK537.out (by decide))); replace HB := aZ (hb); have HO543 := aZ (ho); clear HO_7 HO540; clear ho hb hg hat))
            go_roundg k1
            case measure => have := HK1.out; omega
            case rel => exact ⟨(y541), (wrap64 (x55_1 + 1)), rS, H', ⟨by have := HK1.out; omega⟩, ⟨by refine kS ?_; exact HO543.out⟩, ⟨by refine kB ?_; exact BK525.out⟩, ⟨bB⟩⟩
           ·rw [if_neg c26] at H
            exact absurd H (by simp)
         ·rw [if_neg c21] at H
          exact absurd H (by simp)
        ·rw [if_neg c20] at H
         exact absurd H (by simp)
       ·rw [if_neg c19] at H
        have c19b0 : decide (x55_1 < (l0_2.length : Int)) = false := decide_eq_false c19
        clear c19
        rcases bindX_some H with ⟨er_, A330, H⟩ | ⟨_, A330, H⟩
        ·obtain rfl := H
         have A33 := aZ A330
         clear A330
         obtain ⟨hcz34_0, hcz34_1, hcz34_2⟩ := cz3 (w := wr) BK525.out
         obtain ⟨hfz34_0, hfz34_1, hfz34_2⟩ := fz3 BK525.out
         obtain ⟨Ao35, co35, eo35⟩ := Kd.S_slice HO_7.out
         subst eo35
         go_wp2_with (first | ((with_reducible refine gC 56 rfl ?_); refine goP (some 70) Tryd.func56 #[.int .u8 a0_0, .slice Ao35 x7_1.length co35, .int .i64 0] ?_; (with_reducible refine (nodes_rise.calls k1 a0_0 _ _ x7_1 0 (.error er_) _ ?side1 ?side2 A33.out).mono ?_); (case side1 => exact kC (Kd.S_reads' HO_7.out).2.2); (case side2 => exact (Kd.S_reads' HO_7.out).2.1); rintro e w' ⟨rfl, hbP⟩; refine ⟨_, rfl, ?_⟩; have HBP := below_step bB hbP))
         exact bodyPostX rfl ⟨rfl, HBP⟩
        ·try dsimp only at H
         have A33 := aZ A330
         clear A330
         replace H := Option.bind_eq_some_iff.mp H
         obtain ⟨t544, A360, H⟩ := H
         try dsimp only at H
         have A36 := aZ A360
         clear A360
         replace H := Option.bind_eq_some_iff.mp H
         obtain ⟨⟨t547, t548⟩, A370, H⟩ := H
         try dsimp only at H
         have A37 := aZ A370
         clear A370
         rcases bindX_some H with ⟨er_, A380, H⟩ | ⟨_, A380, H⟩
         ·obtain rfl := H
          have A38 := aZ A380
          clear A380
          obtain ⟨hcz39_0, hcz39_1, hcz39_2⟩ := cz3 (w := wr) BK525.out
          obtain ⟨hfz39_0, hfz39_1, hfz39_2⟩ := fz3 BK525.out
          obtain ⟨Ao40, co40, eo40⟩ := Kd.S_slice HO_7.out
          subst eo40
          try go_wp2_with (first | ((with_reducible refine gC 56 rfl ?_); refine goL (some 70) Tryd.func56 #[.int .u8 a0_0, .slice Ao40 x7_1.length co40, .int .i64 0] ?_; (with_reducible refine (nodes_rise.calls k1 a0_0 _ _ x7_1 0 (.ok ()) _ ?side1 ?side2 A33.out).mono ?_); (case side1 => exact kC (Kd.S_reads' HO_7.out).2.2); (case side2 => exact (Kd.S_reads' HO_7.out).2.1); rintro e w41 ⟨rfl, hb⟩; refine ⟨_, rfl, ?_⟩; replace HO_7 := aZ (Kd.S_below (kS HO_7.out) hb); replace BK525 := aZ (bkB BK525.out hb); replace HB := aZ (below_step bB hb); (try clear hb); (try clear hb2); (try clear hk); (try clear hi)))
          replace HO_7 := aZ (Kd.S_drew HO_7.out)
          replace BK525 := aZ (blk_drew BK525.out)
          replace HB := aZ (below_drew1 HB.out)
          refine start_ (n := 10) (S := fun w' => w'.cell? ⟨gb525, 0, none⟩ = some (.int .u8 a0_0) ∧ w'.cell? ⟨gb525, 1, none⟩ = some (.slice A0_1 l0_1.length c0_1) ∧ w'.cell? ⟨gb525, 2, none⟩ = some (.slice A0_2 l0_2.length c0_2)) (ds := []) #[false, false, false, false, false, false, false, false, false, false] (by kernel_rfl) rfl rfl ⟨(blk_cell BK525.out 0).trans rfl, (blk_cell BK525.out 1).trans rfl, (blk_cell BK525.out 2).trans rfl⟩ (fun hHeld => ?_); refine with_tabW nodes_printed.tab16 nodes_printed.bits16 (fun HT_ HW_ => ?_)
          generalize w41.drew = w42 at HO_7 BK525 HB hHeld ⊢
          refine pure_ (i := 0) (N := some 72) (v := ?_) (a' := ?_) #[true, false, false, false, false, false, false, false, false, false] rfl rfl (any_of HT_.out (by kernel_rfl)) (fun _ _ _ h => h) (Or.inl ⟨by rfl, ?_⟩) ?_ ?_
          rotate_left
          ·intro w'
           go_simp
           with_reducible rfl
          rotate_left
          ·simp only [Act.put, List.setIfInBounds_toArray, List.set_cons_zero, List.set_cons_succ, i64_w, i32_w]
           rfl
          refine pure_ (i := 2) (N := some 74) (v := ?_) (a' := ?_) #[true, false, true, false, false, false, false, false, false, false] rfl rfl (any_of HT_.out (by kernel_rfl)) (fun _ _ _ h => h) (Or.inl ⟨by rfl, ?_⟩) ?_ ?_
          rotate_left
          ·intro w'
           go_simp
           with_reducible rfl
          rotate_left
          ·simp only [Act.put, List.setIfInBounds_toArray, List.set_cons_zero, List.set_cons_succ, i64_w, i32_w]
           rfl
          refine take_ (i := 1) (N := some 73) (v := ?_) (a' := ?_) #[true, true, true, false, false, false, false, false, false, false] rfl rfl (take_ofW HT_.out HW_.out (by kernel_rfl)) (fun _ _ _ h => h) (Or.inl ⟨by rfl, ?_⟩) hHeld ?_ ?_
          rotate_left
          ·rintro w' ⟨s0, s1, s2⟩
           go_simp
           with_reducible rfl
          rotate_left
          ·simp only [Act.put, List.setIfInBounds_toArray, List.set_cons_zero, List.set_cons_succ, i64_w, i32_w]
           rfl
          refine one_ (i := 3) (N := some 75) #[true, true, true, true, false, false, false, false, false, false] rfl rfl (one_of HT_.out (by kernel_rfl)) (by decide) (fun K hK => ?_)
          refine goes_ Tryd.func62 (by kernel_rfl) rfl #[.slice Ao40 x7_1.length co40] (by rfl) rfl rfl aA ?_
          with_reducible refine (slices_Concat_byte_byte.calls k1 _ _ x7_1 t544 _ ?side1 ?side2 A36.out).mono ?_
          (case side1 => exact kC (Kd.S_reads' HO_7.out).2.2)
          (case side2 => exact (Kd.S_reads' HO_7.out).2.1)
          rintro e w43 ⟨v545, rfl, ho0, hb⟩
          refine ⟨_, rfl, ?_⟩
          replace HO_7 := aZ (Kd.S_elder' (kS HO_7.out) (Kd.R_base ho0) hb)
          have HO546 := aZ (Kd.R_lower ho0 (below_size bB))
          replace BK525 := aZ (bkB BK525.out hb)
          replace HB := aZ (below_step bB hb)
          (try clear hb)
          (try clear hb2)
          (try clear hk)
          (try clear hi)
          (try clear ho0)
          obtain ⟨Ao44, co44, eo44⟩ := Kd.R_slice HO546.out
          (first | subst eo44 | (injection eo44 with f1_ f2_ f3_; have f4_ := f1_.symm; have f5_ := f3_.symm; clear f1_ f2_ f3_; subst f4_; subst f5_))
          refine hK.out _ _ ⟨(blk_cell BK525.out 0).trans rfl, (blk_cell BK525.out 1).trans rfl, (blk_cell BK525.out 2).trans rfl⟩ (fun hHeld => ?_)
          clear hK K
          refine norm_ (a' := ?_) ?_ ?_
          rotate_left
          ·show Act.put _ (some 75) _ = _
           simp only [Act.put, List.setIfInBounds_toArray, List.set_cons_zero, List.set_cons_succ, i64_w, i32_w]
           rfl
          refine one_ (i := 4) (N := some 76) #[true, true, true, true, true, false, false, false, false, false] rfl rfl (one_of HT_.out (by kernel_rfl)) (by decide) (fun K hK => ?_)
          refine goes_ Tryd.func61 (by kernel_rfl) rfl #[.int .u8 a0_0, .slice Ao44 t544.length co44] (by rfl) rfl rfl aA ?_
          with_reducible refine (tlv_Put.calls a0_0 _ _ t544 t547 t548 _ ?side1 ?side2 A37.out).mono ?_
          (case side1 => exact kC (Kd.R_reads' HO546.out).2.2)
          (case side2 => exact (Kd.R_reads' HO546.out).2.1)
          rintro e w45 ⟨v549, rfl, ho0, hb⟩
          refine ⟨_, rfl, ?_⟩
          replace HO_7 := aZ (Kd.S_elder' (kS HO_7.out) (Kd.R_base ho0) hb)
          have HO550 := aZ (Kd.R_lower (Kd.R_new' ho0 (Kd.R_lt (kR HO546.out))) (below_size bB))
          replace HO546 := aZ (Kd.R_elder' (kR HO546.out) (Kd.R_base ho0) hb)
          replace BK525 := aZ (bkB BK525.out hb)
          replace HB := aZ (below_step bB hb)
          (try clear hb)
          (try clear hb2)
          (try clear hk)
          (try clear hi)
          (try clear ho0)
          refine hK.out _ _ ⟨(blk_cell BK525.out 0).trans rfl, (blk_cell BK525.out 1).trans rfl, (blk_cell BK525.out 2).trans rfl⟩ (fun hHeld => ?_)
          clear hK K
          refine norm_ (a' := ?_) ?_ ?_
          rotate_left
          ·show Act.put _ (some 76) _ = _
           simp only [Act.put, List.setIfInBounds_toArray, List.set_cons_zero, List.set_cons_succ, i64_w, i32_w]
           rfl
          refine pure_ (i := 5) (N := some 71) (v := ?_) (a' := ?_) #[true, true, true, true, true, true, false, false, false, false] rfl rfl (any_of HT_.out (by kernel_rfl)) (fun _ _ _ h => h) (Or.inl ⟨by rfl, ?_⟩) ?_ ?_
          rotate_left
          ·intro w'
           go_simp
           with_reducible rfl
          rotate_left
          ·simp only [Act.put, List.setIfInBounds_toArray, List.set_cons_zero, List.set_cons_succ, i64_w, i32_w]
           rfl
          refine pure_ (i := 6) (N := some 77) (v := ?_) (a' := ?_) #[true, true, true, true, true, true, true, false, false, false] rfl rfl (any_of HT_.out (by kernel_rfl)) (fun _ _ _ h => h) (Or.inl ⟨by rfl, ?_⟩) ?_ ?_
          rotate_left
          ·intro w'
           go_simp
           with_reducible rfl
          rotate_left
          ·simp only [Act.put, List.setIfInBounds_toArray, List.set_cons_zero, List.set_cons_succ, i64_w, i32_w]
           rfl
          refine pure_ (i := 7) (N := some 78) (v := ?_) (a' := ?_) #[true, true, true, true, true, true, true, true, false, false] rfl rfl (any_of HT_.out (by kernel_rfl)) (fun _ _ _ h => h) (Or.inl ⟨by rfl, ?_⟩) ?_ ?_
          rotate_left
          ·intro w'
           go_simp
           with_reducible rfl
          rotate_left
          ·simp only [Act.put, List.setIfInBounds_toArray, List.set_cons_zero, List.set_cons_succ, i64_w, i32_w]
           rfl
          refine pure_ (i := 8) (N := some 10) (v := ?_) (a' := ?_) #[true, true, true, true, true, true, true, true, true, false] rfl rfl (any_of HT_.out (by kernel_rfl)) (fun _ _ _ h => h) (Or.inl ⟨by rfl, ?_⟩) ?_ ?_
          rotate_left
          ·intro w'
           go_simp
           with_reducible rfl
          rotate_left
          ·simp only [Act.put, List.setIfInBounds_toArray, List.set_cons_zero, List.set_cons_succ, i64_w, i32_w]
           rfl
          refine pure_ (i := 9) (N := some 11) (v := ?_) (a' := ?_) #[true, true, true, true, true, true, true, true, true, true] rfl rfl (any_of HT_.out (by kernel_rfl)) (fun _ _ _ h => h) (Or.inl ⟨by rfl, ?_⟩) ?_ ?_
          rotate_left
          ·intro w'
           go_simp
           with_reducible rfl
          rotate_left
          ·simp only [Act.put, List.setIfInBounds_toArray, List.set_cons_zero, List.set_cons_succ, i64_w, i32_w]
           rfl
          refine done_ (done_of HT_.out (by kernel_rfl)) ?_
          try go_wp2_with (first | ((with_reducible refine gC 43 rfl ?_); refine goP (some 82) Tryd.func43 #[.bool (t548 == 0), .int .i64 t548, .int .i64 0] ?_; (with_reducible refine (nodes_must.calls (t548 == 0) t548 0 (.error er_) _ A38.out).mono ?_); rintro e w' ⟨rfl, hbP⟩; refine ⟨_, rfl, ?_⟩; have HBP := below_step bB hbP))
          exact bodyPostX rfl ⟨rfl, HBP⟩
         ·try dsimp only at H
          have A38 := aZ A380
          clear A380
          obtain rfl := Option.some.inj H
          obtain ⟨hcz46_0, hcz46_1, hcz46_2⟩ := cz3 (w := wr) BK525.out
          obtain ⟨hfz46_0, hfz46_1, hfz46_2⟩ := fz3 BK525.out
          obtain ⟨Ao47, co47, eo47⟩ := Kd.S_slice HO_7.out
          subst eo47
          try go_wp2_with (first | ((with_reducible refine gC 56 rfl ?_); refine goL (some 70) Tryd.func56 #[.int .u8 a0_0, .slice Ao47 x7_1.length co47, .int .i64 0] ?_; (with_reducible refine (nodes_rise.calls k1 a0_0 _ _ x7_1 0 (.ok ()) _ ?side1 ?side2 A33.out).mono ?_); (case side1 => exact kC (Kd.S_reads' HO_7.out).2.2); (case side2 => exact (Kd.S_reads' HO_7.out).2.1); rintro e w48 ⟨rfl, hb⟩; refine ⟨_, rfl, ?_⟩; replace HO_7 := aZ (Kd.S_below (kS HO_7.out) hb); replace BK525 := aZ (bkB BK525.out hb); replace HB := aZ (below_step bB hb); (try clear hb); (try clear hb2); (try clear hk); (try clear hi)))
          replace HO_7 := aZ (Kd.S_drew HO_7.out)
          replace BK525 := aZ (blk_drew BK525.out)
          replace HB := aZ (below_drew1 HB.out)
          refine start_ (n := 10) (S := fun w' => w'.cell? ⟨gb525, 0, none⟩ = some (.int .u8 a0_0) ∧ w'.cell? ⟨gb525, 1, none⟩ = some (.slice A0_1 l0_1.length c0_1) ∧ w'.cell? ⟨gb525, 2, none⟩ = some (.slice A0_2 l0_2.length c0_2)) (ds := []) #[false, false, false, false, false, false, false, false, false, false] (by kernel_rfl) rfl rfl ⟨(blk_cell BK525.out 0).trans rfl, (blk_cell BK525.out 1).trans rfl, (blk_cell BK525.out 2).trans rfl⟩ (fun hHeld => ?_); refine with_tabW nodes_printed.tab16 nodes_printed.bits16 (fun HT_ HW_ => ?_)
          generalize w48.drew = w49 at HO_7 BK525 HB hHeld ⊢
          refine pure_ (i := 0) (N := some 72) (v := ?_) (a' := ?_) #[true, false, false, false, false, false, false, false, false, false] rfl rfl (any_of HT_.out (by kernel_rfl)) (fun _ _ _ h => h) (Or.inl ⟨by rfl, ?_⟩) ?_ ?_
          rotate_left
          ·intro w'
           go_simp
           with_reducible rfl
          rotate_left
          ·simp only [Act.put, List.setIfInBounds_toArray, List.set_cons_zero, List.set_cons_succ, i64_w, i32_w]
           rfl
          refine pure_ (i := 2) (N := some 74) (v := ?_) (a' := ?_) #[true, false, true, false, false, false, false, false, false, false] rfl rfl (any_of HT_.out (by kernel_rfl)) (fun _ _ _ h => h) (Or.inl ⟨by rfl, ?_⟩) ?_ ?_
          rotate_left
          ·intro w'
           go_simp
           with_reducible rfl
          rotate_left
          ·simp only [Act.put, List.setIfInBounds_toArray, List.set_cons_zero, List.set_cons_succ, i64_w, i32_w]
           rfl
          refine take_ (i := 1) (N := some 73) (v := ?_) (a' := ?_) #[true, true, true, false, false, false, false, false, false, false] rfl rfl (take_ofW HT_.out HW_.out (by kernel_rfl)) (fun _ _ _ h => h) (Or.inl ⟨by rfl, ?_⟩) hHeld ?_ ?_
          rotate_left
          ·rintro w' ⟨s0, s1, s2⟩
           go_simp
           with_reducible rfl
          rotate_left
          ·simp only [Act.put, List.setIfInBounds_toArray, List.set_cons_zero, List.set_cons_succ, i64_w, i32_w]
           rfl
          refine one_ (i := 3) (N := some 75) #[true, true, true, true, false, false, false, false, false, false] rfl rfl (one_of HT_.out (by kernel_rfl)) (by decide) (fun K hK => ?_)
          refine goes_ Tryd.func62 (by kernel_rfl) rfl #[.slice Ao47 x7_1.length co47] (by rfl) rfl rfl aA ?_
          with_reducible refine (slices_Concat_byte_byte.calls k1 _ _ x7_1 t544 _ ?side1 ?side2 A36.out).mono ?_
          (case side1 => exact kC (Kd.S_reads' HO_7.out).2.2)
          (case side2 => exact (Kd.S_reads' HO_7.out).2.1)
          rintro e w50 ⟨v545, rfl, ho0, hb⟩
          refine ⟨_, rfl, ?_⟩
          replace HO_7 := aZ (Kd.S_elder' (kS HO_7.out) (Kd.R_base ho0) hb)
          have HO546 := aZ (Kd.R_lower ho0 (below_size bB))
          replace BK525 := aZ (bkB BK525.out hb)
          replace HB := aZ (below_step bB hb)
          (try clear hb)
          (try clear hb2)
          (try clear hk)
          (try clear hi)
          (try clear ho0)
          obtain ⟨Ao51, co51, eo51⟩ := Kd.R_slice HO546.out
          (first | subst eo51 | (injection eo51 with f1_ f2_ f3_; have f4_ := f1_.symm; have f5_ := f3_.symm; clear f1_ f2_ f3_; subst f4_; subst f5_))
          refine hK.out _ _ ⟨(blk_cell BK525.out 0).trans rfl, (blk_cell BK525.out 1).trans rfl, (blk_cell BK525.out 2).trans rfl⟩ (fun hHeld => ?_)
          clear hK K
          refine norm_ (a' := ?_) ?_ ?_
          rotate_left
          ·show Act.put _ (some 75) _ = _
           simp only [Act.put, List.setIfInBounds_toArray, List.set_cons_zero, List.set_cons_succ, i64_w, i32_w]
           rfl
          refine one_ (i := 4) (N := some 76) #[true, true, true, true, true, false, false, false, false, false] rfl rfl (one_of HT_.out (by kernel_rfl)) (by decide) (fun K hK => ?_)
          refine goes_ Tryd.func61 (by kernel_rfl) rfl #[.int .u8 a0_0, .slice Ao51 t544.length co51] (by rfl) rfl rfl aA ?_
          with_reducible refine (tlv_Put.calls a0_0 _ _ t544 t547 t548 _ ?side1 ?side2 A37.out).mono ?_
          (case side1 => exact kC (Kd.R_reads' HO546.out).2.2)
          (case side2 => exact (Kd.R_reads' HO546.out).2.1)
          rintro e w52 ⟨v549, rfl, ho0, hb⟩
          refine ⟨_, rfl, ?_⟩
          replace HO_7 := aZ (Kd.S_elder' (kS HO_7.out) (Kd.R_base ho0) hb)
          have HO550 := aZ (Kd.R_lower (Kd.R_new' ho0 (Kd.R_lt (kR HO546.out))) (below_size bB))
          replace HO546 := aZ (Kd.R_elder' (kR HO546.out) (Kd.R_base ho0) hb)
          replace BK525 := aZ (bkB BK525.out hb)
          replace HB := aZ (below_step bB hb)
          (try clear hb)
          (try clear hb2)
          (try clear hk)
          (try clear hi)
          (try clear ho0)
          refine hK.out _ _ ⟨(blk_cell BK525.out 0).trans rfl, (blk_cell BK525.out 1).trans rfl, (blk_cell BK525.out 2).trans rfl⟩ (fun hHeld => ?_)
          clear hK K
          refine norm_ (a' := ?_) ?_ ?_
          rotate_left
          ·show Act.put _ (some 76) _ = _
           simp only [Act.put, List.setIfInBounds_toArray, List.set_cons_zero, List.set_cons_succ, i64_w, i32_w]
           rfl
          refine pure_ (i := 5) (N := some 71) (v := ?_) (a' := ?_) #[true, true, true, true, true, true, false, false, false, false] rfl rfl (any_of HT_.out (by kernel_rfl)) (fun _ _ _ h => h) (Or.inl ⟨by rfl, ?_⟩) ?_ ?_
          rotate_left
          ·intro w'
           go_simp
           with_reducible rfl
          rotate_left
          ·simp only [Act.put, List.setIfInBounds_toArray, List.set_cons_zero, List.set_cons_succ, i64_w, i32_w]
           rfl
          refine pure_ (i := 6) (N := some 77) (v := ?_) (a' := ?_) #[true, true, true, true, true, true, true, false, false, false] rfl rfl (any_of HT_.out (by kernel_rfl)) (fun _ _ _ h => h) (Or.inl ⟨by rfl, ?_⟩) ?_ ?_
          rotate_left
          ·intro w'
           go_simp
           with_reducible rfl
          rotate_left
          ·simp only [Act.put, List.setIfInBounds_toArray, List.set_cons_zero, List.set_cons_succ, i64_w, i32_w]
           rfl
          refine pure_ (i := 7) (N := some 78) (v := ?_) (a' := ?_) #[true, true, true, true, true, true, true, true, false, false] rfl rfl (any_of HT_.out (by kernel_rfl)) (fun _ _ _ h => h) (Or.inl ⟨by rfl, ?_⟩) ?_ ?_
          rotate_left
          ·intro w'
           go_simp
           with_reducible rfl
          rotate_left
          ·simp only [Act.put, List.setIfInBounds_toArray, List.set_cons_zero, List.set_cons_succ, i64_w, i32_w]
           rfl
          refine pure_ (i := 8) (N := some 10) (v := ?_) (a' := ?_) #[true, true, true, true, true, true, true, true, true, false] rfl rfl (any_of HT_.out (by kernel_rfl)) (fun _ _ _ h => h) (Or.inl ⟨by rfl, ?_⟩) ?_ ?_
          rotate_left
          ·intro w'
           go_simp
           with_reducible rfl
          rotate_left
          ·simp only [Act.put, List.setIfInBounds_toArray, List.set_cons_zero, List.set_cons_succ, i64_w, i32_w]
           rfl
          refine pure_ (i := 9) (N := some 11) (v := ?_) (a' := ?_) #[true, true, true, true, true, true, true, true, true, true] rfl rfl (any_of HT_.out (by kernel_rfl)) (fun _ _ _ h => h) (Or.inl ⟨by rfl, ?_⟩) ?_ ?_
          rotate_left
          ·intro w'
           go_simp
           with_reducible rfl
          rotate_left
          ·simp only [Act.put, List.setIfInBounds_toArray, List.set_cons_zero, List.set_cons_succ, i64_w, i32_w]
           rfl
          refine done_ (done_of HT_.out (by kernel_rfl)) ?_
          try go_wp2_with (first | ((with_reducible refine gC 43 rfl ?_); refine goL (some 82) Tryd.func43 #[.bool (t548 == 0), .int .i64 t548, .int .i64 0] ?_; (with_reducible refine (nodes_must.calls (t548 == 0) t548 0 (.ok ()) _ A38.out).mono ?_); rintro e w' ⟨rfl, ⟨nd, rfl⟩⟩; refine ⟨_, rfl, ?_⟩))
          go_ret
          refine XR.post_ok ?_
          exact ⟨_, rF, by refine kR ?_; exact Kd.R_mono HO550.out (fun _ hk => trivial), bB⟩
   ·replace c9 := Bool.eq_false_iff.mpr c9
    subst c9
    rw [if_neg (show ¬ (false = true) by decide)] at H
    by_cases c53 : (l0_2.length : Int) = 0
    ·rw [if_pos c53] at H
     have c53b0 : ((l0_2.length : Int) == 0) = true := beq_iff_eq.mpr c53
     have c53b1 : ((l0_2.length : Int) != 0) = false := bne_eq_false_iff_eq.mpr c53
     clear c53
     replace H := Option.bind_eq_some_iff.mp H
     obtain ⟨t527, A540, H⟩ := H
     try dsimp only at H
     have A54 := aZ A540
     clear A540
     rcases bindX_some H with ⟨er_, A550, H⟩ | ⟨_, A550, H⟩
     ·obtain rfl := H
      have A55 := aZ A550
      clear A550
      go_enter Tryd.func46, Tryd.ntmps46
      go_wp2_with (first | ((with_reducible refine gD 2 rfl ?_); refine bxE (N := 2) (cs := #[.int .u8 a0_0, .slice A0_1 l0_1.length c0_1, .slice A0_2 l0_2.length c0_2]) (t := 43) ?_; intro gb525 hg w56 hbox hb; have BK525 := aZ (hbox); have GW525 := aZ (gwB hg : w.heap.size ≤ gb525); have GE525 := aZ (gwB hg : w.heap.size ≤ gb525); replace HB := aZ (below_step bB hb); clear hb hbox hg) | ((with_reducible refine gC 43 rfl ?_); refine goL (some 14) Tryd.func43 #[.bool (decide (a1 < 32)), .int .i64 41, .int .i64 0] ?_; (with_reducible refine (nodes_must.calls (decide (a1 < 32)) 41 0 (.ok ()) _ A3.out).mono ?_); rintro e w' ⟨rfl, ⟨nd, rfl⟩⟩; refine ⟨_, rfl, ?_⟩; obtain ⟨hcz57_0, hcz57_1, hcz57_2⟩ := cz3 (w := w56) BK525.out; obtain ⟨hfz57_0, hfz57_1, hfz57_2⟩ := fz3 BK525.out) | ((with_reducible refine gC 52 rfl ?_); refine goL (some 17) Tryd.func52 #[.int .u8 a0_0, .int .i64 0] ?_; (with_reducible refine (nodes_tagged.calls k a0_0 0 (.ok ()) _ A5.out).mono ?_); rintro e w58 ⟨rfl, hb⟩; refine ⟨_, rfl, ?_⟩; replace BK525 := aZ (bkB BK525.out hb); replace HB := aZ (below_step bB hb); (try clear hb); (try clear hb2); (try clear hk); (try clear hi); obtain ⟨hcz59_0, hcz59_1, hcz59_2⟩ := cz3 (w := w58) BK525.out; obtain ⟨hfz59_0, hfz59_1, hfz59_2⟩ := fz3 BK525.out) | ((with_reducible refine gC 53 rfl ?_); refine goL (some 20) Tryd.func53 #[.int .u8 a0_0] ?_; (with_reducible refine (nodes_compound.calls a0_0 false _ A8.out).mono ?_); rintro e w' ⟨rfl, ⟨nd, rfl⟩⟩; refine ⟨_, rfl, ?_⟩) | (go_at_call 55; (with_reducible refine (nodes_right.calls k a0_0 _ _ l0_1 t527 _ ?side1 ?side2 ?side3 A54.out).mono ?_); (case side1 => exact hTU); (case side2 => exact kC (Kd.C_below HR0_1.out bB)); (case side3 => exact HC0_1.out); rintro e w60 ⟨rfl, hb⟩; replace BK525 := aZ (bkB BK525.out hb); replace HB := aZ (below_step bB hb); (try clear hb); (try clear hb2); (try clear hk); (try clear hi)) | ((with_reducible refine gC 43 rfl ?_); refine goP (some 33) Tryd.func43 #[.bool t527, .int .i64 43, .int .i64 0] ?_; (with_reducible refine (nodes_must.calls t527 43 0 (.error er_) _ A55.out).mono ?_); rintro e w' ⟨rfl, hbP⟩; refine ⟨_, rfl, ?_⟩; have HBP := below_step bB hbP))
      exact bodyPostX rfl ⟨rfl, HBP⟩
     ·try dsimp only at H
      have A55 := aZ A550
      clear A550
      replace H := Option.bind_eq_some_iff.mp H
      obtain ⟨⟨t528, t529⟩, A610, H⟩ := H
      try dsimp only at H
      have A61 := aZ A610
      clear A610
      rcases bindX_some H with ⟨er_, A620, H⟩ | ⟨_, A620, H⟩
      ·obtain rfl := H
       have A62 := aZ A620
       clear A620
       go_enter Tryd.func46, Tryd.ntmps46
       go_wp2_with (first | ((with_reducible refine gD 2 rfl ?_); refine bxE (N := 2) (cs := #[.int .u8 a0_0, .slice A0_1 l0_1.length c0_1, .slice A0_2 l0_2.length c0_2]) (t := 43) ?_; intro gb525 hg w63 hbox hb; have BK525 := aZ (hbox); have GW525 := aZ (gwB hg : w.heap.size ≤ gb525); have GE525 := aZ (gwB hg : w.heap.size ≤ gb525); replace HB := aZ (below_step bB hb); clear hb hbox hg) | ((with_reducible refine gC 43 rfl ?_); refine goL (some 14) Tryd.func43 #[.bool (decide (a1 < 32)), .int .i64 41, .int .i64 0] ?_; (with_reducible refine (nodes_must.calls (decide (a1 < 32)) 41 0 (.ok ()) _ A3.out).mono ?_); rintro e w' ⟨rfl, ⟨nd, rfl⟩⟩; refine ⟨_, rfl, ?_⟩; obtain ⟨hcz64_0, hcz64_1, hcz64_2⟩ := cz3 (w := w63) BK525.out; obtain ⟨hfz64_0, hfz64_1, hfz64_2⟩ := fz3 BK525.out) | ((with_reducible refine gC 52 rfl ?_); refine goL (some 17) Tryd.func52 #[.int .u8 a0_0, .int .i64 0] ?_; (with_reducible refine (nodes_tagged.calls k a0_0 0 (.ok ()) _ A5.out).mono ?_); rintro e w65 ⟨rfl, hb⟩; refine ⟨_, rfl, ?_⟩; replace BK525 := aZ (bkB BK525.out hb); replace HB := aZ (below_step bB hb); (try clear hb); (try clear hb2); (try clear hk); (try clear hi); obtain ⟨hcz66_0, hcz66_1, hcz66_2⟩ := cz3 (w := w65) BK525.out; obtain ⟨hfz66_0, hfz66_1, hfz66_2⟩ := fz3 BK525.out) | ((with_reducible refine gC 53 rfl ?_); refine goL (some 20) Tryd.func53 #[.int .u8 a0_0] ?_; (with_reducible refine (nodes_compound.calls a0_0 false _ A8.out).mono ?_); rintro e w' ⟨rfl, ⟨nd, rfl⟩⟩; refine ⟨_, rfl, ?_⟩) | (go_at_call 55; (with_reducible refine (nodes_right.calls k a0_0 _ _ l0_1 t527 _ ?side1 ?side2 ?side3 A54.out).mono ?_); (case side1 => exact hTU); (case side2 => exact kC (Kd.C_below HR0_1.out bB)); (case side3 => exact HC0_1.out); rintro e w67 ⟨rfl, hb⟩; replace BK525 := aZ (bkB BK525.out hb); replace HB := aZ (below_step bB hb); (try clear hb); (try clear hb2); (try clear hk); (try clear hi)) | ((with_reducible refine gC 43 rfl ?_); refine goL (some 33) Tryd.func43 #[.bool t527, .int .i64 43, .int .i64 0] ?_; (with_reducible refine (nodes_must.calls t527 43 0 (.ok ()) _ A55.out).mono ?_); rintro e w' ⟨rfl, ⟨nd, rfl⟩⟩; refine ⟨_, rfl, ?_⟩; obtain ⟨hcz68_0, hcz68_1, hcz68_2⟩ := cz3 (w := w67) BK525.out; obtain ⟨hfz68_0, hfz68_1, hfz68_2⟩ := fz3 BK525.out) | ((with_reducible refine gC 61 rfl ?_); refine goL (some 39) Tryd.func61 #[.int .u8 a0_0, .slice A0_1 l0_1.length c0_1] ?_; (with_reducible refine (tlv_Put.calls a0_0 _ _ l0_1 t528 t529 _ ?side1 ?side2 A61.out).mono ?_); (case side1 => exact kC (Kd.C_below HR0_1.out bB)); (case side2 => exact HC0_1.out); rintro e w69 ⟨v530, rfl, ho0, hb⟩; refine ⟨_, rfl, ?_⟩; have HO531 := aZ (Kd.R_lower ho0 (below_size bB)); replace BK525 := aZ (bkB BK525.out hb); replace HB := aZ (below_step bB hb); (try clear hb); (try clear hb2); (try clear hk); (try clear hi); (try clear ho0)) | ((with_reducible refine gC 43 rfl ?_); refine goP (some 45) Tryd.func43 #[.bool (t529 == 0), .int .i64 t529, .int .i64 0] ?_; (with_reducible refine (nodes_must.calls (t529 == 0) t529 0 (.error er_) _ A62.out).mono ?_); rintro e w' ⟨rfl, hbP⟩; refine ⟨_, rfl, ?_⟩; have HBP := below_step bB hbP))
       exact bodyPostX rfl ⟨rfl, HBP⟩
      ·try dsimp only at H
       have A62 := aZ A620
       clear A620
       obtain rfl := Option.some.inj H
       go_enter Tryd.func46, Tryd.ntmps46
       go_wp2_with (first | ((with_reducible refine gD 2 rfl ?_); refine bxE (N := 2) (cs := #[.int .u8 a0_0, .slice A0_1 l0_1.length c0_1, .slice A0_2 l0_2.length c0_2]) (t := 43) ?_; intro gb525 hg w70 hbox hb; have BK525 := aZ (hbox); have GW525 := aZ (gwB hg : w.heap.size ≤ gb525); have GE525 := aZ (gwB hg : w.heap.size ≤ gb525); replace HB := aZ (below_step bB hb); clear hb hbox hg) | ((with_reducible refine gC 43 rfl ?_); refine goL (some 14) Tryd.func43 #[.bool (decide (a1 < 32)), .int .i64 41, .int .i64 0] ?_; (with_reducible refine (nodes_must.calls (decide (a1 < 32)) 41 0 (.ok ()) _ A3.out).mono ?_); rintro e w' ⟨rfl, ⟨nd, rfl⟩⟩; refine ⟨_, rfl, ?_⟩; obtain ⟨hcz71_0, hcz71_1, hcz71_2⟩ := cz3 (w := w70) BK525.out; obtain ⟨hfz71_0, hfz71_1, hfz71_2⟩ := fz3 BK525.out) | ((with_reducible refine gC 52 rfl ?_); refine goL (some 17) Tryd.func52 #[.int .u8 a0_0, .int .i64 0] ?_; (with_reducible refine (nodes_tagged.calls k a0_0 0 (.ok ()) _ A5.out).mono ?_); rintro e w72 ⟨rfl, hb⟩; refine ⟨_, rfl, ?_⟩; replace BK525 := aZ (bkB BK525.out hb); replace HB := aZ (below_step bB hb); (try clear hb); (try clear hb2); (try clear hk); (try clear hi); obtain ⟨hcz73_0, hcz73_1, hcz73_2⟩ := cz3 (w := w72) BK525.out; obtain ⟨hfz73_0, hfz73_1, hfz73_2⟩ := fz3 BK525.out) | ((with_reducible refine gC 53 rfl ?_); refine goL (some 20) Tryd.func53 #[.int .u8 a0_0] ?_; (with_reducible refine (nodes_compound.calls a0_0 false _ A8.out).mono ?_); rintro e w' ⟨rfl, ⟨nd, rfl⟩⟩; refine ⟨_, rfl, ?_⟩) | (go_at_call 55; (with_reducible refine (nodes_right.calls k a0_0 _ _ l0_1 t527 _ ?side1 ?side2 ?side3 A54.out).mono ?_); (case side1 => exact hTU); (case side2 => exact kC (Kd.C_below HR0_1.out bB)); (case side3 => exact HC0_1.out); rintro e w74 ⟨rfl, hb⟩; replace BK525 := aZ (bkB BK525.out hb); replace HB := aZ (below_step bB hb); (try clear hb); (try clear hb2); (try clear hk); (try clear hi)) | ((with_reducible refine gC 43 rfl ?_); refine goL (some 33) Tryd.func43 #[.bool t527, .int .i64 43, .int .i64 0] ?_; (with_reducible refine (nodes_must.calls t527 43 0 (.ok ()) _ A55.out).mono ?_); rintro e w' ⟨rfl, ⟨nd, rfl⟩⟩; refine ⟨_, rfl, ?_⟩; obtain ⟨hcz75_0, hcz75_1, hcz75_2⟩ := cz3 (w := w74) BK525.out; obtain ⟨hfz75_0, hfz75_1, hfz75_2⟩ := fz3 BK525.out) | ((with_reducible refine gC 61 rfl ?_); refine goL (some 39) Tryd.func61 #[.int .u8 a0_0, .slice A0_1 l0_1.length c0_1] ?_; (with_reducible refine (tlv_Put.calls a0_0 _ _ l0_1 t528 t529 _ ?side1 ?side2 A61.out).mono ?_); (case side1 => exact kC (Kd.C_below HR0_1.out bB)); (case side2 => exact HC0_1.out); rintro e w76 ⟨v530, rfl, ho0, hb⟩; refine ⟨_, rfl, ?_⟩; have HO531 := aZ (Kd.R_lower ho0 (below_size bB)); replace BK525 := aZ (bkB BK525.out hb); replace HB := aZ (below_step bB hb); (try clear hb); (try clear hb2); (try clear hk); (try clear hi); (try clear ho0)) | ((with_reducible refine gC 43 rfl ?_); refine goL (some 45) Tryd.func43 #[.bool (t529 == 0), .int .i64 t529, .int .i64 0] ?_; (with_reducible refine (nodes_must.calls (t529 == 0) t529 0 (.ok ()) _ A62.out).mono ?_); rintro e w' ⟨rfl, ⟨nd, rfl⟩⟩; refine ⟨_, rfl, ?_⟩))
       go_ret
       refine XR.post_ok ?_
       exact ⟨_, rF, by refine kR ?_; exact HO531.out, bB⟩
    ·rw [if_neg c53] at H
     have c53b0 : ((l0_2.length : Int) == 0) = false := beq_eq_false_iff_ne.mpr c53
     have c53b1 : ((l0_2.length : Int) != 0) = true := bne_iff_ne.mpr c53
     have c53b2 : ¬ (l0_2 = []) := fun h_ => c53 (by rw [h_]; rfl)
     rcases bindX_some H with ⟨er_, A770, H⟩ | ⟨_, A770, H⟩
     ·obtain rfl := H
      have A77 := aZ A770
      clear A770
      go_enter Tryd.func46, Tryd.ntmps46
      go_wp2_with (first | ((with_reducible refine gD 2 rfl ?_); refine bxE (N := 2) (cs := #[.int .u8 a0_0, .slice A0_1 l0_1.length c0_1, .slice A0_2 l0_2.length c0_2]) (t := 43) ?_; intro gb525 hg w78 hbox hb; have BK525 := aZ (hbox); have GW525 := aZ (gwB hg : w.heap.size ≤ gb525); have GE525 := aZ (gwB hg : w.heap.size ≤ gb525); replace HB := aZ (below_step bB hb); clear hb hbox hg) | ((with_reducible refine gC 43 rfl ?_); refine goL (some 14) Tryd.func43 #[.bool (decide (a1 < 32)), .int .i64 41, .int .i64 0] ?_; (with_reducible refine (nodes_must.calls (decide (a1 < 32)) 41 0 (.ok ()) _ A3.out).mono ?_); rintro e w' ⟨rfl, ⟨nd, rfl⟩⟩; refine ⟨_, rfl, ?_⟩; obtain ⟨hcz79_0, hcz79_1, hcz79_2⟩ := cz3 (w := w78) BK525.out; obtain ⟨hfz79_0, hfz79_1, hfz79_2⟩ := fz3 BK525.out) | ((with_reducible refine gC 52 rfl ?_); refine goL (some 17) Tryd.func52 #[.int .u8 a0_0, .int .i64 0] ?_; (with_reducible refine (nodes_tagged.calls k a0_0 0 (.ok ()) _ A5.out).mono ?_); rintro e w80 ⟨rfl, hb⟩; refine ⟨_, rfl, ?_⟩; replace BK525 := aZ (bkB BK525.out hb); replace HB := aZ (below_step bB hb); (try clear hb); (try clear hb2); (try clear hk); (try clear hi); obtain ⟨hcz81_0, hcz81_1, hcz81_2⟩ := cz3 (w := w80) BK525.out; obtain ⟨hfz81_0, hfz81_1, hfz81_2⟩ := fz3 BK525.out) | ((with_reducible refine gC 53 rfl ?_); refine goL (some 20) Tryd.func53 #[.int .u8 a0_0] ?_; (with_reducible refine (nodes_compound.calls a0_0 false _ A8.out).mono ?_); rintro e w' ⟨rfl, ⟨nd, rfl⟩⟩; refine ⟨_, rfl, ?_⟩) | ((with_reducible refine gC 43 rfl ?_); refine goP (some 33) Tryd.func43 #[.bool false, .int .i64 43, .int .i64 0] ?_; (with_reducible refine (nodes_must.calls false 43 0 (.error er_) _ A77.out).mono ?_); rintro e w' ⟨rfl, hbP⟩; refine ⟨_, rfl, ?_⟩; have HBP := below_step bB hbP))
      exact bodyPostX rfl ⟨rfl, HBP⟩
     ·try dsimp only at H
      have A77 := aZ A770
      clear A770
      replace H := Option.bind_eq_some_iff.mp H
      obtain ⟨⟨t532, t533⟩, A820, H⟩ := H
      try dsimp only at H
      have A82 := aZ A820
      clear A820
      rcases bindX_some H with ⟨er_, A830, H⟩ | ⟨_, A830, H⟩
      ·obtain rfl := H
       have A83 := aZ A830
       clear A830
       go_enter Tryd.func46, Tryd.ntmps46
       go_wp2_with (first | ((with_reducible refine gD 2 rfl ?_); refine bxE (N := 2) (cs := #[.int .u8 a0_0, .slice A0_1 l0_1.length c0_1, .slice A0_2 l0_2.length c0_2]) (t := 43) ?_; intro gb525 hg w84 hbox hb; have BK525 := aZ (hbox); have GW525 := aZ (gwB hg : w.heap.size ≤ gb525); have GE525 := aZ (gwB hg : w.heap.size ≤ gb525); replace HB := aZ (below_step bB hb); clear hb hbox hg) | ((with_reducible refine gC 43 rfl ?_); refine goL (some 14) Tryd.func43 #[.bool (decide (a1 < 32)), .int .i64 41, .int .i64 0] ?_; (with_reducible refine (nodes_must.calls (decide (a1 < 32)) 41 0 (.ok ()) _ A3.out).mono ?_); rintro e w' ⟨rfl, ⟨nd, rfl⟩⟩; refine ⟨_, rfl, ?_⟩; obtain ⟨hcz85_0, hcz85_1, hcz85_2⟩ := cz3 (w := w84) BK525.out; obtain ⟨hfz85_0, hfz85_1, hfz85_2⟩ := fz3 BK525.out) | ((with_reducible refine gC 52 rfl ?_); refine goL (some 17) Tryd.func52 #[.int .u8 a0_0, .int .i64 0] ?_; (with_reducible refine (nodes_tagged.calls k a0_0 0 (.ok ()) _ A5.out).mono ?_); rintro e w86 ⟨rfl, hb⟩; refine ⟨_, rfl, ?_⟩; replace BK525 := aZ (bkB BK525.out hb); replace HB := aZ (below_step bB hb); (try clear hb); (try clear hb2); (try clear hk); (try clear hi); obtain ⟨hcz87_0, hcz87_1, hcz87_2⟩ := cz3 (w := w86) BK525.out; obtain ⟨hfz87_0, hfz87_1, hfz87_2⟩ := fz3 BK525.out) | ((with_reducible refine gC 53 rfl ?_); refine goL (some 20) Tryd.func53 #[.int .u8 a0_0] ?_; (with_reducible refine (nodes_compound.calls a0_0 false _ A8.out).mono ?_); rintro e w' ⟨rfl, ⟨nd, rfl⟩⟩; refine ⟨_, rfl, ?_⟩) | ((with_reducible refine gC 43 rfl ?_); refine goL (some 33) Tryd.func43 #[.bool false, .int .i64 43, .int .i64 0] ?_; (with_reducible refine (nodes_must.calls false 43 0 (.ok ()) _ A77.out).mono ?_); rintro e w' ⟨rfl, ⟨nd, rfl⟩⟩; refine ⟨_, rfl, ?_⟩) | ((with_reducible refine gC 61 rfl ?_); refine goL (some 39) Tryd.func61 #[.int .u8 a0_0, .slice A0_1 l0_1.length c0_1] ?_; (with_reducible refine (tlv_Put.calls a0_0 _ _ l0_1 t532 t533 _ ?side1 ?side2 A82.out).mono ?_); (case side1 => exact kC (Kd.C_below HR0_1.out bB)); (case side2 => exact HC0_1.out); rintro e w88 ⟨v534, rfl, ho0, hb⟩; refine ⟨_, rfl, ?_⟩; have HO535 := aZ (Kd.R_lower ho0 (below_size bB)); replace BK525 := aZ (bkB BK525.out hb); replace HB := aZ (below_step bB hb); (try clear hb); (try clear hb2); (try clear hk); (try clear hi); (try clear ho0)) | ((with_reducible refine gC 43 rfl ?_); refine goP (some 45) Tryd.func43 #[.bool (t533 == 0), .int .i64 t533, .int .i64 0] ?_; (with_reducible refine (nodes_must.calls (t533 == 0) t533 0 (.error er_) _ A83.out).mono ?_); rintro e w' ⟨rfl, hbP⟩; refine ⟨_, rfl, ?_⟩; have HBP := below_step bB hbP))
       exact bodyPostX rfl ⟨rfl, HBP⟩
      ·try dsimp only at H
       have A83 := aZ A830
       clear A830
       obtain rfl := Option.some.inj H
       go_enter Tryd.func46, Tryd.ntmps46
       go_wp2_with (first | ((with_reducible refine gD 2 rfl ?_); refine bxE (N := 2) (cs := #[.int .u8 a0_0, .slice A0_1 l0_1.length c0_1, .slice A0_2 l0_2.length c0_2]) (t := 43) ?_; intro gb525 hg w89 hbox hb; have BK525 := aZ (hbox); have GW525 := aZ (gwB hg : w.heap.size ≤ gb525); have GE525 := aZ (gwB hg : w.heap.size ≤ gb525); replace HB := aZ (below_step bB hb); clear hb hbox hg) | ((with_reducible refine gC 43 rfl ?_); refine goL (some 14) Tryd.func43 #[.bool (decide (a1 < 32)), .int .i64 41, .int .i64 0] ?_; (with_reducible refine (nodes_must.calls (decide (a1 < 32)) 41 0 (.ok ()) _ A3.out).mono ?_); rintro e w' ⟨rfl, ⟨nd, rfl⟩⟩; refine ⟨_, rfl, ?_⟩; obtain ⟨hcz90_0, hcz90_1, hcz90_2⟩ := cz3 (w := w89) BK525.out; obtain ⟨hfz90_0, hfz90_1, hfz90_2⟩ := fz3 BK525.out) | ((with_reducible refine gC 52 rfl ?_); refine goL (some 17) Tryd.func52 #[.int .u8 a0_0, .int .i64 0] ?_; (with_reducible refine (nodes_tagged.calls k a0_0 0 (.ok ()) _ A5.out).mono ?_); rintro e w91 ⟨rfl, hb⟩; refine ⟨_, rfl, ?_⟩; replace BK525 := aZ (bkB BK525.out hb); replace HB := aZ (below_step bB hb); (try clear hb); (try clear hb2); (try clear hk); (try clear hi); obtain ⟨hcz92_0, hcz92_1, hcz92_2⟩ := cz3 (w := w91) BK525.out; obtain ⟨hfz92_0, hfz92_1, hfz92_2⟩ := fz3 BK525.out) | ((with_reducible refine gC 53 rfl ?_); refine goL (some 20) Tryd.func53 #[.int .u8 a0_0] ?_; (with_reducible refine (nodes_compound.calls a0_0 false _ A8.out).mono ?_); rintro e w' ⟨rfl, ⟨nd, rfl⟩⟩; refine ⟨_, rfl, ?_⟩) | ((with_reducible refine gC 43 rfl ?_); refine goL (some 33) Tryd.func43 #[.bool false, .int .i64 43, .int .i64 0] ?_; (with_reducible refine (nodes_must.calls false 43 0 (.ok ()) _ A77.out).mono ?_); rintro e w' ⟨rfl, ⟨nd, rfl⟩⟩; refine ⟨_, rfl, ?_⟩) | ((with_reducible refine gC 61 rfl ?_); refine goL (some 39) Tryd.func61 #[.int .u8 a0_0, .slice A0_1 l0_1.length c0_1] ?_; (with_reducible refine (tlv_Put.calls a0_0 _ _ l0_1 t532 t533 _ ?side1 ?side2 A82.out).mono ?_); (case side1 => exact kC (Kd.C_below HR0_1.out bB)); (case side2 => exact HC0_1.out); rintro e w93 ⟨v534, rfl, ho0, hb⟩; refine ⟨_, rfl, ?_⟩; have HO535 := aZ (Kd.R_lower ho0 (below_size bB)); replace BK525 := aZ (bkB BK525.out hb); replace HB := aZ (below_step bB hb); (try clear hb); (try clear hb2); (try clear hk); (try clear hi); (try clear ho0)) | ((with_reducible refine gC 43 rfl ?_); refine goL (some 45) Tryd.func43 #[.bool (t533 == 0), .int .i64 t533, .int .i64 0] ?_; (with_reducible refine (nodes_must.calls (t533 == 0) t533 0 (.ok ()) _ A83.out).mono ?_); rintro e w' ⟨rfl, ⟨nd, rfl⟩⟩; refine ⟨_, rfl, ?_⟩))
       go_ret
       refine XR.post_ok ?_
       exact ⟨_, rF, by refine kR ?_; exact HO535.out, bB⟩
end Go.Proofs.YtkceebgncfggjaaDoor.PQ

