/- NodesSets: words, printed functions and plain laws that the claim uses, laid by a program of this session's. No condition beside those in each theorem's own line. -/
import Derived.Test.YtkceebgncfggjaaDoorZS18
import Derived.Test.YtkceebgncfggjaaDoorZS8
set_option linter.unusedVariables false
set_option linter.unusedSimpArgs false
namespace Go.Proofs.YtkceebgncfggjaaDoor.PQ
open Go.RowKit Go.Proofs.YtkceebgncfggjaaDoorW.PrintWords Go.Proofs.YtkceebgncfggjaaDoorW.PrintLast Go.Proofs.YtkceebgncfggjaaDoorW.PrintMore Go.Proofs.YtkceebgncfggjaaDoorX
set_option maxHeartbeats 8000000
set_option maxRecDepth 100000
attribute [local go_sem] max2_int min2_int max_two min_two
def nodes_Print.f (k : Nat) (a0_0 : Int) (l0_1 : List Int) (l0_2 : List (S43)) : Option (List Int × Int) :=
  match nodes_printed.f k a0_0 l0_1 l0_2 0 with
  | none => none
  | some (.error er) => if er.1 = 0 then none else some ([], er.1)
  | some (.ok b) => some (b, 0)
theorem nodes_Print.calls (k : Nat) (a0_0 : Int) (A0_1 : Option Addr) (c0_1 : Nat) (l0_1 : List Int) (A0_2 : Option Addr) (c0_2 : Nat) (l0_2 : List (S43)) (r1 : List Int) (r2 : Int) (w : World) (hT : TabU w) (hr0_1 : Kd.C (Kd.int .u8) w A0_1 l0_1.length l0_1) (hc0_1 : l0_1.length ≤ c0_1) (hr0_2 : Kd.C k43 w A0_2 l0_2.length l0_2) (hc0_2 : l0_2.length ≤ c0_2) (h : nodes_Print.f k a0_0 l0_1 l0_2 = some (r1, r2)) :
    Calls Tryd.prog 27 #[.agg #[.int .u8 a0_0, .slice A0_1 l0_1.length c0_1, .slice A0_2 l0_2.length c0_2]] w fun e w' => ∃ v0_ : Value, e = .returned (.tuple #[v0_, .int .i64 r2]) ∧ Kd.R (Kd.int .u8) 5 w' w.heap.size (fun _ => True) v0_ r1 ∧ Below w.heap.size w w' := by
  have hmf : ∀ (fn : Fn) (first cap : Array Value) (w : World), (Instr.makeFunc fn first cap).run Tryd.prog w = .ok (.func fn first cap) w := fun _ _ _ _ => rfl
  have hu43 := Tryd.underlying43
  have HR1 := aZ hr0_1
  have HC1 := aZ hc0_1
  have HR2 := aZ hr0_2
  have HC2 := aZ hc0_2
  have HT := aZ hT
  clear hr0_1 hc0_1 hr0_2 hc0_2 hT
  have HB := aZ (Below.refl w.heap.size w)
  unfold nodes_Print.f at h
  cases hp : nodes_printed.f k a0_0 l0_1 l0_2 0 with
  | none => rw [hp] at h; cases h
  | some rr =>
    rw [hp] at h
    have A1 := aZ hp
    clear hp
    cases rr with
    | error er =>
      dsimp only at h
      by_cases he : er.1 = 0
      · rw [if_pos he] at h; cases h
      · rw [if_neg he] at h
        simp only [Option.some.injEq, Prod.mk.injEq] at h
        obtain ⟨rfl, rfl⟩ := h
        go_enter_defers Tryd.func27, Tryd.ntmps27
        go_wp2_with (first | ((with_reducible refine gD 1 rfl ?_); refine bxE (N := 1) (cs := #[.int .u8 a0_0, .slice A0_1 l0_1.length c0_1, .slice A0_2 l0_2.length c0_2]) (t := 43) ?_; intro gN hg_ WN hbox_ hb_; have BN := aZ hbox_; have SN := aZ (show w.heap.size ≤ gN from by rw [hg_]; exact below_size HB.out); have n_ := aZ (below_step HB.out hb_); clear HB; have HB := n_; clear n_; clear hb_ hbox_ hg_) | ((with_reducible refine gD 2 rfl ?_); refine bxE (N := 2) (cs := #[.slice none 0 0]) (t := 24) ?_; intro gP hg_ WP hbox_ hb_; have BP := aZ hbox_; have n_ := aZ (blk_below BN.out hb_); clear BN; have BN := n_; clear n_; have SP := aZ (show w.heap.size ≤ gP from by rw [hg_]; exact below_size HB.out); have n_ := aZ (below_step HB.out hb_); clear HB; have HB := n_; clear n_; clear hb_ hbox_ hg_) | ((with_reducible refine gD 3 rfl ?_); refine bxE (N := 3) (cs := #[.int .i64 0]) (t := 27) ?_; intro gR hg_ WR hbox_ hb_; have BR := aZ hbox_; have n_ := aZ (blk_below BN.out hb_); clear BN; have BN := n_; clear n_; have n_ := aZ (blk_below BP.out hb_); clear BP; have BP := n_; clear n_; have SR := aZ (show w.heap.size ≤ gR from by rw [hg_]; exact below_size HB.out); have n_ := aZ (below_step HB.out hb_); clear HB; have HB := n_; clear n_; have hn0 : WR.cell? ⟨gN, 0, none⟩ = some (.int .u8 a0_0) := (blk_cell BN.out 0).trans rfl; have hn1 : WR.cell? ⟨gN, 1, none⟩ = some (.slice A0_1 l0_1.length c0_1) := (blk_cell BN.out 1).trans rfl; have hn2 : WR.cell? ⟨gN, 2, none⟩ = some (.slice A0_2 l0_2.length c0_2) := (blk_cell BN.out 2).trans rfl; clear hb_ hbox_ hg_) | ((with_reducible refine gC 46 rfl ?_); clear hn0 hn1 hn2; refine goP (some 6) Tryd.func46 #[.agg #[.int .u8 a0_0, .slice A0_1 l0_1.length c0_1, .slice A0_2 l0_2.length c0_2], .int .i64 0] ?_; (with_reducible refine (nodes_printed.calls k a0_0 _ _ l0_1 _ _ l0_2 0 (.error er) _ ?side0 ?side1 ?side2 ?side3 ?side4 A1.out).mono ?_); (case side0 => exact (by first | exact HT.out | exact TabU.drewN HT.out _ | exact TabU.below HT.out HB.out | exact TabU.below HT.out (pw_below_drewN HB.out _))); (case side1 => exact Kd.C_below HR1.out HB.out); (case side2 => exact HC1.out); (case side3 => exact Kd.C_below HR2.out HB.out); (case side4 => exact HC2.out); rintro e wf ⟨rfl, hbP⟩; refine ⟨_, rfl, ?_⟩; have HBP := aZ (below_step HB.out hbP); have CP := aZ (blk_below BP.out hbP); have CR := aZ (blk_below BR.out hbP); clear BP BR BN HB hbP))
        refine leaves_cons (f := 45) (args := #[.pointer (some ⟨gP, 0, none⟩), .pointer (some ⟨gR, 0, none⟩)]) (by simp) (by simp [go_sem]) ?_
        refine (H.print1_caught gP gR er.1 er.2 he [] wf _ _ w.heap.size CP.out CR.out SP.out SR.out).mono ?_
        rintro x u' w7 ⟨rfl, rfl, DP, DR, hb7⟩
        have hp0 : w7.cell? ⟨gP, 0, none⟩ = some (.slice none 0 0) := (blk_cell DP 0).trans rfl
        have hr0 : w7.cell? ⟨gR, 0, none⟩ = some (.int .i64 er.1) := (blk_cell DR 0).trans rfl
        refine ⟨_, ?hres, _, rfl, Kd.R_nil _ _ _ _ _, HBP.out.trans hb7⟩
        case hres => simp [results, Tryd.results27, go_sem, asAddr, hp0, hr0]
    | ok b =>
      simp only [Option.some.injEq, Prod.mk.injEq] at h
      obtain ⟨rfl, rfl⟩ := h
      go_enter_defers Tryd.func27, Tryd.ntmps27
      go_wp2_with (first | ((with_reducible refine gD 1 rfl ?_); refine bxE (N := 1) (cs := #[.int .u8 a0_0, .slice A0_1 l0_1.length c0_1, .slice A0_2 l0_2.length c0_2]) (t := 43) ?_; intro gN hg_ WN hbox_ hb_; have BN := aZ hbox_; have SN := aZ (show w.heap.size ≤ gN from by rw [hg_]; exact below_size HB.out); have n_ := aZ (below_step HB.out hb_); clear HB; have HB := n_; clear n_; clear hb_ hbox_ hg_) | ((with_reducible refine gD 2 rfl ?_); refine bxE (N := 2) (cs := #[.slice none 0 0]) (t := 24) ?_; intro gP hg_ WP hbox_ hb_; have BP := aZ hbox_; have n_ := aZ (blk_below BN.out hb_); clear BN; have BN := n_; clear n_; have SP := aZ (show w.heap.size ≤ gP from by rw [hg_]; exact below_size HB.out); have n_ := aZ (below_step HB.out hb_); clear HB; have HB := n_; clear n_; clear hb_ hbox_ hg_) | ((with_reducible refine gD 3 rfl ?_); refine bxE (N := 3) (cs := #[.int .i64 0]) (t := 27) ?_; intro gR hg_ WR hbox_ hb_; have BR := aZ hbox_; have n_ := aZ (blk_below BN.out hb_); clear BN; have BN := n_; clear n_; have n_ := aZ (blk_below BP.out hb_); clear BP; have BP := n_; clear n_; have SR := aZ (show w.heap.size ≤ gR from by rw [hg_]; exact below_size HB.out); have n_ := aZ (below_step HB.out hb_); clear HB; have HB := n_; clear n_; have hn0 : WR.cell? ⟨gN, 0, none⟩ = some (.int .u8 a0_0) := (blk_cell BN.out 0).trans rfl; have hn1 : WR.cell? ⟨gN, 1, none⟩ = some (.slice A0_1 l0_1.length c0_1) := (blk_cell BN.out 1).trans rfl; have hn2 : WR.cell? ⟨gN, 2, none⟩ = some (.slice A0_2 l0_2.length c0_2) := (blk_cell BN.out 2).trans rfl; clear hb_ hbox_ hg_) | ((with_reducible refine gC 46 rfl ?_); clear hn0 hn1 hn2; refine goL (some 6) Tryd.func46 #[.agg #[.int .u8 a0_0, .slice A0_1 l0_1.length c0_1, .slice A0_2 l0_2.length c0_2], .int .i64 0] ?_; (with_reducible refine (nodes_printed.calls k a0_0 _ _ l0_1 _ _ l0_2 0 (.ok b) _ ?side0 ?side1 ?side2 ?side3 ?side4 A1.out).mono ?_); (case side0 => exact (by first | exact HT.out | exact TabU.drewN HT.out _ | exact TabU.below HT.out HB.out | exact TabU.below HT.out (pw_below_drewN HB.out _))); (case side1 => exact Kd.C_below HR1.out HB.out); (case side2 => exact HC1.out); (case side3 => exact Kd.C_below HR2.out HB.out); (case side4 => exact HC2.out); rintro e w5 ⟨v1, rfl, ho1, hb5⟩; refine ⟨_, rfl, ?_⟩; have TP := blk_lt BP.out; have TR := blk_lt BR.out; have SB := below_size HB.out; obtain ⟨A1_, c1_, rfl⟩ := Kd.R_slice ho1; have HR := aZ (Kd.R_lower (Kd.R_mono (ok' := fun k_ => k_ ≠ gP ∧ k_ ≠ gR) (Kd.R_bound ho1) (fun k_ hk => ⟨fun e_ => by have h_ := hk.2.1; omega, fun e_ => by have h_ := hk.2.1; omega⟩)) SB); have nr_ := blk_ne BR.out BP.out (by decide); have nrp := aZ nr_; have i0 := eq_false nr_; have i1 := eq_false (Ne.symm nr_); clear nr_; have n_ := aZ (below_step HB.out hb5); clear HB; have HB := n_; clear n_; have n_ := aZ (blk_below BP.out hb5); clear BP; have BP := n_; clear n_; have n_ := aZ (blk_below BR.out hb5); clear BR; have BR := n_; clear n_; clear ho1 hb5 TP TR SB BN; have hp0 : w5.cell? ⟨gP, 0, none⟩ = some (.slice none 0 0) := (blk_cell BP.out 0).trans rfl; have fp0 := blk_frozen BP.out 0; have hr0 : w5.cell? ⟨gR, 0, none⟩ = some (.int .i64 0) := (blk_cell BR.out 0).trans rfl; have fr0 := blk_frozen BR.out 0))
      clear hp0 fp0 hr0 fr0 i0 i1
      have mP := aZ (blk_far (p := ⟨gR, 0, none⟩) (blk_put BP.out 0 (.slice A1_ b.length c1_) rfl) (Ne.symm nrp.out) (.int .i64 0))
      have mR := aZ (blk_put (blk_far (p := ⟨gP, 0, none⟩) BR.out nrp.out (.slice A1_ b.length c1_)) 0 (.int .i64 0) rfl)
      have mHR := aZ (Kd.R_far (p := ⟨gR, 0, none⟩) (Kd.R_far (p := ⟨gP, 0, none⟩) HR.out (fun _ hk => hk.1) (.slice A1_ b.length c1_)) (fun _ hk => hk.2) (.int .i64 0))
      have mHB := aZ (Below.setCell (Below.setCell HB.out (p := ⟨gP, 0, none⟩) SP.out (.slice A1_ b.length c1_)) (p := ⟨gR, 0, none⟩) SR.out (.int .i64 0))
      clear BP BR HR HB
      generalize (w5.setCell ⟨gP, 0, none⟩ (.slice A1_ b.length c1_)).setCell ⟨gR, 0, none⟩ (.int .i64 0) = w8 at mP mR mHR mHB ⊢
      have BP := mP
      have BR := mR
      have HR := mHR
      have HB := mHB
      clear mP mR mHR mHB
      refine leaves_cons (f := 45) (args := #[.pointer (some ⟨gP, 0, none⟩), .pointer (some ⟨gR, 0, none⟩)]) (by simp) (by simp [go_sem]) ?_
      refine (H.print1_idle ⟨gP, 0, none⟩ ⟨gR, 0, none⟩ w8).mono ?_
      rintro x u' w9 ⟨rfl, rfl, hb9⟩
      have hp0 : w9.cell? ⟨gP, 0, none⟩ = some (.slice A1_ b.length c1_) := (blk_cell (blk_below BP.out hb9) 0).trans rfl
      have hr0 : w9.cell? ⟨gR, 0, none⟩ = some (.int .i64 0) := (blk_cell (blk_below BR.out hb9) 0).trans rfl
      refine ⟨_, ?hres, _, rfl, Kd.R_mono (Kd.R_below HR.out hb9) (fun _ hk => trivial), below_step HB.out hb9⟩
      case hres => simp [results, Tryd.results27, go_sem, asAddr, hp0, hr0]
end Go.Proofs.YtkceebgncfggjaaDoor.PQ

namespace Go.Proofs.YtkceebgncfggjaaDoor.PQ
open Go.RowKit Go.Proofs.YtkceebgncfggjaaDoorW.PrintWords Go.Proofs.YtkceebgncfggjaaDoorW.PrintLast Go.Proofs.YtkceebgncfggjaaDoorW.PrintMore Go.Proofs.YtkceebgncfggjaaDoorX
set_option maxHeartbeats 8000000
set_option maxRecDepth 100000
attribute [local go_sem] max2_int min2_int max_two min_two
def nodes_Check.f (k : Nat) (a0_0 : Int) (l0_1 : List Int) (l0_2 : List (S43)) : Option (Int) := (nodes_Print.f k a0_0 l0_1 l0_2).bind fun bt691 => (some bt691.2)
theorem nodes_Check.calls (k : Nat) (a0_0 : Int) (A0_1 : Option Addr) (c0_1 : Nat) (l0_1 : List Int) (A0_2 : Option Addr) (c0_2 : Nat) (l0_2 : List (S43)) (r : Int) (w : World) (hT : TabU w) (hr0_1 : Kd.C (Kd.int .u8) w A0_1 l0_1.length l0_1) (hc0_1 : l0_1.length ≤ c0_1) (hr0_2 : Kd.C k43 w A0_2 l0_2.length l0_2) (hc0_2 : l0_2.length ≤ c0_2) (h : nodes_Check.f k a0_0 l0_1 l0_2 = some r) :
  Calls Tryd.prog 29 #[.agg #[.int .u8 a0_0, .slice A0_1 l0_1.length c0_1, .slice A0_2 l0_2.length c0_2]] w fun e w' => e = .returned (.int .i64 r) ∧ Below w.heap.size w w' := by
 have hu43 := Tryd.underlying43
 have HT := aZ hT
 clear hT
 have HR0_1 := aZ hr0_1
 have HC0_1 := aZ hc0_1
 clear hr0_1 hc0_1
 have HR0_2 := aZ hr0_2
 have HC0_2 := aZ hc0_2
 clear hr0_2 hc0_2
 have HB := aZ (Below.refl w.heap.size w)
 have H := h
 clear h
 unfold nodes_Check.f at H
 replace H := Option.bind_eq_some_iff.mp H
 obtain ⟨⟨t691, t694⟩, A20, H⟩ := H
 try dsimp only at H
 have A2 := aZ A20
 clear A20
 obtain rfl := Option.some.inj H
 go_enter Tryd.func29, Tryd.ntmps29
 go_wp2_with (first | ((with_reducible refine gD 1 rfl ?_); refine bxE (N := 1) (cs := #[.int .u8 a0_0, .slice A0_1 l0_1.length c0_1, .slice A0_2 l0_2.length c0_2]) (t := 43) ?_; intro gb690 hg w3 hbox hb; have BK690 := aZ (hbox); have GW690 := aZ (gwB hg : w.heap.size ≤ gb690); have GE690 := aZ (gwB hg : w.heap.size ≤ gb690); replace HB := aZ (below_step bB hb); clear hb hbox hg; obtain ⟨hcz4_0, hcz4_1, hcz4_2⟩ := cz3 (w := w3) BK690.out; obtain ⟨hfz4_0, hfz4_1, hfz4_2⟩ := fz3 BK690.out) | ((with_reducible refine gC 27 rfl ?_); refine goL (some 7) Tryd.func27 #[.agg #[.int .u8 a0_0, .slice A0_1 l0_1.length c0_1, .slice A0_2 l0_2.length c0_2]] ?_; (with_reducible refine (nodes_Print.calls k a0_0 _ _ l0_1 _ _ l0_2 t691 t694 _ ?side1 ?side2 ?side3 ?side4 ?side5 A2.out).mono ?_); (case side1 => exact hTU); (case side2 => exact kC (Kd.C_below HR0_1.out HB.out)); (case side3 => exact HC0_1.out); (case side4 => exact kC (Kd.C_below HR0_2.out HB.out)); (case side5 => exact HC0_2.out); rintro e w5 ⟨v692, rfl, ho0, hb⟩; refine ⟨_, rfl, ?_⟩; have HO693 := aZ (Kd.R_lower ho0 (below_size bB)); replace BK690 := aZ (bkB BK690.out hb); replace HB := aZ (below_step bB hb); (try clear hb); (try clear hb2); (try clear hk); (try clear hi); (try clear ho0)))
 go_ret
 exact ⟨rF, bB⟩
end Go.Proofs.YtkceebgncfggjaaDoor.PQ

