/- warder/nodes.Parse: a function that defers what catches must's panic: as a plain Lean function, and the proof that its call does what that says. No condition beside those in each theorem's own line. -/
import Derived.Test.YtkceebgncfggjaaDoorHCatch2
import Derived.Test.YtkceebgncfggjaaDoorPDx3
import Derived.Test.YtkceebgncfggjaaDoorHMustX
namespace Go.Proofs.YtkceebgncfggjaaDoor.PD
open Go.RowKit Go.Proofs.YtkceebgncfggjaaDoorW.PrintWords Go.Proofs.YtkceebgncfggjaaDoorW.PrintLast Go.Proofs.YtkceebgncfggjaaDoorW.PrintMore Go.Proofs.YtkceebgncfggjaaDoorX
attribute [local go_sem] max2_int min2_int max_two min_two max_three min_three max_four min_four
set_option linter.unusedVariables false
set_option linter.unusedSimpArgs false

/-! ### nodes_Parse: function 23 -/
def nodes_Parse.f (k : Nat) (l0 : List Int) : Option (Int × List Int × List (S43) × Int × Int) :=
  match nodes_parse.f k l0 0 0 with
  | none => none
  | some (.error er) => if er.1 = 0 then none else some (0, [], [], er.2, er.1)
  | some (.ok q) => if q.2.2.2 = (l0.length : Int) then some (q.1, q.2.1, q.2.2.1, 0, 0) else some (0, [], [], q.2.2.2, 44)
theorem nodes_Parse.mono : ∀ a0 k, LeO (nodes_Parse.f k a0) (nodes_Parse.f (k + 1) a0) := by
  intro a0 k r hr
  unfold nodes_Parse.f at hr ⊢
  cases hp : nodes_parse.f k a0 0 0 with
  | none => rw [hp] at hr; cases hr
  | some x => rw [nodes_parse.mono a0 0 0 k x hp]; rw [hp] at hr; exact hr
set_option maxHeartbeats 8000000 in
set_option maxRecDepth 100000 in
theorem nodes_Parse.calls (k : Nat) (P0_ : Nat → Prop) (A0 : Option Addr) (c0 : Nat) (l0 : List Int) (r1 : Int) (r2 : List Int) (r3 : List (S43)) (r4 : Int) (r5 : Int) (w : World) (hs0 : Kd.V (Kd.int .u8) 5 w w.heap.size (fun k_ => P0_ k_) (.slice A0 l0.length c0) l0) (h : nodes_Parse.f k l0 = some (r1, r2, r3, r4, r5)) :
    Calls Tryd.prog 23 #[.slice A0 l0.length c0] w fun e w' => ∃ v1_ v2_ : Value, e = .returned (.tuple #[.agg #[.int .u8 r1, v1_, v2_], .int .i64 r4, .int .i64 r5]) ∧ Kd.R (Kd.int .u8) 5 w' w.heap.size (fun k_ => (w.heap.size ≤ k_)) v1_ r2 ∧ Kd.N k43 43 w' w.heap.size (fun k_ => (P0_ k_ ∨ w.heap.size ≤ k_) ∧ some k_ ≠ (v1_ : Value).ownBlock) v2_ r3 ∧ Below w.heap.size w w' := by
  have hmf : ∀ (fn : Fn) (first cap : Array Value) (w : World), (Instr.makeFunc fn first cap).run Tryd.prog w = .ok (.func fn first cap) w := fun _ _ _ _ => rfl
  have hu43 := Tryd.underlying43
  have HV := Aside0.mk hs0
  clear hs0
  have HB := Aside0.mk (Below.refl w.heap.size w)
  unfold nodes_Parse.f at h
  cases hp : nodes_parse.f k l0 0 0 with
  | none => rw [hp] at h; cases h
  | some rr =>
    rw [hp] at h
    have A1 := Aside0.mk hp
    clear hp
    cases rr with
    | error er =>
      dsimp only at h
      by_cases he : er.1 = 0
      · rw [if_pos he] at h; cases h
      · rw [if_neg he] at h
        simp only [Option.some.injEq, Prod.mk.injEq] at h
        obtain ⟨rfl, rfl, rfl, rfl, rfl⟩ := h
        go_enter_defers Tryd.func23, Tryd.ntmps23
        go_wp2_with (first | ((with_reducible refine gate_dst (N := 2) rfl ?_); refine box_event ?hg (N := 2) ?hd (cs := #[.int .u8 0, .slice none 0 0, .slice none 0 0]) (t := 43) ?hr ?_; (case hd => rfl); (case hg => rfl); (case hr => first | (go_simp; done) | (go_simp; rfl)); intro gP hg_ WP hbox_ hb_; have BP := Aside0.mk hbox_; have SP := Aside0.mk (show w.heap.size ≤ gP from by rw [hg_]; exact below_size HB.out); have n_ := Aside0.mk (below_step HB.out hb_); clear HB; have HB := n_; clear n_; have n_ := Aside0.mk (Kd.V_below (Kd.V_elderB HV.out gP (Nat.le_of_eq hg_.symm)) hb_); clear HV; have HV := n_; clear n_; clear hb_ hbox_ hg_) | ((with_reducible refine gate_dst (N := 3) rfl ?_); refine box_event ?hg (N := 3) ?hd (cs := #[.int .i64 0]) (t := 3) ?hr ?_; (case hd => rfl); (case hg => rfl); (case hr => first | (go_simp; done) | (go_simp; rfl)); intro gQ hg_ WQ hbox_ hb_; have BQ := Aside0.mk hbox_; have n_ := Aside0.mk (blk_below BP.out hb_); clear BP; have BP := n_; clear n_; have SQ := Aside0.mk (show w.heap.size ≤ gQ from by rw [hg_]; exact below_size HB.out); have n_ := Aside0.mk (below_step HB.out hb_); clear HB; have HB := n_; clear n_; have n_ := Aside0.mk (Kd.V_below (Kd.V_elderB HV.out gQ (Nat.le_of_eq hg_.symm)) hb_); clear HV; have HV := n_; clear n_; clear hb_ hbox_ hg_) | ((with_reducible refine gate_dst (N := 4) rfl ?_); refine box_event ?hg (N := 4) ?hd (cs := #[.int .i64 0]) (t := 27) ?hr ?_; (case hd => rfl); (case hg => rfl); (case hr => first | (go_simp; done) | (go_simp; rfl)); intro gR hg_ WR hbox_ hb_; have BR := Aside0.mk hbox_; have n_ := Aside0.mk (blk_below BP.out hb_); clear BP; have BP := n_; clear n_; have n_ := Aside0.mk (blk_below BQ.out hb_); clear BQ; have BQ := n_; clear n_; have SR := Aside0.mk (show w.heap.size ≤ gR from by rw [hg_]; exact below_size HB.out); have n_ := Aside0.mk (below_step HB.out hb_); clear HB; have HB := n_; clear n_; have n_ := Aside0.mk (Kd.V_below (Kd.V_elderB HV.out gR (Nat.le_of_eq hg_.symm)) hb_); clear HV; have HV := n_; clear n_; clear hb_ hbox_ hg_) | ((with_reducible refine gate_callee (f := 42) rfl ?_); refine goesPL_ (some 9) rfl rfl Tryd.func42 (by kernel_rfl) rfl #[.slice A0 l0.length c0, .int .i64 0, .int .i64 0] rfl (by (try simp only [List.map_toArray, List.map_cons, List.map_nil]); first | done | rfl | (simp only [List.length_drop, List.length_take]; rfl)) ?_; (with_reducible refine (nodes_parse.calls k (fun k_ => ((P0_ k_ ∧ k_ ≠ gP) ∧ k_ ≠ gQ) ∧ k_ ≠ gR) _ _ l0 0 0 (.error er) _ ?side1 A1.out).mono ?_); (case side1 => exact HV.out); rintro e wf ⟨rfl, hbP⟩; refine ⟨_, rfl, ?_⟩; have HBP := Aside0.mk (below_step HB.out hbP); have CP := Aside0.mk (blk_below BP.out hbP); have CQ := Aside0.mk (blk_below BQ.out hbP); have CR := Aside0.mk (blk_below BR.out hbP); clear BP BQ BR HB hbP))
        refine leaves_cons (f := 40) (args := #[.pointer (some ⟨gP, 0, none⟩), .pointer (some ⟨gQ, 0, none⟩), .pointer (some ⟨gR, 0, none⟩)]) (by simp) (by simp [go_sem]) ?_
        refine (H.parse1_caught gP gQ gR er.1 er.2 he [] wf _ _ _ _ _ w.heap.size CP.out CQ.out CR.out SP.out SQ.out SR.out).mono ?_
        rintro x u' w7 ⟨rfl, rfl, DP, DQ, DR, hb7⟩
        have hp0 : w7.cell? ⟨gP, 0, none⟩ = some (.int .u8 0) := (blk_cell DP 0).trans rfl
        have hp1 : w7.cell? ⟨gP, 1, none⟩ = some (.slice none 0 0) := (blk_cell DP 1).trans rfl
        have hp2 : w7.cell? ⟨gP, 2, none⟩ = some (.slice none 0 0) := (blk_cell DP 2).trans rfl
        have hq0 : w7.cell? ⟨gQ, 0, none⟩ = some (.int .i64 er.2) := (blk_cell DQ 0).trans rfl
        have hr0 : w7.cell? ⟨gR, 0, none⟩ = some (.int .i64 er.1) := (blk_cell DR 0).trans rfl
        refine ⟨_, ?hres, _, _, rfl, Kd.R_nil _ _ _ _ _, Kd.N_nil _ _ _ _ _, HBP.out.trans hb7⟩
        case hres => simp [results, Tryd.results23, go_sem, asAddr, hp0, hp1, hp2, hq0, hr0]
    | ok q =>
      obtain ⟨q1, q2, q3, q4⟩ := q
      dsimp only at h
      by_cases hn : q4 = (l0.length : Int)
      · rw [if_pos hn] at h
        simp only [Option.some.injEq, Prod.mk.injEq] at h
        obtain ⟨rfl, rfl, rfl, rfl, rfl⟩ := h
        subst hn
        go_enter_defers Tryd.func23, Tryd.ntmps23
        go_wp2_with (first | ((with_reducible refine gate_dst (N := 2) rfl ?_); refine box_event ?hg (N := 2) ?hd (cs := #[.int .u8 0, .slice none 0 0, .slice none 0 0]) (t := 43) ?hr ?_; (case hd => rfl); (case hg => rfl); (case hr => first | (go_simp; done) | (go_simp; rfl)); intro gP hg_ WP hbox_ hb_; have BP := Aside0.mk hbox_; have SP := Aside0.mk (show w.heap.size ≤ gP from by rw [hg_]; exact below_size HB.out); have n_ := Aside0.mk (below_step HB.out hb_); clear HB; have HB := n_; clear n_; have n_ := Aside0.mk (Kd.V_below (Kd.V_elderB HV.out gP (Nat.le_of_eq hg_.symm)) hb_); clear HV; have HV := n_; clear n_; clear hb_ hbox_ hg_) | ((with_reducible refine gate_dst (N := 3) rfl ?_); refine box_event ?hg (N := 3) ?hd (cs := #[.int .i64 0]) (t := 3) ?hr ?_; (case hd => rfl); (case hg => rfl); (case hr => first | (go_simp; done) | (go_simp; rfl)); intro gQ hg_ WQ hbox_ hb_; have BQ := Aside0.mk hbox_; have n_ := Aside0.mk (blk_below BP.out hb_); clear BP; have BP := n_; clear n_; have SQ := Aside0.mk (show w.heap.size ≤ gQ from by rw [hg_]; exact below_size HB.out); have n_ := Aside0.mk (below_step HB.out hb_); clear HB; have HB := n_; clear n_; have n_ := Aside0.mk (Kd.V_below (Kd.V_elderB HV.out gQ (Nat.le_of_eq hg_.symm)) hb_); clear HV; have HV := n_; clear n_; clear hb_ hbox_ hg_) | ((with_reducible refine gate_dst (N := 4) rfl ?_); refine box_event ?hg (N := 4) ?hd (cs := #[.int .i64 0]) (t := 27) ?hr ?_; (case hd => rfl); (case hg => rfl); (case hr => first | (go_simp; done) | (go_simp; rfl)); intro gR hg_ WR hbox_ hb_; have BR := Aside0.mk hbox_; have n_ := Aside0.mk (blk_below BP.out hb_); clear BP; have BP := n_; clear n_; have n_ := Aside0.mk (blk_below BQ.out hb_); clear BQ; have BQ := n_; clear n_; have SR := Aside0.mk (show w.heap.size ≤ gR from by rw [hg_]; exact below_size HB.out); have n_ := Aside0.mk (below_step HB.out hb_); clear HB; have HB := n_; clear n_; have n_ := Aside0.mk (Kd.V_below (Kd.V_elderB HV.out gR (Nat.le_of_eq hg_.symm)) hb_); clear HV; have HV := n_; clear n_; clear hb_ hbox_ hg_) | ((with_reducible refine gate_callee (f := 42) rfl ?_); refine goesL_ (some 9) rfl rfl Tryd.func42 (by kernel_rfl) rfl #[.slice A0 l0.length c0, .int .i64 0, .int .i64 0] rfl (by (try simp only [List.map_toArray, List.map_cons, List.map_nil]); first | done | rfl | (simp only [List.length_drop, List.length_take]; rfl)) ?_; (with_reducible refine (nodes_parse.calls k (fun k_ => ((P0_ k_ ∧ k_ ≠ gP) ∧ k_ ≠ gQ) ∧ k_ ≠ gR) _ _ l0 0 0 (.ok (q1, q2, q3, (l0.length : Int))) _ ?side1 A1.out).mono ?_); (case side1 => exact HV.out); rintro e w5 ⟨v1, v2, rfl, ho1, ho2, hb5⟩; refine ⟨_, rfl, ?_⟩; have TP := blk_lt BP.out; have TQ := blk_lt BQ.out; have TR := blk_lt BR.out; have SB := below_size HB.out; obtain ⟨A1_, c1_, rfl⟩ := Kd.R_slice ho1; obtain ⟨A2_, c2_, rfl⟩ := Kd.N_slice ho2; have HR := Aside0.mk (Kd.R_lower (Kd.R_mono (ok' := fun k_ => w.heap.size ≤ k_ ∧ k_ ≠ gP ∧ k_ ≠ gQ ∧ k_ ≠ gR) ho1 (fun k_ hk => ⟨Nat.le_trans SB hk, by omega, by omega, by omega⟩)) SB); have HN := Aside0.mk (Kd.N_lower (Kd.N_mono (ok' := fun k_ => ((P0_ k_ ∨ w.heap.size ≤ k_) ∧ some k_ ≠ (Value.slice A1_ q2.length c1_).ownBlock) ∧ k_ ≠ gP ∧ k_ ≠ gQ ∧ k_ ≠ gR) ho2 (fun k_ hk => ⟨⟨hk.1.imp (fun z_ => z_.1.1.1) (fun z_ => Nat.le_trans SB z_), hk.2⟩, hk.1.elim (fun z_ => z_.1.1.2) (fun z_ => by omega), hk.1.elim (fun z_ => z_.1.2) (fun z_ => by omega), hk.1.elim (fun z_ => z_.2) (fun z_ => by omega)⟩)) SB); have nq_ := blk_ne BQ.out BP.out (by decide); have nr_ := blk_ne BR.out BP.out (by decide); have nrq := Aside0.mk (blk_ne BR.out BQ.out (by decide)); have nqp := Aside0.mk nq_; have nrp := Aside0.mk nr_; clear nq_ nr_; have n_ := Aside0.mk (below_step HB.out hb5); clear HB; have HB := n_; clear n_; have n_ := Aside0.mk (blk_below BP.out hb5); clear BP; have BP := n_; clear n_; have n_ := Aside0.mk (blk_below BQ.out hb5); clear BQ; have BQ := n_; clear n_; have n_ := Aside0.mk (blk_below BR.out hb5); clear BR; have BR := n_; clear n_; clear ho1 ho2 hb5 TP TQ TR SB HV; have hp0 : w5.cell? ⟨gP, 0, none⟩ = some (.int .u8 0) := (blk_cell BP.out 0).trans rfl; have hp1 : w5.cell? ⟨gP, 1, none⟩ = some (.slice none 0 0) := (blk_cell BP.out 1).trans rfl; have hp2 : w5.cell? ⟨gP, 2, none⟩ = some (.slice none 0 0) := (blk_cell BP.out 2).trans rfl; have fp0 := blk_frozen BP.out 0; have fp1 := blk_frozen BP.out 1; have fp2 := blk_frozen BP.out 2))
        clear hp0 hp1 hp2 fp0 fp1 fp2
        have mP := Aside0.mk (blk_put (blk_put (blk_put BP.out 0 (.int .u8 q1) rfl) 1 (.slice A1_ q2.length c1_) rfl) 2 (.slice A2_ q3.length c2_) rfl)
        have mQ := Aside0.mk (blk_far (p := ⟨gP, 2, none⟩) (blk_far (p := ⟨gP, 1, none⟩) (blk_far (p := ⟨gP, 0, none⟩) BQ.out nqp.out (.int .u8 q1)) nqp.out (.slice A1_ q2.length c1_)) nqp.out (.slice A2_ q3.length c2_))
        have mR := Aside0.mk (blk_far (p := ⟨gP, 2, none⟩) (blk_far (p := ⟨gP, 1, none⟩) (blk_far (p := ⟨gP, 0, none⟩) BR.out nrp.out (.int .u8 q1)) nrp.out (.slice A1_ q2.length c1_)) nrp.out (.slice A2_ q3.length c2_))
        have mHR := Aside0.mk (Kd.R_far (p := ⟨gP, 2, none⟩) (Kd.R_far (p := ⟨gP, 1, none⟩) (Kd.R_far (p := ⟨gP, 0, none⟩) HR.out (fun _ hk => hk.2.1) (.int .u8 q1)) (fun _ hk => hk.2.1) (.slice A1_ q2.length c1_)) (fun _ hk => hk.2.1) (.slice A2_ q3.length c2_))
        have mHN := Aside0.mk (Kd.N_far (p := ⟨gP, 2, none⟩) (Kd.N_far (p := ⟨gP, 1, none⟩) (Kd.N_far (p := ⟨gP, 0, none⟩) HN.out (fun _ hk => hk.2.1) (.int .u8 q1)) (fun _ hk => hk.2.1) (.slice A1_ q2.length c1_)) (fun _ hk => hk.2.1) (.slice A2_ q3.length c2_))
        have mHB := Aside0.mk (Below.setCell (Below.setCell (Below.setCell HB.out (p := ⟨gP, 0, none⟩) SP.out (.int .u8 q1)) (p := ⟨gP, 1, none⟩) SP.out (.slice A1_ q2.length c1_)) (p := ⟨gP, 2, none⟩) SP.out (.slice A2_ q3.length c2_))
        clear BP BQ BR HR HN HB
        generalize ((w5.setCell ⟨gP, 0, none⟩ (.int .u8 q1)).setCell ⟨gP, 1, none⟩ (.slice A1_ q2.length c1_)).setCell ⟨gP, 2, none⟩ (.slice A2_ q3.length c2_) = w6 at mP mQ mR mHR mHN mHB ⊢
        have BP := mP
        have BQ := mQ
        have BR := mR
        have HR := mHR
        have HN := mHN
        have HB := mHB
        clear mP mQ mR mHR mHN mHB
        refine (H.must_ok 44 (l0.length : Int) _).mono ?_
        rintro e w6 ⟨rfl, rfl⟩
        have hp0 : w6.cell? ⟨gP, 0, none⟩ = some (.int .u8 q1) := (blk_cell BP.out 0).trans rfl
        have hp1 : w6.cell? ⟨gP, 1, none⟩ = some (.slice A1_ q2.length c1_) := (blk_cell BP.out 1).trans rfl
        have hp2 : w6.cell? ⟨gP, 2, none⟩ = some (.slice A2_ q3.length c2_) := (blk_cell BP.out 2).trans rfl
        have fp0 := blk_frozen BP.out 0
        have fp1 := blk_frozen BP.out 1
        have fp2 := blk_frozen BP.out 2
        have hq0 : w6.cell? ⟨gQ, 0, none⟩ = some (.int .i64 0) := (blk_cell BQ.out 0).trans rfl
        have hr0 : w6.cell? ⟨gR, 0, none⟩ = some (.int .i64 0) := (blk_cell BR.out 0).trans rfl
        have fq0 := blk_frozen BQ.out 0
        have fr0 := blk_frozen BR.out 0
        have i0 := eq_false (Ne.symm nqp.out)
        have i1 := eq_false (Ne.symm nrp.out)
        have i2 := eq_false (Ne.symm nrq.out)
        have i3 := eq_false nqp.out
        have i4 := eq_false nrp.out
        have i5 := eq_false nrq.out
        go_wp2
        clear hp0 hp1 hp2 fp0 fp1 fp2 hq0 hr0 fq0 fr0 i0 i1 i2 i3 i4 i5
        have mP := Aside0.mk (blk_far (p := ⟨gR, 0, none⟩) (blk_far (p := ⟨gQ, 0, none⟩) (blk_put (blk_put (blk_put BP.out 0 (.int .u8 q1) rfl) 1 (.slice A1_ q2.length c1_) rfl) 2 (.slice A2_ q3.length c2_) rfl) (Ne.symm nqp.out) (.int .i64 0)) (Ne.symm nrp.out) (.int .i64 0))
        have mQ := Aside0.mk (blk_far (p := ⟨gR, 0, none⟩) (blk_put (blk_far (p := ⟨gP, 2, none⟩) (blk_far (p := ⟨gP, 1, none⟩) (blk_far (p := ⟨gP, 0, none⟩) BQ.out nqp.out (.int .u8 q1)) nqp.out (.slice A1_ q2.length c1_)) nqp.out (.slice A2_ q3.length c2_)) 0 (.int .i64 0) rfl) (Ne.symm nrq.out) (.int .i64 0))
        have mR := Aside0.mk (blk_put (blk_far (p := ⟨gQ, 0, none⟩) (blk_far (p := ⟨gP, 2, none⟩) (blk_far (p := ⟨gP, 1, none⟩) (blk_far (p := ⟨gP, 0, none⟩) BR.out nrp.out (.int .u8 q1)) nrp.out (.slice A1_ q2.length c1_)) nrp.out (.slice A2_ q3.length c2_)) nrq.out (.int .i64 0)) 0 (.int .i64 0) rfl)
        have mHR := Aside0.mk (Kd.R_far (p := ⟨gR, 0, none⟩) (Kd.R_far (p := ⟨gQ, 0, none⟩) (Kd.R_far (p := ⟨gP, 2, none⟩) (Kd.R_far (p := ⟨gP, 1, none⟩) (Kd.R_far (p := ⟨gP, 0, none⟩) HR.out (fun _ hk => hk.2.1) (.int .u8 q1)) (fun _ hk => hk.2.1) (.slice A1_ q2.length c1_)) (fun _ hk => hk.2.1) (.slice A2_ q3.length c2_)) (fun _ hk => hk.2.2.1) (.int .i64 0)) (fun _ hk => hk.2.2.2) (.int .i64 0))
        have mHN := Aside0.mk (Kd.N_far (p := ⟨gR, 0, none⟩) (Kd.N_far (p := ⟨gQ, 0, none⟩) (Kd.N_far (p := ⟨gP, 2, none⟩) (Kd.N_far (p := ⟨gP, 1, none⟩) (Kd.N_far (p := ⟨gP, 0, none⟩) HN.out (fun _ hk => hk.2.1) (.int .u8 q1)) (fun _ hk => hk.2.1) (.slice A1_ q2.length c1_)) (fun _ hk => hk.2.1) (.slice A2_ q3.length c2_)) (fun _ hk => hk.2.2.1) (.int .i64 0)) (fun _ hk => hk.2.2.2) (.int .i64 0))
        have mHB := Aside0.mk (Below.setCell (Below.setCell (Below.setCell (Below.setCell (Below.setCell HB.out (p := ⟨gP, 0, none⟩) SP.out (.int .u8 q1)) (p := ⟨gP, 1, none⟩) SP.out (.slice A1_ q2.length c1_)) (p := ⟨gP, 2, none⟩) SP.out (.slice A2_ q3.length c2_)) (p := ⟨gQ, 0, none⟩) SQ.out (.int .i64 0)) (p := ⟨gR, 0, none⟩) SR.out (.int .i64 0))
        clear BP BQ BR HR HN HB
        generalize ((((w6.setCell ⟨gP, 0, none⟩ (.int .u8 q1)).setCell ⟨gP, 1, none⟩ (.slice A1_ q2.length c1_)).setCell ⟨gP, 2, none⟩ (.slice A2_ q3.length c2_)).setCell ⟨gQ, 0, none⟩ (.int .i64 0)).setCell ⟨gR, 0, none⟩ (.int .i64 0) = w8 at mP mQ mR mHR mHN mHB ⊢
        have BP := mP
        have BQ := mQ
        have BR := mR
        have HR := mHR
        have HN := mHN
        have HB := mHB
        clear mP mQ mR mHR mHN mHB
        refine leaves_cons (f := 40) (args := #[.pointer (some ⟨gP, 0, none⟩), .pointer (some ⟨gQ, 0, none⟩), .pointer (some ⟨gR, 0, none⟩)]) (by simp) (by simp [go_sem]) ?_
        refine (H.parse1_idle ⟨gP, 0, none⟩ ⟨gQ, 0, none⟩ ⟨gR, 0, none⟩ w8).mono ?_
        rintro x u' w9 ⟨rfl, rfl, hb9⟩
        have hp0 : w9.cell? ⟨gP, 0, none⟩ = some (.int .u8 q1) := (blk_cell (blk_below BP.out hb9) 0).trans rfl
        have hp1 : w9.cell? ⟨gP, 1, none⟩ = some (.slice A1_ q2.length c1_) := (blk_cell (blk_below BP.out hb9) 1).trans rfl
        have hp2 : w9.cell? ⟨gP, 2, none⟩ = some (.slice A2_ q3.length c2_) := (blk_cell (blk_below BP.out hb9) 2).trans rfl
        have hq0 : w9.cell? ⟨gQ, 0, none⟩ = some (.int .i64 0) := (blk_cell (blk_below BQ.out hb9) 0).trans rfl
        have hr0 : w9.cell? ⟨gR, 0, none⟩ = some (.int .i64 0) := (blk_cell (blk_below BR.out hb9) 0).trans rfl
        refine ⟨_, ?hres, _, _, rfl, Kd.R_mono (Kd.R_below HR.out hb9) (fun _ hk => hk.1), Kd.N_mono (Kd.N_below HN.out hb9) (fun _ hk => hk.1), below_step HB.out hb9⟩
        case hres => simp [results, Tryd.results23, go_sem, asAddr, hp0, hp1, hp2, hq0, hr0]
      · rw [if_neg hn] at h
        simp only [Option.some.injEq, Prod.mk.injEq] at h
        obtain ⟨rfl, rfl, rfl, rfl, rfl⟩ := h
        have hne : (q4 == (l0.length : Int)) = false := by simpa using hn
        clear hn
        go_enter_defers Tryd.func23, Tryd.ntmps23
        go_wp2_with (first | ((with_reducible refine gate_dst (N := 2) rfl ?_); refine box_event ?hg (N := 2) ?hd (cs := #[.int .u8 0, .slice none 0 0, .slice none 0 0]) (t := 43) ?hr ?_; (case hd => rfl); (case hg => rfl); (case hr => first | (go_simp; done) | (go_simp; rfl)); intro gP hg_ WP hbox_ hb_; have BP := Aside0.mk hbox_; have SP := Aside0.mk (show w.heap.size ≤ gP from by rw [hg_]; exact below_size HB.out); have n_ := Aside0.mk (below_step HB.out hb_); clear HB; have HB := n_; clear n_; have n_ := Aside0.mk (Kd.V_below (Kd.V_elderB HV.out gP (Nat.le_of_eq hg_.symm)) hb_); clear HV; have HV := n_; clear n_; clear hb_ hbox_ hg_) | ((with_reducible refine gate_dst (N := 3) rfl ?_); refine box_event ?hg (N := 3) ?hd (cs := #[.int .i64 0]) (t := 3) ?hr ?_; (case hd => rfl); (case hg => rfl); (case hr => first | (go_simp; done) | (go_simp; rfl)); intro gQ hg_ WQ hbox_ hb_; have BQ := Aside0.mk hbox_; have n_ := Aside0.mk (blk_below BP.out hb_); clear BP; have BP := n_; clear n_; have SQ := Aside0.mk (show w.heap.size ≤ gQ from by rw [hg_]; exact below_size HB.out); have n_ := Aside0.mk (below_step HB.out hb_); clear HB; have HB := n_; clear n_; have n_ := Aside0.mk (Kd.V_below (Kd.V_elderB HV.out gQ (Nat.le_of_eq hg_.symm)) hb_); clear HV; have HV := n_; clear n_; clear hb_ hbox_ hg_) | ((with_reducible refine gate_dst (N := 4) rfl ?_); refine box_event ?hg (N := 4) ?hd (cs := #[.int .i64 0]) (t := 27) ?hr ?_; (case hd => rfl); (case hg => rfl); (case hr => first | (go_simp; done) | (go_simp; rfl)); intro gR hg_ WR hbox_ hb_; have BR := Aside0.mk hbox_; have n_ := Aside0.mk (blk_below BP.out hb_); clear BP; have BP := n_; clear n_; have n_ := Aside0.mk (blk_below BQ.out hb_); clear BQ; have BQ := n_; clear n_; have SR := Aside0.mk (show w.heap.size ≤ gR from by rw [hg_]; exact below_size HB.out); have n_ := Aside0.mk (below_step HB.out hb_); clear HB; have HB := n_; clear n_; have n_ := Aside0.mk (Kd.V_below (Kd.V_elderB HV.out gR (Nat.le_of_eq hg_.symm)) hb_); clear HV; have HV := n_; clear n_; clear hb_ hbox_ hg_) | ((with_reducible refine gate_callee (f := 42) rfl ?_); refine goesL_ (some 9) rfl rfl Tryd.func42 (by kernel_rfl) rfl #[.slice A0 l0.length c0, .int .i64 0, .int .i64 0] rfl (by (try simp only [List.map_toArray, List.map_cons, List.map_nil]); first | done | rfl | (simp only [List.length_drop, List.length_take]; rfl)) ?_; (with_reducible refine (nodes_parse.calls k (fun k_ => ((P0_ k_ ∧ k_ ≠ gP) ∧ k_ ≠ gQ) ∧ k_ ≠ gR) _ _ l0 0 0 (.ok (q1, q2, q3, q4)) _ ?side1 A1.out).mono ?_); (case side1 => exact HV.out); rintro e w5 ⟨v1, v2, rfl, ho1, ho2, hb5⟩; refine ⟨_, rfl, ?_⟩; have TP := blk_lt BP.out; have TQ := blk_lt BQ.out; have TR := blk_lt BR.out; have SB := below_size HB.out; obtain ⟨A1_, c1_, rfl⟩ := Kd.R_slice ho1; obtain ⟨A2_, c2_, rfl⟩ := Kd.N_slice ho2; have HR := Aside0.mk (Kd.R_lower (Kd.R_mono (ok' := fun k_ => w.heap.size ≤ k_ ∧ k_ ≠ gP ∧ k_ ≠ gQ ∧ k_ ≠ gR) ho1 (fun k_ hk => ⟨Nat.le_trans SB hk, by omega, by omega, by omega⟩)) SB); have HN := Aside0.mk (Kd.N_lower (Kd.N_mono (ok' := fun k_ => ((P0_ k_ ∨ w.heap.size ≤ k_) ∧ some k_ ≠ (Value.slice A1_ q2.length c1_).ownBlock) ∧ k_ ≠ gP ∧ k_ ≠ gQ ∧ k_ ≠ gR) ho2 (fun k_ hk => ⟨⟨hk.1.imp (fun z_ => z_.1.1.1) (fun z_ => Nat.le_trans SB z_), hk.2⟩, hk.1.elim (fun z_ => z_.1.1.2) (fun z_ => by omega), hk.1.elim (fun z_ => z_.1.2) (fun z_ => by omega), hk.1.elim (fun z_ => z_.2) (fun z_ => by omega)⟩)) SB); have nq_ := blk_ne BQ.out BP.out (by decide); have nr_ := blk_ne BR.out BP.out (by decide); have nrq := Aside0.mk (blk_ne BR.out BQ.out (by decide)); have nqp := Aside0.mk nq_; have nrp := Aside0.mk nr_; clear nq_ nr_; have n_ := Aside0.mk (below_step HB.out hb5); clear HB; have HB := n_; clear n_; have n_ := Aside0.mk (blk_below BP.out hb5); clear BP; have BP := n_; clear n_; have n_ := Aside0.mk (blk_below BQ.out hb5); clear BQ; have BQ := n_; clear n_; have n_ := Aside0.mk (blk_below BR.out hb5); clear BR; have BR := n_; clear n_; clear ho1 ho2 hb5 TP TQ TR SB HV; have hp0 : w5.cell? ⟨gP, 0, none⟩ = some (.int .u8 0) := (blk_cell BP.out 0).trans rfl; have hp1 : w5.cell? ⟨gP, 1, none⟩ = some (.slice none 0 0) := (blk_cell BP.out 1).trans rfl; have hp2 : w5.cell? ⟨gP, 2, none⟩ = some (.slice none 0 0) := (blk_cell BP.out 2).trans rfl; have fp0 := blk_frozen BP.out 0; have fp1 := blk_frozen BP.out 1; have fp2 := blk_frozen BP.out 2))
        clear hp0 hp1 hp2 fp0 fp1 fp2
        have mP := Aside0.mk (blk_put (blk_put (blk_put BP.out 0 (.int .u8 q1) rfl) 1 (.slice A1_ q2.length c1_) rfl) 2 (.slice A2_ q3.length c2_) rfl)
        have mQ := Aside0.mk (blk_far (p := ⟨gP, 2, none⟩) (blk_far (p := ⟨gP, 1, none⟩) (blk_far (p := ⟨gP, 0, none⟩) BQ.out nqp.out (.int .u8 q1)) nqp.out (.slice A1_ q2.length c1_)) nqp.out (.slice A2_ q3.length c2_))
        have mR := Aside0.mk (blk_far (p := ⟨gP, 2, none⟩) (blk_far (p := ⟨gP, 1, none⟩) (blk_far (p := ⟨gP, 0, none⟩) BR.out nrp.out (.int .u8 q1)) nrp.out (.slice A1_ q2.length c1_)) nrp.out (.slice A2_ q3.length c2_))
        have mHR := Aside0.mk (Kd.R_far (p := ⟨gP, 2, none⟩) (Kd.R_far (p := ⟨gP, 1, none⟩) (Kd.R_far (p := ⟨gP, 0, none⟩) HR.out (fun _ hk => hk.2.1) (.int .u8 q1)) (fun _ hk => hk.2.1) (.slice A1_ q2.length c1_)) (fun _ hk => hk.2.1) (.slice A2_ q3.length c2_))
        have mHN := Aside0.mk (Kd.N_far (p := ⟨gP, 2, none⟩) (Kd.N_far (p := ⟨gP, 1, none⟩) (Kd.N_far (p := ⟨gP, 0, none⟩) HN.out (fun _ hk => hk.2.1) (.int .u8 q1)) (fun _ hk => hk.2.1) (.slice A1_ q2.length c1_)) (fun _ hk => hk.2.1) (.slice A2_ q3.length c2_))
        have mHB := Aside0.mk (Below.setCell (Below.setCell (Below.setCell HB.out (p := ⟨gP, 0, none⟩) SP.out (.int .u8 q1)) (p := ⟨gP, 1, none⟩) SP.out (.slice A1_ q2.length c1_)) (p := ⟨gP, 2, none⟩) SP.out (.slice A2_ q3.length c2_))
        clear BP BQ BR HR HN HB
        generalize ((w5.setCell ⟨gP, 0, none⟩ (.int .u8 q1)).setCell ⟨gP, 1, none⟩ (.slice A1_ q2.length c1_)).setCell ⟨gP, 2, none⟩ (.slice A2_ q3.length c2_) = w6 at mP mQ mR mHR mHN mHB ⊢
        have BP := mP
        have BQ := mQ
        have BR := mR
        have HR := mHR
        have HN := mHN
        have HB := mHB
        clear mP mQ mR mHR mHN mHB
        refine (H.must_not 44 q4 _).mono ?_
        rintro e w6 ⟨rfl, rfl⟩
        go_wp2
        clear hne
        refine leaves_cons (f := 40) (args := #[.pointer (some ⟨gP, 0, none⟩), .pointer (some ⟨gQ, 0, none⟩), .pointer (some ⟨gR, 0, none⟩)]) (by simp) (by simp [go_sem]) ?_
        refine (H.parse1_caught gP gQ gR 44 q4 (by decide) [] w6 _ _ _ _ _ w.heap.size BP.out BQ.out BR.out SP.out SQ.out SR.out).mono ?_
        rintro x u' w7 ⟨rfl, rfl, DP, DQ, DR, hb7⟩
        have hp0 : w7.cell? ⟨gP, 0, none⟩ = some (.int .u8 0) := (blk_cell DP 0).trans rfl
        have hp1 : w7.cell? ⟨gP, 1, none⟩ = some (.slice none 0 0) := (blk_cell DP 1).trans rfl
        have hp2 : w7.cell? ⟨gP, 2, none⟩ = some (.slice none 0 0) := (blk_cell DP 2).trans rfl
        have hq0 : w7.cell? ⟨gQ, 0, none⟩ = some (.int .i64 q4) := (blk_cell DQ 0).trans rfl
        have hr0 : w7.cell? ⟨gR, 0, none⟩ = some (.int .i64 44) := (blk_cell DR 0).trans rfl
        refine ⟨_, ?hres, _, _, rfl, Kd.R_nil _ _ _ _ _, Kd.N_nil _ _ _ _ _, HB.out.trans hb7⟩
        case hres => simp [results, Tryd.results23, go_sem, asAddr, hp0, hp1, hp2, hq0, hr0]
end Go.Proofs.YtkceebgncfggjaaDoor.PD
