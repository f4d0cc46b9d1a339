/- Printed by a program of this session's (wip/xprint.py), for this claim: Go functions as plain Lean functions, and the proof that each call does what its function says. No condition beside those in each theorem's own line. -/
import Derived.Test.YtkceebgncfggjaaDoorPDx0
import Derived.Test.YtkceebgncfggjaaDoorHMustX
import Derived.Test.YtkceebgncfggjaaDoorHStubs
import Derived.Test.YtkceebgncfggjaaDoorPDx1
namespace Go.Proofs.YtkceebgncfggjaaDoor.PD
open Go.RowKit Go.Proofs.YtkceebgncfggjaaDoorW.PrintWords Go.Proofs.YtkceebgncfggjaaDoorW.PrintLast Go.Proofs.YtkceebgncfggjaaDoorW.PrintMore Go.Proofs.YtkceebgncfggjaaDoorX
attribute [local go_sem] max2_int min2_int max_two min_two max_three min_three max_four min_four   -- for this text's walks alone
set_option linter.unusedVariables false
set_option linter.unusedSimpArgs false

/-! ### nodes_tagged: function 52 -/
def nodes_tagged.f (k : Nat) (a0 : Int) (a1 : Int) : Option (XR (Unit)) := bindX (nodes_must.f ((Go.bits .and .u8 a0 31) != 31) 11 a1) fun _ => (if a0 ≥ 64 then (bindX (nodes_must.f true 43 a1) fun _ => (some (.ok (())))) else ((slices_Contains_byte_byte.f k (([1, 2, 3, 4, 5, 6, 12, 19, 22, 23, 24, 27, 48, 49] : List Int)) a0).bind fun t106 => (bindX (nodes_must.f t106 43 a1) fun _ => (some (.ok (()))))))
theorem nodes_tagged.mono : ∀ a0 a1 k, LeO (nodes_tagged.f k a0 a1) (nodes_tagged.f (k + 1) a0 a1) := by
 intro a0 a1 k
 unfold nodes_tagged.f
 repeat' first
   | (with_reducible exact slices_Contains_byte_byte.mono _ _ _)
   | (with_reducible exact LeO.refl _)
   | (with_reducible exact LeO.none _)
   | (with_reducible refine LeO.ite ?_ ?_)
   | (with_reducible refine LeO.bind ?_ (fun _ => ?_))
   | (with_reducible refine LeO_bindX ?_ (fun _ => ?_))
   | exact slices_Contains_byte_byte.mono _ _ _
   | exact LeO.none _
   | refine LeO.ite ?_ ?_
   | refine LeO.bind ?_ (fun _ => ?_)
set_option maxHeartbeats 8000000 in
set_option maxRecDepth 100000 in
theorem nodes_tagged.calls (k : Nat) (a0 : Int) (a1 : Int) (rr : XR (Unit)) (w : World) (h : nodes_tagged.f k a0 a1 = some rr) :
  Calls Tryd.prog 52 #[.int .u8 a0, .int .i64 a1] w fun e w' => XR.post rr (fun _ => e = .returned (.tuple #[]) ∧ Below w.heap.size w w') (fun er_ => ErrX w er_ e w') := by
 have HB := Aside0.mk (Below.refl w.heap.size w)
 have H : (bindX (nodes_must.f ((Go.bits .and .u8 a0 31) != 31) 11 a1) fun _ => (if a0 ≥ 64 then (bindX (nodes_must.f true 43 a1) fun _ => (some (.ok (())))) else ((slices_Contains_byte_byte.f k (([1, 2, 3, 4, 5, 6, 12, 19, 22, 23, 24, 27, 48, 49] : List Int)) a0).bind fun t106 => (bindX (nodes_must.f t106 43 a1) fun _ => (some (.ok (()))))))) = some rr := h
 clear h
 rcases bindX_some H with ⟨er_, A30, H⟩ | ⟨_, A30, H⟩
 ·obtain rfl := H
  have A3 := Aside0.mk A30
  clear A30
  go_enter Tryd.func52, Tryd.ntmps52
  go_wp2_with (first | ((with_reducible refine gate_callee (f := 43) rfl ?_); refine goesPL_ (some 9) rfl rfl Tryd.func43 (by kernel_rfl) rfl #[.bool ((Go.bits .and .u8 a0 31) != 31), .int .i64 11, .int .i64 a1] rfl (by (try simp only [List.map_toArray, List.map_cons, List.map_nil]); first | done | rfl | (simp only [List.length_drop, List.length_take]; rfl)) ?_; (with_reducible refine (nodes_must.calls ((Go.bits .and .u8 a0 31) != 31) 11 a1 (.error er_) _ A3.out).mono ?_); rintro e w' ⟨rfl, hbP⟩; refine ⟨_, rfl, ?_⟩; have HBP := below_step (by repeat (first | (with_reducible first | exact HB.out | apply below_alloc | apply pw_below_drewN | apply below_drew1) | exact HB.out)) hbP))
  exact bodyPostX rfl ⟨rfl, HBP⟩
 ·replace H : (if a0 ≥ 64 then (bindX (nodes_must.f true 43 a1) fun _ => (some (.ok (())))) else ((slices_Contains_byte_byte.f k (([1, 2, 3, 4, 5, 6, 12, 19, 22, 23, 24, 27, 48, 49] : List Int)) a0).bind fun t106 => (bindX (nodes_must.f t106 43 a1) fun _ => (some (.ok (())))))) = some rr := H
  have A3 := Aside0.mk A30
  clear A30
  obtain ⟨y103, hy103⟩ : ∃ y_ : List Int, y_ = (([1, 2, 3, 4, 5, 6, 12, 19, 22, 23, 24, 27, 48, 49] : List Int)) := ⟨_, rfl⟩
  replace H : (if a0 ≥ 64 then (bindX (nodes_must.f true 43 a1) fun _ => (some (.ok (())))) else ((slices_Contains_byte_byte.f k y103 a0).bind fun t106 => (bindX (nodes_must.f t106 43 a1) fun _ => (some (.ok (())))))) = some rr := by first | (rw [hy103]; with_reducible exact H) | (have H2_ := (Option.bind_some _ _).symm.trans H; rw [hy103]; with_reducible exact H2_) | (have H2_ := (Option.bind_some _ _).symm.trans H; with_reducible exact H2_) | with_reducible exact H | (rw [hy103]; exact H) | exact H
  have Ny103 := Aside0.mk hy103
  clear hy103
  by_cases c4 : a0 ≥ 64
  ·rw [if_pos c4] at H
   have c4b0 : decide (64 ≤ a0) = true := decide_eq_true c4
   clear c4
   rcases bindX_some H with ⟨er_, A50, H⟩ | ⟨_, A50, H⟩
   ·obtain rfl := H
    have A5 := Aside0.mk A50
    clear A50
    go_enter Tryd.func52, Tryd.ntmps52
    go_wp2_with (first | ((with_reducible refine gate_callee (f := 43) rfl ?_); refine goesL_ (some 9) rfl rfl Tryd.func43 (by kernel_rfl) rfl #[.bool ((Go.bits .and .u8 a0 31) != 31), .int .i64 11, .int .i64 a1] rfl (by (try simp only [List.map_toArray, List.map_cons, List.map_nil]); first | done | rfl | (simp only [List.length_drop, List.length_take]; rfl)) ?_; (with_reducible refine (nodes_must.calls ((Go.bits .and .u8 a0 31) != 31) 11 a1 (.ok ()) _ A3.out).mono ?_); rintro e w' ⟨rfl, ⟨nd, rfl⟩⟩; refine ⟨_, rfl, ?_⟩) | ((with_reducible refine gate_dst (N := 10) rfl ?_); refine Kd.R_lit (Kd.int .u8) _ 5 ?hg (N := 10) ?hd (xs := ([1, 2, 3, 4, 5, 6, 12, 19, 22, 23, 24, 27, 48, 49] : List Int)) (inner := [.int .u8 1, .int .u8 2, .int .u8 3, .int .u8 4, .int .u8 5, .int .u8 6, .int .u8 12, .int .u8 19, .int .u8 22, .int .u8 23, .int .u8 24, .int .u8 27, .int .u8 48, .int .u8 49]) (ok := fun _ => True) (okp := fun _ => True) ?hr ?hp (fun _ hk => hk) trivial (Below.refl _ _) (Nat.le_refl _) (by simp) ?_; (case hd => rfl); (case hg => rfl); (case hr => first | (go_simp; done) | (go_simp; rfl)); (case hp => exact (Reps.one (show Kd.M (Kd.int .u8) _ _ _ 1 [.int .u8 1] from rfl) (Reps.one (show Kd.M (Kd.int .u8) _ _ _ 2 [.int .u8 2] from rfl) (Reps.one (show Kd.M (Kd.int .u8) _ _ _ 3 [.int .u8 3] from rfl) (Reps.one (show Kd.M (Kd.int .u8) _ _ _ 4 [.int .u8 4] from rfl) (Reps.one (show Kd.M (Kd.int .u8) _ _ _ 5 [.int .u8 5] from rfl) (Reps.one (show Kd.M (Kd.int .u8) _ _ _ 6 [.int .u8 6] from rfl) (Reps.one (show Kd.M (Kd.int .u8) _ _ _ 12 [.int .u8 12] from rfl) (Reps.one (show Kd.M (Kd.int .u8) _ _ _ 19 [.int .u8 19] from rfl) (Reps.one (show Kd.M (Kd.int .u8) _ _ _ 22 [.int .u8 22] from rfl) (Reps.one (show Kd.M (Kd.int .u8) _ _ _ 23 [.int .u8 23] from rfl) (Reps.one (show Kd.M (Kd.int .u8) _ _ _ 24 [.int .u8 24] from rfl) (Reps.one (show Kd.M (Kd.int .u8) _ _ _ 27 [.int .u8 27] from rfl) (Reps.one (show Kd.M (Kd.int .u8) _ _ _ 48 [.int .u8 48] from rfl) (Reps.one (show Kd.M (Kd.int .u8) _ _ _ 49 [.int .u8 49] from rfl) (Reps.none _ _)))))))))))))))); intro v104 w6 ho7 hb hg_ hnew_; clear hg_ hnew_; (first | rw [← Ny103.out] at ho7 | (simp only [Int.reduceToNat] at ho7; rw [← Ny103.out] at ho7)); have n0_ := Aside0.mk (Kd.R_lower ho7 (below_size (by repeat (first | (with_reducible first | exact HB.out | apply below_alloc | apply pw_below_drewN | apply below_drew1) | exact HB.out)))); have n1_ := Aside0.mk (below_step (by repeat (first | (with_reducible first | exact HB.out | apply below_alloc | apply pw_below_drewN | apply below_drew1) | exact HB.out)) hb); clear HB; have HO105 := n0_; have HB := n1_; clear n0_ n1_; clear hb ho7) | ((with_reducible refine gate_callee (f := 43) rfl ?_); refine goesPL_ (some 19) rfl rfl Tryd.func43 (by kernel_rfl) rfl #[.bool true, .int .i64 43, .int .i64 a1] rfl (by (try simp only [List.map_toArray, List.map_cons, List.map_nil]); first | done | rfl | (simp only [List.length_drop, List.length_take]; rfl)) ?_; (with_reducible refine (nodes_must.calls true 43 a1 (.error er_) _ A5.out).mono ?_); rintro e w' ⟨rfl, hbP⟩; refine ⟨_, rfl, ?_⟩; have HBP := below_step (by repeat (first | (with_reducible first | exact HB.out | apply below_alloc | apply pw_below_drewN | apply below_drew1) | exact HB.out)) hbP))
    exact bodyPostX rfl ⟨rfl, HBP⟩
   ·replace H : (some (.ok (()))) = some rr := H
    have A5 := Aside0.mk A50
    clear A50
    obtain rfl := Option.some.inj H
    go_enter Tryd.func52, Tryd.ntmps52
    go_wp2_with (first | ((with_reducible refine gate_callee (f := 43) rfl ?_); refine goesL_ (some 9) rfl rfl Tryd.func43 (by kernel_rfl) rfl #[.bool ((Go.bits .and .u8 a0 31) != 31), .int .i64 11, .int .i64 a1] rfl (by (try simp only [List.map_toArray, List.map_cons, List.map_nil]); first | done | rfl | (simp only [List.length_drop, List.length_take]; rfl)) ?_; (with_reducible refine (nodes_must.calls ((Go.bits .and .u8 a0 31) != 31) 11 a1 (.ok ()) _ A3.out).mono ?_); rintro e w' ⟨rfl, ⟨nd, rfl⟩⟩; refine ⟨_, rfl, ?_⟩) | ((with_reducible refine gate_dst (N := 10) rfl ?_); refine Kd.R_lit (Kd.int .u8) _ 5 ?hg (N := 10) ?hd (xs := ([1, 2, 3, 4, 5, 6, 12, 19, 22, 23, 24, 27, 48, 49] : List Int)) (inner := [.int .u8 1, .int .u8 2, .int .u8 3, .int .u8 4, .int .u8 5, .int .u8 6, .int .u8 12, .int .u8 19, .int .u8 22, .int .u8 23, .int .u8 24, .int .u8 27, .int .u8 48, .int .u8 49]) (ok := fun _ => True) (okp := fun _ => True) ?hr ?hp (fun _ hk => hk) trivial (Below.refl _ _) (Nat.le_refl _) (by simp) ?_; (case hd => rfl); (case hg => rfl); (case hr => first | (go_simp; done) | (go_simp; rfl)); (case hp => exact (Reps.one (show Kd.M (Kd.int .u8) _ _ _ 1 [.int .u8 1] from rfl) (Reps.one (show Kd.M (Kd.int .u8) _ _ _ 2 [.int .u8 2] from rfl) (Reps.one (show Kd.M (Kd.int .u8) _ _ _ 3 [.int .u8 3] from rfl) (Reps.one (show Kd.M (Kd.int .u8) _ _ _ 4 [.int .u8 4] from rfl) (Reps.one (show Kd.M (Kd.int .u8) _ _ _ 5 [.int .u8 5] from rfl) (Reps.one (show Kd.M (Kd.int .u8) _ _ _ 6 [.int .u8 6] from rfl) (Reps.one (show Kd.M (Kd.int .u8) _ _ _ 12 [.int .u8 12] from rfl) (Reps.one (show Kd.M (Kd.int .u8) _ _ _ 19 [.int .u8 19] from rfl) (Reps.one (show Kd.M (Kd.int .u8) _ _ _ 22 [.int .u8 22] from rfl) (Reps.one (show Kd.M (Kd.int .u8) _ _ _ 23 [.int .u8 23] from rfl) (Reps.one (show Kd.M (Kd.int .u8) _ _ _ 24 [.int .u8 24] from rfl) (Reps.one (show Kd.M (Kd.int .u8) _ _ _ 27 [.int .u8 27] from rfl) (Reps.one (show Kd.M (Kd.int .u8) _ _ _ 48 [.int .u8 48] from rfl) (Reps.one (show Kd.M (Kd.int .u8) _ _ _ 49 [.int .u8 49] from rfl) (Reps.none _ _)))))))))))))))); intro v104 w8 ho9 hb hg_ hnew_; clear hg_ hnew_; (first | rw [← Ny103.out] at ho9 | (simp only [Int.reduceToNat] at ho9; rw [← Ny103.out] at ho9)); have n0_ := Aside0.mk (Kd.R_lower ho9 (below_size (by repeat (first | (with_reducible first | exact HB.out | apply below_alloc | apply pw_below_drewN | apply below_drew1) | exact HB.out)))); have n1_ := Aside0.mk (below_step (by repeat (first | (with_reducible first | exact HB.out | apply below_alloc | apply pw_below_drewN | apply below_drew1) | exact HB.out)) hb); clear HB; have HO105 := n0_; have HB := n1_; clear n0_ n1_; clear hb ho9) | ((with_reducible refine gate_callee (f := 43) rfl ?_); refine goesL_ (some 19) rfl rfl Tryd.func43 (by kernel_rfl) rfl #[.bool true, .int .i64 43, .int .i64 a1] rfl (by (try simp only [List.map_toArray, List.map_cons, List.map_nil]); first | done | rfl | (simp only [List.length_drop, List.length_take]; rfl)) ?_; (with_reducible refine (nodes_must.calls true 43 a1 (.ok ()) _ A5.out).mono ?_); rintro e w' ⟨rfl, ⟨nd, rfl⟩⟩; refine ⟨_, rfl, ?_⟩))
    first | go_end0 | ((try simp only [Exit.inBlock, Exit.then]); refine bodyPost_ret (results_none rfl _ _ _) rfl ?_)
    refine XR.post_ok ?_
    exact ⟨by first | rfl | (simp [errW_none, errW_some] <;> rfl) | (simp [*, errW_none, errW_some] <;> rfl), by repeat (first | (with_reducible first | exact HB.out | apply below_alloc | apply pw_below_drewN | apply below_drew1) | exact HB.out)⟩
  ·rw [if_neg c4] at H
   have c4b0 : decide (64 ≤ a0) = false := decide_eq_false c4
   clear c4
   replace H := Option.bind_eq_some_iff.mp H
   obtain ⟨t106, A100, H⟩ := H
   replace H : (bindX (nodes_must.f t106 43 a1) fun _ => (some (.ok (())))) = some rr := H
   have A10 := Aside0.mk A100
   clear A100
   rcases bindX_some H with ⟨er_, A110, H⟩ | ⟨_, A110, H⟩
   ·obtain rfl := H
    have A11 := Aside0.mk A110
    clear A110
    go_enter Tryd.func52, Tryd.ntmps52
    go_wp2_with (first | ((with_reducible refine gate_callee (f := 43) rfl ?_); refine goesL_ (some 9) rfl rfl Tryd.func43 (by kernel_rfl) rfl #[.bool ((Go.bits .and .u8 a0 31) != 31), .int .i64 11, .int .i64 a1] rfl (by (try simp only [List.map_toArray, List.map_cons, List.map_nil]); first | done | rfl | (simp only [List.length_drop, List.length_take]; rfl)) ?_; (with_reducible refine (nodes_must.calls ((Go.bits .and .u8 a0 31) != 31) 11 a1 (.ok ()) _ A3.out).mono ?_); rintro e w' ⟨rfl, ⟨nd, rfl⟩⟩; refine ⟨_, rfl, ?_⟩) | ((with_reducible refine gate_dst (N := 10) rfl ?_); refine Kd.R_lit (Kd.int .u8) _ 5 ?hg (N := 10) ?hd (xs := ([1, 2, 3, 4, 5, 6, 12, 19, 22, 23, 24, 27, 48, 49] : List Int)) (inner := [.int .u8 1, .int .u8 2, .int .u8 3, .int .u8 4, .int .u8 5, .int .u8 6, .int .u8 12, .int .u8 19, .int .u8 22, .int .u8 23, .int .u8 24, .int .u8 27, .int .u8 48, .int .u8 49]) (ok := fun _ => True) (okp := fun _ => True) ?hr ?hp (fun _ hk => hk) trivial (Below.refl _ _) (Nat.le_refl _) (by simp) ?_; (case hd => rfl); (case hg => rfl); (case hr => first | (go_simp; done) | (go_simp; rfl)); (case hp => exact (Reps.one (show Kd.M (Kd.int .u8) _ _ _ 1 [.int .u8 1] from rfl) (Reps.one (show Kd.M (Kd.int .u8) _ _ _ 2 [.int .u8 2] from rfl) (Reps.one (show Kd.M (Kd.int .u8) _ _ _ 3 [.int .u8 3] from rfl) (Reps.one (show Kd.M (Kd.int .u8) _ _ _ 4 [.int .u8 4] from rfl) (Reps.one (show Kd.M (Kd.int .u8) _ _ _ 5 [.int .u8 5] from rfl) (Reps.one (show Kd.M (Kd.int .u8) _ _ _ 6 [.int .u8 6] from rfl) (Reps.one (show Kd.M (Kd.int .u8) _ _ _ 12 [.int .u8 12] from rfl) (Reps.one (show Kd.M (Kd.int .u8) _ _ _ 19 [.int .u8 19] from rfl) (Reps.one (show Kd.M (Kd.int .u8) _ _ _ 22 [.int .u8 22] from rfl) (Reps.one (show Kd.M (Kd.int .u8) _ _ _ 23 [.int .u8 23] from rfl) (Reps.one (show Kd.M (Kd.int .u8) _ _ _ 24 [.int .u8 24] from rfl) (Reps.one (show Kd.M (Kd.int .u8) _ _ _ 27 [.int .u8 27] from rfl) (Reps.one (show Kd.M (Kd.int .u8) _ _ _ 48 [.int .u8 48] from rfl) (Reps.one (show Kd.M (Kd.int .u8) _ _ _ 49 [.int .u8 49] from rfl) (Reps.none _ _)))))))))))))))); intro v104 w12 ho13 hb hg_ hnew_; clear hg_ hnew_; (first | rw [← Ny103.out] at ho13 | (simp only [Int.reduceToNat] at ho13; rw [← Ny103.out] at ho13)); have n0_ := Aside0.mk (Kd.R_lower ho13 (below_size (by repeat (first | (with_reducible first | exact HB.out | apply below_alloc | apply pw_below_drewN | apply below_drew1) | exact HB.out)))); have n1_ := Aside0.mk (below_step (by repeat (first | (with_reducible first | exact HB.out | apply below_alloc | apply pw_below_drewN | apply below_drew1) | exact HB.out)) hb); clear HB; have HO105 := n0_; have HB := n1_; clear n0_ n1_; clear hb ho13; obtain ⟨Ao14, co14, eo14⟩ := Kd.R_slice HO105.out; subst eo14) | (go_at_call 66; (with_reducible refine (slices_Contains_byte_byte.calls k _ _ y103 a0 t106 _ ?side1 ?side2 A10.out).mono ?_); (case side1 => repeat (first | exact (Kd.R_reads' HO105.out).2.2 | (with_reducible refine Kd.C_alloc ?_ _) | (with_reducible refine Kd.C_drewN ?_ _) | (with_reducible refine Kd.C_drew ?_))); (case side2 => exact (Kd.R_reads' HO105.out).2.1); rintro e w' ⟨rfl, ⟨nd, rfl⟩⟩) | ((with_reducible refine gate_callee (f := 43) rfl ?_); refine goesPL_ (some 19) rfl rfl Tryd.func43 (by kernel_rfl) rfl #[.bool t106, .int .i64 43, .int .i64 a1] rfl (by (try simp only [List.map_toArray, List.map_cons, List.map_nil]); first | done | rfl | (simp only [List.length_drop, List.length_take]; rfl)) ?_; (with_reducible refine (nodes_must.calls t106 43 a1 (.error er_) _ A11.out).mono ?_); rintro e w' ⟨rfl, hbP⟩; refine ⟨_, rfl, ?_⟩; have HBP := below_step (by repeat (first | (with_reducible first | exact HB.out | apply below_alloc | apply pw_below_drewN | apply below_drew1) | exact HB.out)) hbP))
    exact bodyPostX rfl ⟨rfl, HBP⟩
   ·replace H : (some (.ok (()))) = some rr := H
    have A11 := Aside0.mk A110
    clear A110
    obtain rfl := Option.some.inj H
    go_enter Tryd.func52, Tryd.ntmps52
    go_wp2_with (first | ((with_reducible refine gate_callee (f := 43) rfl ?_); refine goesL_ (some 9) rfl rfl Tryd.func43 (by kernel_rfl) rfl #[.bool ((Go.bits .and .u8 a0 31) != 31), .int .i64 11, .int .i64 a1] rfl (by (try simp only [List.map_toArray, List.map_cons, List.map_nil]); first | done | rfl | (simp only [List.length_drop, List.length_take]; rfl)) ?_; (with_reducible refine (nodes_must.calls ((Go.bits .and .u8 a0 31) != 31) 11 a1 (.ok ()) _ A3.out).mono ?_); rintro e w' ⟨rfl, ⟨nd, rfl⟩⟩; refine ⟨_, rfl, ?_⟩) | ((with_reducible refine gate_dst (N := 10) rfl ?_); refine Kd.R_lit (Kd.int .u8) _ 5 ?hg (N := 10) ?hd (xs := ([1, 2, 3, 4, 5, 6, 12, 19, 22, 23, 24, 27, 48, 49] : List Int)) (inner := [.int .u8 1, .int .u8 2, .int .u8 3, .int .u8 4, .int .u8 5, .int .u8 6, .int .u8 12, .int .u8 19, .int .u8 22, .int .u8 23, .int .u8 24, .int .u8 27, .int .u8 48, .int .u8 49]) (ok := fun _ => True) (okp := fun _ => True) ?hr ?hp (fun _ hk => hk) trivial (Below.refl _ _) (Nat.le_refl _) (by simp) ?_; (case hd => rfl); (case hg => rfl); (case hr => first | (go_simp; done) | (go_simp; rfl)); (case hp => exact (Reps.one (show Kd.M (Kd.int .u8) _ _ _ 1 [.int .u8 1] from rfl) (Reps.one (show Kd.M (Kd.int .u8) _ _ _ 2 [.int .u8 2] from rfl) (Reps.one (show Kd.M (Kd.int .u8) _ _ _ 3 [.int .u8 3] from rfl) (Reps.one (show Kd.M (Kd.int .u8) _ _ _ 4 [.int .u8 4] from rfl) (Reps.one (show Kd.M (Kd.int .u8) _ _ _ 5 [.int .u8 5] from rfl) (Reps.one (show Kd.M (Kd.int .u8) _ _ _ 6 [.int .u8 6] from rfl) (Reps.one (show Kd.M (Kd.int .u8) _ _ _ 12 [.int .u8 12] from rfl) (Reps.one (show Kd.M (Kd.int .u8) _ _ _ 19 [.int .u8 19] from rfl) (Reps.one (show Kd.M (Kd.int .u8) _ _ _ 22 [.int .u8 22] from rfl) (Reps.one (show Kd.M (Kd.int .u8) _ _ _ 23 [.int .u8 23] from rfl) (Reps.one (show Kd.M (Kd.int .u8) _ _ _ 24 [.int .u8 24] from rfl) (Reps.one (show Kd.M (Kd.int .u8) _ _ _ 27 [.int .u8 27] from rfl) (Reps.one (show Kd.M (Kd.int .u8) _ _ _ 48 [.int .u8 48] from rfl) (Reps.one (show Kd.M (Kd.int .u8) _ _ _ 49 [.int .u8 49] from rfl) (Reps.none _ _)))))))))))))))); intro v104 w15 ho16 hb hg_ hnew_; clear hg_ hnew_; (first | rw [← Ny103.out] at ho16 | (simp only [Int.reduceToNat] at ho16; rw [← Ny103.out] at ho16)); have n0_ := Aside0.mk (Kd.R_lower ho16 (below_size (by repeat (first | (with_reducible first | exact HB.out | apply below_alloc | apply pw_below_drewN | apply below_drew1) | exact HB.out)))); have n1_ := Aside0.mk (below_step (by repeat (first | (with_reducible first | exact HB.out | apply below_alloc | apply pw_below_drewN | apply below_drew1) | exact HB.out)) hb); clear HB; have HO105 := n0_; have HB := n1_; clear n0_ n1_; clear hb ho16; obtain ⟨Ao17, co17, eo17⟩ := Kd.R_slice HO105.out; subst eo17) | (go_at_call 66; (with_reducible refine (slices_Contains_byte_byte.calls k _ _ y103 a0 t106 _ ?side1 ?side2 A10.out).mono ?_); (case side1 => repeat (first | exact (Kd.R_reads' HO105.out).2.2 | (with_reducible refine Kd.C_alloc ?_ _) | (with_reducible refine Kd.C_drewN ?_ _) | (with_reducible refine Kd.C_drew ?_))); (case side2 => exact (Kd.R_reads' HO105.out).2.1); rintro e w' ⟨rfl, ⟨nd, rfl⟩⟩) | ((with_reducible refine gate_callee (f := 43) rfl ?_); refine goesL_ (some 19) rfl rfl Tryd.func43 (by kernel_rfl) rfl #[.bool t106, .int .i64 43, .int .i64 a1] rfl (by (try simp only [List.map_toArray, List.map_cons, List.map_nil]); first | done | rfl | (simp only [List.length_drop, List.length_take]; rfl)) ?_; (with_reducible refine (nodes_must.calls t106 43 a1 (.ok ()) _ A11.out).mono ?_); rintro e w' ⟨rfl, ⟨nd, rfl⟩⟩; refine ⟨_, rfl, ?_⟩))
    first | go_end0 | ((try simp only [Exit.inBlock, Exit.then]); refine bodyPost_ret (results_none rfl _ _ _) rfl ?_)
    refine XR.post_ok ?_
    exact ⟨by first | rfl | (simp [errW_none, errW_some] <;> rfl) | (simp [*, errW_none, errW_some] <;> rfl), by repeat (first | (with_reducible first | exact HB.out | apply below_alloc | apply pw_below_drewN | apply below_drew1) | exact HB.out)⟩

/-! ### nodes_right: function 55 -/
mutual
def nodes_right.j0 : Nat → Int → List Int → Int → Int → Bool → Option (Bool)
 | 0, _, _, _, _, _ => none
 | k + 1, x0, x1, x5, x7, x29 => if x29 = true then ((texts_Time.f x0 x1).bind fun bt190 => (some (bt190.2 == 0))) else (if x7 = 5 then (some ((x1.length : Int) == 0)) else (if x7 = 12 then (nodes_right.j1 k x0 x1 x5 x7 (x7 == 12)) else (if x7 = 19 then (nodes_right.j1 k x0 x1 x5 x7 (x7 == 19)) else (if x7 = 22 then (nodes_right.j1 k x0 x1 x5 x7 (x7 == 22)) else (nodes_right.j1 k x0 x1 x5 x7 (x7 == 27))))))
def nodes_right.j1 : Nat → Int → List Int → Int → Int → Bool → Option (Bool)
 | 0, _, _, _, _, _ => none
 | k + 1, x0, x1, x5, x7, x43 => if x43 = true then ((texts_Right.f k x0 x1).bind fun t192 => (some t192)) else (if x7 = 3 then (if (x1.length : Int) < 2 then (if (x1.length : Int) = 1 then (if 0 < (x1.length : Int) then (some ((rd x1 0) == 0)) else (none)) else (some false)) else (if 0 < (x1.length : Int) then (if (rd x1 0) < 8 then (if 0 ≤ (wrap64 ((x1.length : Int) - 1)) then (if (wrap64 ((x1.length : Int) - 1)) < (x1.length : Int) then (some ((shl .u8 (rd x1 (wrap64 ((x1.length : Int) - 1))) ((8 - (rd x1 0)) % 256)) == 0)) else (none)) else (none)) else (some false)) else (none))) else (some (x5 == 0)))
end
def nodes_right.f (k : Nat) (a0 : Int) (l1 : List Int) : Option (Bool) := if a0 = 1 then ((ints_Bool.f k l1).bind fun bt182 => (some (bt182.2 == 0))) else (if a0 = 2 then ((ints_Int.f k l1).bind fun bt184 => (some (bt184.2 == 0))) else (if a0 = 6 then ((ints_OID.f k l1).bind fun bt186 => (some (bt186.2 == 0))) else (if a0 = 23 then (nodes_right.j0 k a0 l1 0 a0 (a0 == 23)) else (nodes_right.j0 k a0 l1 0 a0 (a0 == 24)))))
theorem nodes_right.mono_l : ∀ k, (∀ y0 y1 y2 y3 y4, LeO (nodes_right.j0 k y0 y1 y2 y3 y4) (nodes_right.j0 (k + 1) y0 y1 y2 y3 y4)) ∧ (∀ y0 y1 y2 y3 y4, LeO (nodes_right.j1 k y0 y1 y2 y3 y4) (nodes_right.j1 (k + 1) y0 y1 y2 y3 y4))
 | 0 => ⟨fun _ _ _ _ _ r h => by simp [nodes_right.j0] at h, fun _ _ _ _ _ r h => by simp [nodes_right.j1] at h⟩
 | k + 1 => by
  obtain ⟨ih0, ih1⟩ := nodes_right.mono_l k
  refine ⟨?_, ?_⟩
  ·intro y0 y1 y2 y3 y4
   unfold nodes_right.j0
   repeat' first
   | (with_reducible exact ih0 _ _ _ _ _)
   | (with_reducible exact ih1 _ _ _ _ _)
   | (with_reducible exact ints_Bool.mono _ _)
   | (with_reducible exact ints_Int.mono _ _)
   | (with_reducible exact ints_OID.mono _ _)
   | (with_reducible exact texts_Right.mono _ _ _)
   | (with_reducible exact LeO.refl _)
   | (with_reducible exact LeO.none _)
   | (with_reducible refine LeO.ite ?_ ?_)
   | (with_reducible refine LeO.bind ?_ (fun _ => ?_))
   | (with_reducible refine LeO_bindX ?_ (fun _ => ?_))
   | exact ih0 _ _ _ _ _
   | exact ih1 _ _ _ _ _
   | exact ints_Bool.mono _ _
   | exact ints_Int.mono _ _
   | exact ints_OID.mono _ _
   | exact texts_Right.mono _ _ _
   | exact LeO.none _
   | refine LeO.ite ?_ ?_
   | refine LeO.bind ?_ (fun _ => ?_)
  ·intro y0 y1 y2 y3 y4
   unfold nodes_right.j1
   repeat' first
   | (with_reducible exact ih0 _ _ _ _ _)
   | (with_reducible exact ih1 _ _ _ _ _)
   | (with_reducible exact ints_Bool.mono _ _)
   | (with_reducible exact ints_Int.mono _ _)
   | (with_reducible exact ints_OID.mono _ _)
   | (with_reducible exact texts_Right.mono _ _ _)
   | (with_reducible exact LeO.refl _)
   | (with_reducible exact LeO.none _)
   | (with_reducible refine LeO.ite ?_ ?_)
   | (with_reducible refine LeO.bind ?_ (fun _ => ?_))
   | (with_reducible refine LeO_bindX ?_ (fun _ => ?_))
   | exact ih0 _ _ _ _ _
   | exact ih1 _ _ _ _ _
   | exact ints_Bool.mono _ _
   | exact ints_Int.mono _ _
   | exact ints_OID.mono _ _
   | exact texts_Right.mono _ _ _
   | exact LeO.none _
   | refine LeO.ite ?_ ?_
   | refine LeO.bind ?_ (fun _ => ?_)
theorem nodes_right.mono : ∀ a0 a1 k, LeO (nodes_right.f k a0 a1) (nodes_right.f (k + 1) a0 a1) := by
 intro a0 a1 k
 obtain ⟨ih0, ih1⟩ := nodes_right.mono_l k
 unfold nodes_right.f
 repeat' first
   | (with_reducible exact ih0 _ _ _ _ _)
   | (with_reducible exact ih1 _ _ _ _ _)
   | (with_reducible exact ints_Bool.mono _ _)
   | (with_reducible exact ints_Int.mono _ _)
   | (with_reducible exact ints_OID.mono _ _)
   | (with_reducible exact texts_Right.mono _ _ _)
   | (with_reducible exact LeO.refl _)
   | (with_reducible exact LeO.none _)
   | (with_reducible refine LeO.ite ?_ ?_)
   | (with_reducible refine LeO.bind ?_ (fun _ => ?_))
   | (with_reducible refine LeO_bindX ?_ (fun _ => ?_))
   | exact ih0 _ _ _ _ _
   | exact ih1 _ _ _ _ _
   | exact ints_Bool.mono _ _
   | exact ints_Int.mono _ _
   | exact ints_OID.mono _ _
   | exact texts_Right.mono _ _ _
   | exact LeO.none _
   | refine LeO.ite ?_ ?_
   | refine LeO.bind ?_ (fun _ => ?_)
set_option maxHeartbeats 8000000 in
set_option maxRecDepth 100000 in
theorem nodes_right.calls (k : Nat) (a0 : Int) (A1 : Option Addr) (c1 : Nat) (l1 : List Int) (r : Bool) (w : World) (hr1 : Kd.C (Kd.int .u8) w A1 l1.length l1) (hc1 : l1.length ≤ c1) (h : nodes_right.f k a0 l1 = some r) :
  Calls Tryd.prog 55 #[.int .u8 a0, .slice A1 l1.length c1] w fun e w' => e = .returned (.bool r) ∧ Below w.heap.size w w' := by
 have HR1 := Aside0.mk hr1
 have HC1 := Aside0.mk hc1
 clear hr1 hc1
 have HB := Aside0.mk (Below.refl w.heap.size w)
 have H : (if a0 = 1 then ((ints_Bool.f k l1).bind fun bt182 => (some (bt182.2 == 0))) else (if a0 = 2 then ((ints_Int.f k l1).bind fun bt184 => (some (bt184.2 == 0))) else (if a0 = 6 then ((ints_OID.f k l1).bind fun bt186 => (some (bt186.2 == 0))) else (if a0 = 23 then (nodes_right.j0 k a0 l1 0 a0 (a0 == 23)) else (nodes_right.j0 k a0 l1 0 a0 (a0 == 24)))))) = some r := h
 clear h
 by_cases c3 : a0 = 1
 ·rw [if_pos c3] at H
  have c3b0 : (a0 == 1) = true := beq_iff_eq.mpr c3
  have c3b1 : (a0 != 1) = false := bne_eq_false_iff_eq.mpr c3
  clear c3
  replace H := Option.bind_eq_some_iff.mp H
  obtain ⟨⟨t182, t183⟩, A40, H⟩ := H
  replace H : (some (t183 == 0)) = some r := H
  have A4 := Aside0.mk A40
  clear A40
  obtain rfl := Option.some.inj H
  go_enter Tryd.func55, Tryd.ntmps55
  go_wp2_with (first | ((with_reducible refine gate_callee (f := 67) rfl ?_); refine goesL_ (some 12) rfl rfl Tryd.func67 (by kernel_rfl) rfl #[.slice A1 l1.length c1] rfl (by (try simp only [List.map_toArray, List.map_cons, List.map_nil]); first | done | rfl | (simp only [List.length_drop, List.length_take]; rfl)) ?_; (with_reducible refine (ints_Bool.calls k _ _ l1 t182 t183 _ ?side1 ?side2 A4.out).mono ?_); (case side1 => repeat (first | exact HR1.out | (with_reducible refine Kd.C_alloc ?_ _) | (with_reducible refine Kd.C_drewN ?_ _) | (with_reducible refine Kd.C_drew ?_))); (case side2 => exact HC1.out); rintro e w5 ⟨rfl, hb⟩; refine ⟨_, rfl, ?_⟩; have n0_ := Aside0.mk (below_step (by repeat (first | (with_reducible first | exact HB.out | apply below_alloc | apply pw_below_drewN | apply below_drew1) | exact HB.out)) hb); clear HB; have HB := n0_; clear n0_; (try clear hb); (try clear hb2); (try clear hk); (try clear hi)))
  go_ret
  exact ⟨by first | rfl | (simp [errW_none, errW_some] <;> rfl) | (simp [*, errW_none, errW_some] <;> rfl), by repeat (first | (with_reducible first | exact HB.out | apply below_alloc | apply pw_below_drewN | apply below_drew1) | exact HB.out)⟩
 ·rw [if_neg c3] at H
  have c3b0 : (a0 == 1) = false := beq_eq_false_iff_ne.mpr c3
  have c3b1 : (a0 != 1) = true := bne_iff_ne.mpr c3
  by_cases c6 : a0 = 2
  ·rw [if_pos c6] at H
   have c6b0 : (a0 == 2) = true := beq_iff_eq.mpr c6
   have c6b1 : (a0 != 2) = false := bne_eq_false_iff_eq.mpr c6
   clear c6
   replace H := Option.bind_eq_some_iff.mp H
   obtain ⟨⟨t184, t185⟩, A70, H⟩ := H
   replace H : (some (t185 == 0)) = some r := H
   have A7 := Aside0.mk A70
   clear A70
   obtain rfl := Option.some.inj H
   go_enter Tryd.func55, Tryd.ntmps55
   go_wp2_with (first | ((with_reducible refine gate_callee (f := 17) rfl ?_); refine goesL_ (some 19) rfl rfl Tryd.func17 (by kernel_rfl) rfl #[.slice A1 l1.length c1] rfl (by (try simp only [List.map_toArray, List.map_cons, List.map_nil]); first | done | rfl | (simp only [List.length_drop, List.length_take]; rfl)) ?_; (with_reducible refine (ints_Int.calls k _ _ l1 t184 t185 _ ?side1 ?side2 A7.out).mono ?_); (case side1 => repeat (first | exact HR1.out | (with_reducible refine Kd.C_alloc ?_ _) | (with_reducible refine Kd.C_drewN ?_ _) | (with_reducible refine Kd.C_drew ?_))); (case side2 => exact HC1.out); rintro e w8 ⟨rfl, hb⟩; refine ⟨_, rfl, ?_⟩; have n0_ := Aside0.mk (below_step (by repeat (first | (with_reducible first | exact HB.out | apply below_alloc | apply pw_below_drewN | apply below_drew1) | exact HB.out)) hb); clear HB; have HB := n0_; clear n0_; (try clear hb); (try clear hb2); (try clear hk); (try clear hi)))
   go_ret
   exact ⟨by first | rfl | (simp [errW_none, errW_some] <;> rfl) | (simp [*, errW_none, errW_some] <;> rfl), by repeat (first | (with_reducible first | exact HB.out | apply below_alloc | apply pw_below_drewN | apply below_drew1) | exact HB.out)⟩
  ·rw [if_neg c6] at H
   have c6b0 : (a0 == 2) = false := beq_eq_false_iff_ne.mpr c6
   have c6b1 : (a0 != 2) = true := bne_iff_ne.mpr c6
   by_cases c9 : a0 = 6
   ·rw [if_pos c9] at H
    have c9b0 : (a0 == 6) = true := beq_iff_eq.mpr c9
    have c9b1 : (a0 != 6) = false := bne_eq_false_iff_eq.mpr c9
    clear c9
    replace H := Option.bind_eq_some_iff.mp H
    obtain ⟨⟨t186, t187⟩, A100, H⟩ := H
    replace H : (some (t187 == 0)) = some r := H
    have A10 := Aside0.mk A100
    clear A100
    obtain rfl := Option.some.inj H
    go_enter Tryd.func55, Tryd.ntmps55
    go_wp2_with (first | ((with_reducible refine gate_callee (f := 20) rfl ?_); refine goesL_ (some 26) rfl rfl Tryd.func20 (by kernel_rfl) rfl #[.slice A1 l1.length c1] rfl (by (try simp only [List.map_toArray, List.map_cons, List.map_nil]); first | done | rfl | (simp only [List.length_drop, List.length_take]; rfl)) ?_; (with_reducible refine (ints_OID.calls k _ _ l1 t186 t187 _ ?side1 ?side2 A10.out).mono ?_); (case side1 => repeat (first | exact HR1.out | (with_reducible refine Kd.C_alloc ?_ _) | (with_reducible refine Kd.C_drewN ?_ _) | (with_reducible refine Kd.C_drew ?_))); (case side2 => exact HC1.out); rintro e w11 ⟨v188, rfl, ho0, hb⟩; refine ⟨_, rfl, ?_⟩; have n0_ := Aside0.mk (Kd.R_lower ho0 (below_size (by repeat (first | (with_reducible first | exact HB.out | apply below_alloc | apply pw_below_drewN | apply below_drew1) | exact HB.out)))); have n1_ := Aside0.mk (below_step (by repeat (first | (with_reducible first | exact HB.out | apply below_alloc | apply pw_below_drewN | apply below_drew1) | exact HB.out)) hb); clear HB; have HO189 := n0_; have HB := n1_; clear n0_ n1_; (try clear hb); (try clear hb2); (try clear hk); (try clear hi); (try clear ho0)))
    go_ret
    exact ⟨by first | rfl | (simp [errW_none, errW_some] <;> rfl) | (simp [*, errW_none, errW_some] <;> rfl), by repeat (first | (with_reducible first | exact HB.out | apply below_alloc | apply pw_below_drewN | apply below_drew1) | exact HB.out)⟩
   ·rw [if_neg c9] at H
    have c9b0 : (a0 == 6) = false := beq_eq_false_iff_ne.mpr c9
    have c9b1 : (a0 != 6) = true := bne_iff_ne.mpr c9
    have HC12 := Aside0.mk H
    clear H
    go_enter Tryd.func55, Tryd.ntmps55
    go_upto_if 29 with (fail)
    go_cut [29] (fun v29 wc => ∃ (kq : Nat) (x29_11 : Bool), v29 = .bool x29_11 ∧ Aside0 (nodes_right.j0 kq a0 l1 0 a0 x29_11 = some r) ∧ Aside0 (kq ≤ k) ∧ Aside0 (Below w.heap.size w wc))
    case first =>
     have H := HC12.out
     clear HC12
     by_cases c13 : a0 = 23
     ·rw [if_pos c13] at H
      have c13b0 : (a0 == 23) = true := beq_iff_eq.mpr c13
      have c13b1 : (a0 != 23) = false := bne_eq_false_iff_eq.mpr c13
      clear c13
      (first | rw [c13b0] | (simp only [i64_w, i32_w]; rw [c13b0]) | skip)
      have H' := Aside0.mk H
      clear H
      go_wp2
      go_meet
      case rel => exact ⟨_, ((a0 == 23)), (by first | rfl | (simp; done) | (simp [*]; done)), H', ⟨by first | omega | exact Nat.le_refl _⟩, ⟨by repeat (first | (with_reducible first | exact HB.out | apply below_alloc | apply pw_below_drewN | apply below_drew1) | exact HB.out)⟩⟩
     ·rw [if_neg c13] at H
      have c13b0 : (a0 == 23) = false := beq_eq_false_iff_ne.mpr c13
      have c13b1 : (a0 != 23) = true := bne_iff_ne.mpr c13
      (first | rw [c13b0] | (simp only [i64_w, i32_w]; rw [c13b0]) | skip)
      have H' := Aside0.mk H
      clear H
      go_wp2
      go_meet
      case rel => exact ⟨_, ((a0 == 24)), (by first | rfl | (simp; done) | (simp [*]; done)), H', ⟨by first | omega | exact Nat.le_refl _⟩, ⟨by repeat (first | (with_reducible first | exact HB.out | apply below_alloc | apply pw_below_drewN | apply below_drew1) | exact HB.out)⟩⟩
    case rest =>
     clear HC12
     try clear c1
     try clear c2
     try clear p2
     try clear c3
     try clear c3b0
     try clear c3b1
     try clear c5
     try clear c6
     try clear c6b0
     try clear c6b1
     try clear c9
     try clear c9b0
     try clear c9b1
     try clear c13
     try clear c13b0
     try clear c13b1
     obtain ⟨kq, x29_11, rfl, HA, HJ11, HB⟩ := hcut
     cases kq with
     | zero => exact absurd HA.out (by simp [nodes_right.j0])
     | succ kj11 =>
      have H := HA.out
      clear HA
      simp only [nodes_right.j0] at H
      by_cases c14 : x29_11 = true
      ·subst c14
       have H1 : ((texts_Time.f a0 l1).bind fun bt190 => (some (bt190.2 == 0))) = some r := by rw [if_pos rfl] at H; exact H
       clear H
       have H := H1
       clear H1
       replace H := Option.bind_eq_some_iff.mp H
       obtain ⟨⟨t190, t191⟩, A150, H⟩ := H
       replace H : (some (t191 == 0)) = some r := H
       have A15 := Aside0.mk A150
       clear A150
       obtain rfl := Option.some.inj H
       go_wp2_with (first | ((with_reducible refine gate_callee (f := 68) rfl ?_); refine goesL_ (some 35) rfl rfl Tryd.func68 (by kernel_rfl) rfl #[.int .u8 a0, .slice A1 l1.length c1] rfl (by (try simp only [List.map_toArray, List.map_cons, List.map_nil]); first | done | rfl | (simp only [List.length_drop, List.length_take]; rfl)) ?_; (with_reducible refine (texts_Time.calls a0 _ _ l1 t190 t191 _ ?side1 ?side2 A15.out).mono ?_); (case side1 => repeat (first | exact (Kd.C_below HR1.out HB.out) | (with_reducible refine Kd.C_alloc ?_ _) | (with_reducible refine Kd.C_drewN ?_ _) | (with_reducible refine Kd.C_drew ?_))); (case side2 => exact HC1.out); rintro e w16 ⟨rfl, hb⟩; refine ⟨_, rfl, ?_⟩; have n0_ := Aside0.mk (below_step (by repeat (first | (with_reducible first | exact HB.out | apply below_alloc | apply pw_below_drewN | apply below_drew1) | exact HB.out)) hb); clear HB; have HB := n0_; clear n0_; (try clear hb); (try clear hb2); (try clear hk); (try clear hi)))
       go_ret
       exact ⟨by first | rfl | (simp [errW_none, errW_some] <;> rfl) | (simp [*, errW_none, errW_some] <;> rfl), by repeat (first | (with_reducible first | exact HB.out | apply below_alloc | apply pw_below_drewN | apply below_drew1) | exact HB.out)⟩
      ·replace c14 := Bool.eq_false_iff.mpr c14
       subst c14
       have H1 : (if a0 = 5 then (some ((l1.length : Int) == 0)) else (if a0 = 12 then (nodes_right.j1 kj11 a0 l1 0 a0 (a0 == 12)) else (if a0 = 19 then (nodes_right.j1 kj11 a0 l1 0 a0 (a0 == 19)) else (if a0 = 22 then (nodes_right.j1 kj11 a0 l1 0 a0 (a0 == 22)) else (nodes_right.j1 kj11 a0 l1 0 a0 (a0 == 27)))))) = some r := by rw [if_neg (show ¬ (false = true) by decide)] at H; exact H
       clear H
       have H := H1
       clear H1
       by_cases c17 : a0 = 5
       ·rw [if_pos c17] at H
        have c17b0 : (a0 == 5) = true := beq_iff_eq.mpr c17
        have c17b1 : (a0 != 5) = false := bne_eq_false_iff_eq.mpr c17
        clear c17
        obtain rfl := Option.some.inj H
        go_wp2
        go_ret
        exact ⟨by first | rfl | (simp [errW_none, errW_some] <;> rfl) | (simp [*, errW_none, errW_some] <;> rfl), by repeat (first | (with_reducible first | exact HB.out | apply below_alloc | apply pw_below_drewN | apply below_drew1) | exact HB.out)⟩
       ·rw [if_neg c17] at H
        have c17b0 : (a0 == 5) = false := beq_eq_false_iff_ne.mpr c17
        have c17b1 : (a0 != 5) = true := bne_iff_ne.mpr c17
        have HC18 := Aside0.mk H
        clear H
        go_upto_if 43 with (fail)
        go_cut [43] (fun v43 wc => ∃ (kq : Nat) (x43_17 : Bool), v43 = .bool x43_17 ∧ Aside0 (nodes_right.j1 kq a0 l1 0 a0 x43_17 = some r) ∧ Aside0 (kq ≤ kj11) ∧ Aside0 (Below w.heap.size w wc))
        case first =>
         have H := HC18.out
         clear HC18
         by_cases c19 : a0 = 12
         ·rw [if_pos c19] at H
          have c19b0 : (a0 == 12) = true := beq_iff_eq.mpr c19
          have c19b1 : (a0 != 12) = false := bne_eq_false_iff_eq.mpr c19
          clear c19
          (first | rw [c19b0] | (simp only [i64_w, i32_w]; rw [c19b0]) | skip)
          have H' := Aside0.mk H
          clear H
          go_wp2
          go_meet
          case rel => exact ⟨_, ((a0 == 12)), (by first | rfl | (simp; done) | (simp [*]; done)), H', ⟨by have := HJ11.out; first | omega | exact Nat.le_refl _⟩, ⟨by repeat (first | (with_reducible first | exact HB.out | apply below_alloc | apply pw_below_drewN | apply below_drew1) | exact HB.out)⟩⟩
         ·rw [if_neg c19] at H
          have c19b0 : (a0 == 12) = false := beq_eq_false_iff_ne.mpr c19
          have c19b1 : (a0 != 12) = true := bne_iff_ne.mpr c19
          (first | rw [c19b0] | (simp only [i64_w, i32_w]; rw [c19b0]) | skip)
          by_cases c20 : a0 = 19
          ·rw [if_pos c20] at H
           have c20b0 : (a0 == 19) = true := beq_iff_eq.mpr c20
           have c20b1 : (a0 != 19) = false := bne_eq_false_iff_eq.mpr c20
           clear c20
           have H' := Aside0.mk H
           clear H
           go_wp2
           go_meet
           case rel => exact ⟨_, ((a0 == 19)), (by first | rfl | (simp; done) | (simp [*]; done)), H', ⟨by have := HJ11.out; first | omega | exact Nat.le_refl _⟩, ⟨by repeat (first | (with_reducible first | exact HB.out | apply below_alloc | apply pw_below_drewN | apply below_drew1) | exact HB.out)⟩⟩
          ·rw [if_neg c20] at H
           have c20b0 : (a0 == 19) = false := beq_eq_false_iff_ne.mpr c20
           have c20b1 : (a0 != 19) = true := bne_iff_ne.mpr c20
           by_cases c21 : a0 = 22
           ·rw [if_pos c21] at H
            have c21b0 : (a0 == 22) = true := beq_iff_eq.mpr c21
            have c21b1 : (a0 != 22) = false := bne_eq_false_iff_eq.mpr c21
            clear c21
            have H' := Aside0.mk H
            clear H
            go_wp2
            go_meet
            case rel => exact ⟨_, ((a0 == 22)), (by first | rfl | (simp; done) | (simp [*]; done)), H', ⟨by have := HJ11.out; first | omega | exact Nat.le_refl _⟩, ⟨by repeat (first | (with_reducible first | exact HB.out | apply below_alloc | apply pw_below_drewN | apply below_drew1) | exact HB.out)⟩⟩
           ·rw [if_neg c21] at H
            have c21b0 : (a0 == 22) = false := beq_eq_false_iff_ne.mpr c21
            have c21b1 : (a0 != 22) = true := bne_iff_ne.mpr c21
            have H' := Aside0.mk H
            clear H
            go_wp2
            go_meet
            case rel => exact ⟨_, ((a0 == 27)), (by first | rfl | (simp; done) | (simp [*]; done)), H', ⟨by have := HJ11.out; first | omega | exact Nat.le_refl _⟩, ⟨by repeat (first | (with_reducible first | exact HB.out | apply below_alloc | apply pw_below_drewN | apply below_drew1) | exact HB.out)⟩⟩
        case rest =>
         clear HC18
         try clear c1
         try clear c2
         try clear p2
         try clear c3
         try clear c3b0
         try clear c3b1
         try clear c5
         try clear c6
         try clear c6b0
         try clear c6b1
         try clear c9
         try clear c9b0
         try clear c9b1
         try clear c13
         try clear c13b0
         try clear c13b1
         try clear c14
         try clear c17
         try clear c17b0
         try clear c17b1
         try clear c19
         try clear c19b0
         try clear c19b1
         try clear c20
         try clear c20b0
         try clear c20b1
         try clear c21
         try clear c21b0
         try clear c21b1
         try clear p2
         obtain ⟨kq, x43_17, rfl, HA, HJ17, HB⟩ := hcut
         cases kq with
         | zero => exact absurd HA.out (by simp [nodes_right.j1])
         | succ kj17 =>
          have H := HA.out
          clear HA
          simp only [nodes_right.j1] at H
          by_cases c22 : x43_17 = true
          ·subst c22
           have H1 : ((texts_Right.f kj17 a0 l1).bind fun t192 => (some t192)) = some r := by rw [if_pos rfl] at H; exact H
           clear H
           have H := H1
           clear H1
           replace H := Option.bind_eq_some_iff.mp H
           obtain ⟨t192, A230, H⟩ := H
           replace H : (some t192) = some r := H
           have A23 := Aside0.mk A230
           clear A230
           obtain rfl := Option.some.inj H
           go_wp2_with (first | ((with_reducible refine gate_callee (f := 69) rfl ?_); refine goesL_ (some 50) rfl rfl Tryd.func69 (by kernel_rfl) rfl #[.int .u8 a0, .slice A1 l1.length c1] rfl (by (try simp only [List.map_toArray, List.map_cons, List.map_nil]); first | done | rfl | (simp only [List.length_drop, List.length_take]; rfl)) ?_; (with_reducible refine (texts_Right.calls kj17 a0 _ _ l1 t192 _ ?side1 ?side2 A23.out).mono ?_); (case side1 => repeat (first | exact (Kd.C_below HR1.out HB.out) | (with_reducible refine Kd.C_alloc ?_ _) | (with_reducible refine Kd.C_drewN ?_ _) | (with_reducible refine Kd.C_drew ?_))); (case side2 => exact HC1.out); rintro e w24 ⟨rfl, hb⟩; refine ⟨_, rfl, ?_⟩; have n0_ := Aside0.mk (below_step (by repeat (first | (with_reducible first | exact HB.out | apply below_alloc | apply pw_below_drewN | apply below_drew1) | exact HB.out)) hb); clear HB; have HB := n0_; clear n0_; (try clear hb); (try clear hb2); (try clear hk); (try clear hi)))
           go_ret
           exact ⟨by first | rfl | (simp [errW_none, errW_some] <;> rfl) | (simp [*, errW_none, errW_some] <;> rfl), by repeat (first | (with_reducible first | exact HB.out | apply below_alloc | apply pw_below_drewN | apply below_drew1) | exact HB.out)⟩
          ·replace c22 := Bool.eq_false_iff.mpr c22
           subst c22
           have H1 : (if a0 = 3 then (if (l1.length : Int) < 2 then (if (l1.length : Int) = 1 then (if 0 < (l1.length : Int) then (some ((rd l1 0) == 0)) else (none)) else (some false)) else (if 0 < (l1.length : Int) then (if (rd l1 0) < 8 then (if 0 ≤ (wrap64 ((l1.length : Int) - 1)) then (if (wrap64 ((l1.length : Int) - 1)) < (l1.length : Int) then (some ((shl .u8 (rd l1 (wrap64 ((l1.length : Int) - 1))) ((8 - (rd l1 0)) % 256)) == 0)) else (none)) else (none)) else (some false)) else (none))) else (some (0 == 0))) = some r := by rw [if_neg (show ¬ (false = true) by decide)] at H; exact H
           clear H
           have H := H1
           clear H1
           by_cases c25 : a0 = 3
           ·rw [if_pos c25] at H
            have c25b0 : (a0 == 3) = true := beq_iff_eq.mpr c25
            have c25b1 : (a0 != 3) = false := bne_eq_false_iff_eq.mpr c25
            clear c25
            by_cases c26 : (l1.length : Int) < 2
            ·rw [if_pos c26] at H
             have c26b0 : decide ((l1.length : Int) < 2) = true := decide_eq_true c26
             have c26b1 : decide (l1.length < 2) = true := decide_eq_true (by omega)
             clear c26
             by_cases c27 : (l1.length : Int) = 1
             ·rw [if_pos c27] at H
              have c27b0 : ((l1.length : Int) == 1) = true := beq_iff_eq.mpr c27
              have c27b1 : ((l1.length : Int) != 1) = false := bne_eq_false_iff_eq.mpr c27
              clear c27
              by_cases c28 : 0 < (l1.length : Int)
              ·rw [if_pos c28] at H
               have c28b0 : decide (0 < (l1.length : Int)) = true := decide_eq_true c28
               have c28b1 : decide (0 < l1.length) = true := decide_eq_true (by omega)
               clear c28
               obtain rfl := Option.some.inj H
               have p193 : 0 ≤ (0 : Int) := (by omega)
               have q193 : 0 < (l1.length : Int) := of_decide_eq_true (by first | (with_reducible assumption) | assumption)
               obtain ⟨ad193, e193, hx193_0⟩ := Kd.at_int HR1.out 0 p193 q193
               cases e193
               have qi193 : (0 < l1.length) = True := eq_true (by omega)
               (try rw [show ((0 : Int)).toNat = 0 from rfl] at hx193_0)
               (try rw [Addr.add_zero'] at hx193_0)
               replace hx193_0 := (HB.out.cell (World.block_lt_of_cell? w _ hx193_0)).trans hx193_0
               replace p193 := eq_true p193
               replace q193 := eq_true q193
               go_wp2
               go_ret
               exact ⟨by first | rfl | (simp [errW_none, errW_some] <;> rfl) | (simp [*, errW_none, errW_some] <;> rfl), by repeat (first | (with_reducible first | exact HB.out | apply below_alloc | apply pw_below_drewN | apply below_drew1) | exact HB.out)⟩
              ·rw [if_neg c28] at H
               exact absurd H (by simp)
             ·rw [if_neg c27] at H
              have c27b0 : ((l1.length : Int) == 1) = false := beq_eq_false_iff_ne.mpr c27
              have c27b1 : ((l1.length : Int) != 1) = true := bne_iff_ne.mpr c27
              obtain rfl := Option.some.inj H
              go_wp2
              go_ret
              exact ⟨by first | rfl | (simp [errW_none, errW_some] <;> rfl) | (simp [*, errW_none, errW_some] <;> rfl), by repeat (first | (with_reducible first | exact HB.out | apply below_alloc | apply pw_below_drewN | apply below_drew1) | exact HB.out)⟩
            ·rw [if_neg c26] at H
             have c26b0 : decide ((l1.length : Int) < 2) = false := decide_eq_false c26
             have c26b1 : decide (l1.length < 2) = false := decide_eq_false (by omega)
             clear c26
             by_cases c29 : 0 < (l1.length : Int)
             ·rw [if_pos c29] at H
              have c29b0 : decide (0 < (l1.length : Int)) = true := decide_eq_true c29
              have c29b1 : decide (0 < l1.length) = true := decide_eq_true (by omega)
              clear c29
              by_cases c30 : (rd l1 0) < 8
              ·rw [if_pos c30] at H
               have c30b0 : decide ((rd l1 0) < 8) = true := decide_eq_true c30
               clear c30
               obtain ⟨ji31, hji31⟩ : ∃ j_ : Int, (wrap64 ((l1.length : Int) - 1)) = j_ := ⟨_, rfl⟩
               replace H : (if 0 ≤ (ji31) then (if (ji31) < (l1.length : Int) then (some ((shl .u8 (rd l1 (ji31)) ((8 - (rd l1 0)) % 256)) == 0)) else (none)) else (none)) = some r := by first | (rw [hji31] at H; exact H) | (simp only [hji31] at H ⊢; exact H)
               have hji31w : (IntKind.i64.wrap ((l1.length : Int) - 1)) = ji31 := (i64_w _).trans hji31
               by_cases c32 : 0 ≤ (ji31)
               ·rw [if_pos c32] at H
                have c32b0 : decide (0 ≤ (ji31)) = true := decide_eq_true c32
                clear c32
                by_cases c33 : (ji31) < (l1.length : Int)
                ·rw [if_pos c33] at H
                 have c33b0 : decide ((ji31) < (l1.length : Int)) = true := decide_eq_true c33
                 clear c33
                 obtain ⟨ji34, hji34⟩ : ∃ j_ : Int, (shl .u8 (rd l1 (ji31)) ((8 - (rd l1 0)) % 256)) = j_ := ⟨_, rfl⟩
                 replace H : (some ((ji34) == 0)) = some r := by first | (rw [hji34] at H; exact H) | (simp only [hji34] at H ⊢; exact H)
                 have hji34_ : (IntKind.u8.wrap ((rd l1 (ji31)) * 2 ^ min ((8 - (rd l1 0)) % 256).toNat 8)) = ji34 := hji34
                 have hji34r := fun W => shl_run (P := Tryd.prog) .u8 hji34 (Int.emod_nonneg _ (by decide)) W
                 have hji34z : ((8 - (rd l1 0)) % 256) ≤ 8 → (IntKind.u8.wrap ((rd l1 (ji31)) * 2 ^ ((8 - (rd l1 0)) % 256).toNat)) = ji34 := shl_small hji34
                 obtain rfl := Option.some.inj H
                 have p194 : 0 ≤ (0 : Int) := (by omega)
                 have q194 : 0 < (l1.length : Int) := of_decide_eq_true (by first | (with_reducible assumption) | assumption)
                 obtain ⟨ad194, e194, hx194_0⟩ := Kd.at_int HR1.out 0 p194 q194
                 cases e194
                 have qi194 : (0 < l1.length) = True := eq_true (by omega)
                 (try rw [show ((0 : Int)).toNat = 0 from rfl] at hx194_0)
                 (try rw [Addr.add_zero'] at hx194_0)
                 replace hx194_0 := (HB.out.cell (World.block_lt_of_cell? w _ hx194_0)).trans hx194_0
                 replace p194 := eq_true p194
                 replace q194 := eq_true q194
                 have p195 : 0 ≤ ((ji31) : Int) := of_decide_eq_true (by first | (with_reducible assumption) | assumption)
                 have q195 : (ji31) < (l1.length : Int) := of_decide_eq_true (by first | (with_reducible assumption) | assumption)
                 obtain ⟨ad195, e195, hx195_0⟩ := Kd.at_int HR1.out (ji31) p195 q195
                 obtain rfl : ad194 = ad195 := (by injection e195)
                 replace hx195_0 := (HB.out.cell (World.block_lt_of_cell? w _ hx195_0)).trans hx195_0
                 replace p195 := eq_true p195
                 replace q195 := eq_true q195
                 go_wp2
                 go_ret
                 exact ⟨by first | rfl | (simp [errW_none, errW_some] <;> rfl) | (simp only [← hji31, ← hji34]; first | rfl | (simp [errW_none, errW_some] <;> rfl)) | (simp [*, errW_none, errW_some] <;> rfl), by repeat (first | (with_reducible first | exact HB.out | apply below_alloc | apply pw_below_drewN | apply below_drew1) | exact HB.out)⟩
                ·rw [if_neg c33] at H
                 exact absurd H (by simp)
               ·rw [if_neg c32] at H
                exact absurd H (by simp)
              ·rw [if_neg c30] at H
               have c30b0 : decide ((rd l1 0) < 8) = false := decide_eq_false c30
               clear c30
               obtain rfl := Option.some.inj H
               have p194 : 0 ≤ (0 : Int) := (by omega)
               have q194 : 0 < (l1.length : Int) := of_decide_eq_true (by first | (with_reducible assumption) | assumption)
               obtain ⟨ad194, e194, hx194_0⟩ := Kd.at_int HR1.out 0 p194 q194
               cases e194
               have qi194 : (0 < l1.length) = True := eq_true (by omega)
               (try rw [show ((0 : Int)).toNat = 0 from rfl] at hx194_0)
               (try rw [Addr.add_zero'] at hx194_0)
               replace hx194_0 := (HB.out.cell (World.block_lt_of_cell? w _ hx194_0)).trans hx194_0
               replace p194 := eq_true p194
               replace q194 := eq_true q194
               go_wp2
               go_ret
               exact ⟨by first | rfl | (simp [errW_none, errW_some] <;> rfl) | (simp [*, errW_none, errW_some] <;> rfl), by repeat (first | (with_reducible first | exact HB.out | apply below_alloc | apply pw_below_drewN | apply below_drew1) | exact HB.out)⟩
             ·rw [if_neg c29] at H
              exact absurd H (by simp)
           ·rw [if_neg c25] at H
            have c25b0 : (a0 == 3) = false := beq_eq_false_iff_ne.mpr c25
            have c25b1 : (a0 != 3) = true := bne_iff_ne.mpr c25
            obtain rfl := Option.some.inj H
            go_wp2
            go_ret
            exact ⟨by first | rfl | (simp [errW_none, errW_some] <;> rfl) | (simp [*, errW_none, errW_some] <;> rfl), by repeat (first | (with_reducible first | exact HB.out | apply below_alloc | apply pw_below_drewN | apply below_drew1) | exact HB.out)⟩

/-! ### nodes_rise: function 56 -/
def nodes_rise.f (k : Nat) (a0 : Int) (l1 : List (List Int)) (a2 : Int) : Option (XR (Unit)) := if a0 = 49 then ((slices_IsSortedFunc_byte_byte.f k l1).bind fun t196 => (bindX (nodes_must.f t196 42 a2) fun _ => (some (.ok (()))))) else (bindX (nodes_must.f true 42 a2) fun _ => (some (.ok (()))))
theorem nodes_rise.mono : ∀ a0 a1 a2 k, LeO (nodes_rise.f k a0 a1 a2) (nodes_rise.f (k + 1) a0 a1 a2) := by
 intro a0 a1 a2 k
 unfold nodes_rise.f
 repeat' first
   | (with_reducible exact slices_IsSortedFunc_byte_byte.mono _ _)
   | (with_reducible exact LeO.refl _)
   | (with_reducible exact LeO.none _)
   | (with_reducible refine LeO.ite ?_ ?_)
   | (with_reducible refine LeO.bind ?_ (fun _ => ?_))
   | (with_reducible refine LeO_bindX ?_ (fun _ => ?_))
   | exact slices_IsSortedFunc_byte_byte.mono _ _
   | exact LeO.none _
   | refine LeO.ite ?_ ?_
   | refine LeO.bind ?_ (fun _ => ?_)
set_option maxHeartbeats 8000000 in
set_option maxRecDepth 100000 in
theorem nodes_rise.calls (k : Nat) (a0 : Int) (A1 : Option Addr) (c1 : Nat) (l1 : List (List Int)) (a2 : Int) (rr : XR (Unit)) (w : World) (hr1 : Kd.C (Kd.slice 5 (Kd.int .u8)) w A1 l1.length l1) (hc1 : l1.length ≤ c1) (h : nodes_rise.f k a0 l1 a2 = some rr) :
  Calls Tryd.prog 56 #[.int .u8 a0, .slice A1 l1.length c1, .int .i64 a2] w fun e w' => XR.post rr (fun _ => e = .returned (.tuple #[]) ∧ Below w.heap.size w w') (fun er_ => ErrX w er_ e w') := by
 have HR1 := Aside0.mk hr1
 have HC1 := Aside0.mk hc1
 clear hr1 hc1
 have HB := Aside0.mk (Below.refl w.heap.size w)
 have H : (if a0 = 49 then ((slices_IsSortedFunc_byte_byte.f k l1).bind fun t196 => (bindX (nodes_must.f t196 42 a2) fun _ => (some (.ok (()))))) else (bindX (nodes_must.f true 42 a2) fun _ => (some (.ok (()))))) = some rr := h
 clear h
 by_cases c4 : a0 = 49
 ·rw [if_pos c4] at H
  have c4b0 : (a0 == 49) = true := beq_iff_eq.mpr c4
  have c4b1 : (a0 != 49) = false := bne_eq_false_iff_eq.mpr c4
  clear c4
  replace H := Option.bind_eq_some_iff.mp H
  obtain ⟨t196, A50, H⟩ := H
  replace H : (bindX (nodes_must.f t196 42 a2) fun _ => (some (.ok (())))) = some rr := H
  have A5 := Aside0.mk A50
  clear A50
  rcases bindX_some H with ⟨er_, A60, H⟩ | ⟨_, A60, H⟩
  ·obtain rfl := H
   have A6 := Aside0.mk A60
   clear A60
   go_enter Tryd.func56, Tryd.ntmps56
   go_wp2_with (first | (go_at_call 70; (with_reducible refine (slices_IsSortedFunc_byte_byte.calls k _ _ l1  t196 _ ?side1 ?side2 A5.out).mono ?_); (case side1 => repeat (first | exact HR1.out | (with_reducible refine Kd.C_alloc ?_ _) | (with_reducible refine Kd.C_drewN ?_ _) | (with_reducible refine Kd.C_drew ?_))); (case side2 => exact HC1.out); rintro e w' ⟨rfl, ⟨nd, rfl⟩⟩) | ((with_reducible refine gate_callee (f := 43) rfl ?_); refine goesPL_ (some 13) rfl rfl Tryd.func43 (by kernel_rfl) rfl #[.bool t196, .int .i64 42, .int .i64 a2] rfl (by (try simp only [List.map_toArray, List.map_cons, List.map_nil]); first | done | rfl | (simp only [List.length_drop, List.length_take]; rfl)) ?_; (with_reducible refine (nodes_must.calls t196 42 a2 (.error er_) _ A6.out).mono ?_); rintro e w' ⟨rfl, hbP⟩; refine ⟨_, rfl, ?_⟩; have HBP := below_step (by repeat (first | (with_reducible first | exact HB.out | apply below_alloc | apply pw_below_drewN | apply below_drew1) | exact HB.out)) hbP))
   exact bodyPostX rfl ⟨rfl, HBP⟩
  ·replace H : (some (.ok (()))) = some rr := H
   have A6 := Aside0.mk A60
   clear A60
   obtain rfl := Option.some.inj H
   go_enter Tryd.func56, Tryd.ntmps56
   go_wp2_with (first | (go_at_call 70; (with_reducible refine (slices_IsSortedFunc_byte_byte.calls k _ _ l1  t196 _ ?side1 ?side2 A5.out).mono ?_); (case side1 => repeat (first | exact HR1.out | (with_reducible refine Kd.C_alloc ?_ _) | (with_reducible refine Kd.C_drewN ?_ _) | (with_reducible refine Kd.C_drew ?_))); (case side2 => exact HC1.out); rintro e w' ⟨rfl, ⟨nd, rfl⟩⟩) | ((with_reducible refine gate_callee (f := 43) rfl ?_); refine goesL_ (some 13) rfl rfl Tryd.func43 (by kernel_rfl) rfl #[.bool t196, .int .i64 42, .int .i64 a2] rfl (by (try simp only [List.map_toArray, List.map_cons, List.map_nil]); first | done | rfl | (simp only [List.length_drop, List.length_take]; rfl)) ?_; (with_reducible refine (nodes_must.calls t196 42 a2 (.ok ()) _ A6.out).mono ?_); rintro e w' ⟨rfl, ⟨nd, rfl⟩⟩; refine ⟨_, rfl, ?_⟩))
   first | go_end0 | ((try simp only [Exit.inBlock, Exit.then]); refine bodyPost_ret (results_none rfl _ _ _) rfl ?_)
   refine XR.post_ok ?_
   exact ⟨by first | rfl | (simp [errW_none, errW_some] <;> rfl) | (simp [*, errW_none, errW_some] <;> rfl), by repeat (first | (with_reducible first | exact HB.out | apply below_alloc | apply pw_below_drewN | apply below_drew1) | exact HB.out)⟩
 ·rw [if_neg c4] at H
  have c4b0 : (a0 == 49) = false := beq_eq_false_iff_ne.mpr c4
  have c4b1 : (a0 != 49) = true := bne_iff_ne.mpr c4
  rcases bindX_some H with ⟨er_, A70, H⟩ | ⟨_, A70, H⟩
  ·obtain rfl := H
   have A7 := Aside0.mk A70
   clear A70
   go_enter Tryd.func56, Tryd.ntmps56
   go_wp2_with (first | ((with_reducible refine gate_callee (f := 43) rfl ?_); refine goesPL_ (some 13) rfl rfl Tryd.func43 (by kernel_rfl) rfl #[.bool true, .int .i64 42, .int .i64 a2] rfl (by (try simp only [List.map_toArray, List.map_cons, List.map_nil]); first | done | rfl | (simp only [List.length_drop, List.length_take]; rfl)) ?_; (with_reducible refine (nodes_must.calls true 42 a2 (.error er_) _ A7.out).mono ?_); rintro e w' ⟨rfl, hbP⟩; refine ⟨_, rfl, ?_⟩; have HBP := below_step (by repeat (first | (with_reducible first | exact HB.out | apply below_alloc | apply pw_below_drewN | apply below_drew1) | exact HB.out)) hbP))
   exact bodyPostX rfl ⟨rfl, HBP⟩
  ·replace H : (some (.ok (()))) = some rr := H
   have A7 := Aside0.mk A70
   clear A70
   obtain rfl := Option.some.inj H
   go_enter Tryd.func56, Tryd.ntmps56
   go_wp2_with (first | ((with_reducible refine gate_callee (f := 43) rfl ?_); refine goesL_ (some 13) rfl rfl Tryd.func43 (by kernel_rfl) rfl #[.bool true, .int .i64 42, .int .i64 a2] rfl (by (try simp only [List.map_toArray, List.map_cons, List.map_nil]); first | done | rfl | (simp only [List.length_drop, List.length_take]; rfl)) ?_; (with_reducible refine (nodes_must.calls true 42 a2 (.ok ()) _ A7.out).mono ?_); rintro e w' ⟨rfl, ⟨nd, rfl⟩⟩; refine ⟨_, rfl, ?_⟩))
   first | go_end0 | ((try simp only [Exit.inBlock, Exit.then]); refine bodyPost_ret (results_none rfl _ _ _) rfl ?_)
   refine XR.post_ok ?_
   exact ⟨by first | rfl | (simp [errW_none, errW_some] <;> rfl) | (simp [*, errW_none, errW_some] <;> rfl), by repeat (first | (with_reducible first | exact HB.out | apply below_alloc | apply pw_below_drewN | apply below_drew1) | exact HB.out)⟩

end Go.Proofs.YtkceebgncfggjaaDoor.PD
