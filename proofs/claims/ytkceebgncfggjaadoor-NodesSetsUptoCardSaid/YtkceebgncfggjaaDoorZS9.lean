/- NodesSets: words, printed functions and plain laws that the claim uses, laid by a program of this session's. No condition beside those in each theorem's own line. -/
import Derived.Test.YtkceebgncfggjaaDoorZS6
import Derived.Test.YtkceebgncfggjaaDoorZS7
set_option linter.unusedVariables false
set_option linter.unusedSimpArgs false
namespace Go.Proofs.YtkceebgncfggjaaDoor.PQ
open Go.RowKit Go.Proofs.YtkceebgncfggjaaDoorW.PrintWords Go.Proofs.YtkceebgncfggjaaDoorW.PrintLast Go.Proofs.YtkceebgncfggjaaDoorW.PrintMore Go.Proofs.YtkceebgncfggjaaDoorX
set_option maxHeartbeats 8000000
set_option maxRecDepth 100000
def nodes_must.f (a0 : Bool) (a1 a2 : Int) : Option (XR Unit) := some (if a0 = true then .ok () else .error (a1, a2))
theorem nodes_must.calls (a0 : Bool) (a1 a2 : Int) (rr : XR Unit) (w : World) (h : nodes_must.f a0 a1 a2 = some rr) :
    Calls Tryd.prog 43 #[.bool a0, .int .i64 a1, .int .i64 a2] w fun e w' => XR.post rr (fun _ => e = .returned (.tuple #[]) ∧ Drawn0 w w') (fun er => ErrX w er e w') := by
  obtain rfl := Option.some.inj h
  cases a0 with
  | true =>
    refine (H.must_ok a1 a2 w).mono ?_
    rintro e w' ⟨rfl, rfl⟩
    exact ⟨rfl, Drawn0.refl _⟩
  | false =>
    refine (H.must_not a1 a2 w).mono ?_
    rintro e w' ⟨rfl, rfl⟩
    exact ⟨rfl, Below.refl _ _⟩
end Go.Proofs.YtkceebgncfggjaaDoor.PQ

namespace Go.Proofs.YtkceebgncfggjaaDoor.PQ
open Go.RowKit Go.Proofs.YtkceebgncfggjaaDoorW.PrintWords Go.Proofs.YtkceebgncfggjaaDoorW.PrintLast Go.Proofs.YtkceebgncfggjaaDoorW.PrintMore Go.Proofs.YtkceebgncfggjaaDoorX
set_option maxHeartbeats 8000000
set_option maxRecDepth 100000
attribute [local go_sem] max2_int min2_int max_two min_two
def nodes_tagged.f (k : Nat) (a0 : Int) (a1 : Int) : Option (XR (Unit)) := bindX (nodes_must.f ((Go.bits .and .u8 a0 31) != 31) 11 a1) fun _ => (if a0 ≥ 64 then (bindX (nodes_must.f true 43 a1) fun _ => (some (.ok (())))) else ((slices_Contains_byte_byte.f k (([1, 2, 3, 4, 5, 6, 12, 19, 22, 23, 24, 27, 48, 49] : List Int)) a0).bind fun t106 => (bindX (nodes_must.f t106 43 a1) fun _ => (some (.ok (()))))))
theorem nodes_tagged.mono : ∀ a0 a1 k, LeO (nodes_tagged.f k a0 a1) (nodes_tagged.f (k + 1) a0 a1) := by
 intro a0 a1 k
 unfold nodes_tagged.f
 repeat' first
   | (with_reducible exact slices_Contains_byte_byte.mono _ _ _)
   | (with_reducible exact LeO.refl _)
   | (with_reducible exact LeO.none _)
   | (with_reducible refine LeO.ite ?_ ?_)
   | (with_reducible refine LeO.bind ?_ (fun _ => ?_))
   | (with_reducible refine LeO_bindX ?_ (fun _ => ?_))
   | exact slices_Contains_byte_byte.mono _ _ _
   | exact LeO.none _
   | refine LeO.ite ?_ ?_
   | refine LeO.bind ?_ (fun _ => ?_)
theorem nodes_tagged.calls (k : Nat) (a0 : Int) (a1 : Int) (rr : XR (Unit)) (w : World) (h : nodes_tagged.f k a0 a1 = some rr) :
  Calls Tryd.prog 52 #[.int .u8 a0, .int .i64 a1] w fun e w' => XR.post rr (fun _ => e = .returned (.tuple #[]) ∧ Below w.heap.size w w') (fun er_ => ErrX w er_ e w') := by
 have HB := aZ (Below.refl w.heap.size w)
 have H := h
 clear h
 unfold nodes_tagged.f at H
 rcases bindX_some H with ⟨er_, A30, H⟩ | ⟨_, A30, H⟩
 ·obtain rfl := H
  have A3 := aZ A30
  clear A30
  go_enter Tryd.func52, Tryd.ntmps52
  go_wp2_with (first | ((with_reducible refine gC 43 rfl ?_); refine goP (some 9) Tryd.func43 #[.bool ((Go.bits .and .u8 a0 31) != 31), .int .i64 11, .int .i64 a1] ?_; (with_reducible refine (nodes_must.calls ((Go.bits .and .u8 a0 31) != 31) 11 a1 (.error er_) _ A3.out).mono ?_); rintro e w' ⟨rfl, hbP⟩; refine ⟨_, rfl, ?_⟩; have HBP := below_step bB hbP))
  exact bodyPostX rfl ⟨rfl, HBP⟩
 ·try dsimp only at H
  have A3 := aZ A30
  clear A30
  obtain ⟨y103, hy103⟩ : ∃ y_ : List Int, y_ = (([1, 2, 3, 4, 5, 6, 12, 19, 22, 23, 24, 27, 48, 49] : List Int)) := ⟨_, rfl⟩
  replace H : (if a0 ≥ 64 then (bindX (nodes_must.f true 43 a1) fun _ => (some (.ok (())))) else ((slices_Contains_byte_byte.f k y103 a0).bind fun t106 => (bindX (nodes_must.f t106 43 a1) fun _ => (some (.ok (())))))) = some rr := by first | (rw [hy103]; with_reducible exact H) | (have H2_ := (Option.bind_some _ _).symm.trans H; rw [hy103]; with_reducible exact H2_) | (have H2_ := (Option.bind_some _ _).symm.trans H; with_reducible exact H2_) | with_reducible exact H | (rw [hy103]; exact H) | exact H
  have Ny103 := aZ hy103
  clear hy103
  by_cases c4 : a0 ≥ 64
  ·rw [if_pos c4] at H
   have c4b0 : decide (64 ≤ a0) = true := decide_eq_true c4
   clear c4
   rcases bindX_some H with ⟨er_, A50, H⟩ | ⟨_, A50, H⟩
   ·obtain rfl := H
    have A5 := aZ A50
    clear A50
    go_enter Tryd.func52, Tryd.ntmps52
    go_wp2_with (first | ((with_reducible refine gC 43 rfl ?_); refine goL (some 9) Tryd.func43 #[.bool ((Go.bits .and .u8 a0 31) != 31), .int .i64 11, .int .i64 a1] ?_; (with_reducible refine (nodes_must.calls ((Go.bits .and .u8 a0 31) != 31) 11 a1 (.ok ()) _ A3.out).mono ?_); rintro e w' ⟨rfl, ⟨nd, rfl⟩⟩; refine ⟨_, rfl, ?_⟩) | ((with_reducible refine gD 10 rfl ?_); refine Kd.R_lit (Kd.int .u8) _ 5 ?hg (N := 10) ?hd (xs := ([1, 2, 3, 4, 5, 6, 12, 19, 22, 23, 24, 27, 48, 49] : List Int)) (inner := [.int .u8 1, .int .u8 2, .int .u8 3, .int .u8 4, .int .u8 5, .int .u8 6, .int .u8 12, .int .u8 19, .int .u8 22, .int .u8 23, .int .u8 24, .int .u8 27, .int .u8 48, .int .u8 49]) (ok := fun _ => True) (okp := fun _ => True) ?hr ?hp (fun _ hk => hk) trivial (Below.refl _ _) (Nat.le_refl _) (by simp) ?_; (case hd => rfl); (case hg => rfl); (case hr => exact gS); (case hp => exact (Reps.one (show Kd.M (Kd.int .u8) _ _ _ 1 [.int .u8 1] from rfl) (Reps.one (show Kd.M (Kd.int .u8) _ _ _ 2 [.int .u8 2] from rfl) (Reps.one (show Kd.M (Kd.int .u8) _ _ _ 3 [.int .u8 3] from rfl) (Reps.one (show Kd.M (Kd.int .u8) _ _ _ 4 [.int .u8 4] from rfl) (Reps.one (show Kd.M (Kd.int .u8) _ _ _ 5 [.int .u8 5] from rfl) (Reps.one (show Kd.M (Kd.int .u8) _ _ _ 6 [.int .u8 6] from rfl) (Reps.one (show Kd.M (Kd.int .u8) _ _ _ 12 [.int .u8 12] from rfl) (Reps.one (show Kd.M (Kd.int .u8) _ _ _ 19 [.int .u8 19] from rfl) (Reps.one (show Kd.M (Kd.int .u8) _ _ _ 22 [.int .u8 22] from rfl) (Reps.one (show Kd.M (Kd.int .u8) _ _ _ 23 [.int .u8 23] from rfl) (Reps.one (show Kd.M (Kd.int .u8) _ _ _ 24 [.int .u8 24] from rfl) (Reps.one (show Kd.M (Kd.int .u8) _ _ _ 27 [.int .u8 27] from rfl) (Reps.one (show Kd.M (Kd.int .u8) _ _ _ 48 [.int .u8 48] from rfl) (Reps.one (show Kd.M (Kd.int .u8) _ _ _ 49 [.int .u8 49] from rfl) (Reps.none _ _)))))))))))))))); intro v104 w6 ho7 hb hg_ hnew_; clear hg_ hnew_; (first | rw [← Ny103.out] at ho7 | (simp only [Int.reduceToNat] at ho7; rw [← Ny103.out] at ho7)); have HO105 := aZ (Kd.R_lower ho7 (below_size bB)); replace HB := aZ (below_step bB hb); clear hb ho7) | ((with_reducible refine gC 43 rfl ?_); refine goP (some 19) Tryd.func43 #[.bool true, .int .i64 43, .int .i64 a1] ?_; (with_reducible refine (nodes_must.calls true 43 a1 (.error er_) _ A5.out).mono ?_); rintro e w' ⟨rfl, hbP⟩; refine ⟨_, rfl, ?_⟩; have HBP := below_step bB hbP))
    exact bodyPostX rfl ⟨rfl, HBP⟩
   ·try dsimp only at H
    have A5 := aZ A50
    clear A50
    obtain rfl := Option.some.inj H
    go_enter Tryd.func52, Tryd.ntmps52
    go_wp2_with (first | ((with_reducible refine gC 43 rfl ?_); refine goL (some 9) Tryd.func43 #[.bool ((Go.bits .and .u8 a0 31) != 31), .int .i64 11, .int .i64 a1] ?_; (with_reducible refine (nodes_must.calls ((Go.bits .and .u8 a0 31) != 31) 11 a1 (.ok ()) _ A3.out).mono ?_); rintro e w' ⟨rfl, ⟨nd, rfl⟩⟩; refine ⟨_, rfl, ?_⟩) | ((with_reducible refine gD 10 rfl ?_); refine Kd.R_lit (Kd.int .u8) _ 5 ?hg (N := 10) ?hd (xs := ([1, 2, 3, 4, 5, 6, 12, 19, 22, 23, 24, 27, 48, 49] : List Int)) (inner := [.int .u8 1, .int .u8 2, .int .u8 3, .int .u8 4, .int .u8 5, .int .u8 6, .int .u8 12, .int .u8 19, .int .u8 22, .int .u8 23, .int .u8 24, .int .u8 27, .int .u8 48, .int .u8 49]) (ok := fun _ => True) (okp := fun _ => True) ?hr ?hp (fun _ hk => hk) trivial (Below.refl _ _) (Nat.le_refl _) (by simp) ?_; (case hd => rfl); (case hg => rfl); (case hr => exact gS); (case hp => exact (Reps.one (show Kd.M (Kd.int .u8) _ _ _ 1 [.int .u8 1] from rfl) (Reps.one (show Kd.M (Kd.int .u8) _ _ _ 2 [.int .u8 2] from rfl) (Reps.one (show Kd.M (Kd.int .u8) _ _ _ 3 [.int .u8 3] from rfl) (Reps.one (show Kd.M (Kd.int .u8) _ _ _ 4 [.int .u8 4] from rfl) (Reps.one (show Kd.M (Kd.int .u8) _ _ _ 5 [.int .u8 5] from rfl) (Reps.one (show Kd.M (Kd.int .u8) _ _ _ 6 [.int .u8 6] from rfl) (Reps.one (show Kd.M (Kd.int .u8) _ _ _ 12 [.int .u8 12] from rfl) (Reps.one (show Kd.M (Kd.int .u8) _ _ _ 19 [.int .u8 19] from rfl) (Reps.one (show Kd.M (Kd.int .u8) _ _ _ 22 [.int .u8 22] from rfl) (Reps.one (show Kd.M (Kd.int .u8) _ _ _ 23 [.int .u8 23] from rfl) (Reps.one (show Kd.M (Kd.int .u8) _ _ _ 24 [.int .u8 24] from rfl) (Reps.one (show Kd.M (Kd.int .u8) _ _ _ 27 [.int .u8 27] from rfl) (Reps.one (show Kd.M (Kd.int .u8) _ _ _ 48 [.int .u8 48] from rfl) (Reps.one (show Kd.M (Kd.int .u8) _ _ _ 49 [.int .u8 49] from rfl) (Reps.none _ _)))))))))))))))); intro v104 w8 ho9 hb hg_ hnew_; clear hg_ hnew_; (first | rw [← Ny103.out] at ho9 | (simp only [Int.reduceToNat] at ho9; rw [← Ny103.out] at ho9)); have HO105 := aZ (Kd.R_lower ho9 (below_size bB)); replace HB := aZ (below_step bB hb); clear hb ho9) | ((with_reducible refine gC 43 rfl ?_); refine goL (some 19) Tryd.func43 #[.bool true, .int .i64 43, .int .i64 a1] ?_; (with_reducible refine (nodes_must.calls true 43 a1 (.ok ()) _ A5.out).mono ?_); rintro e w' ⟨rfl, ⟨nd, rfl⟩⟩; refine ⟨_, rfl, ?_⟩))
    first | go_end0 | ((try simp only [Exit.inBlock, Exit.then]); refine bodyPost_ret (results_none rfl _ _ _) rfl ?_)
    refine XR.post_ok ?_
    exact ⟨rF, bB⟩
  ·rw [if_neg c4] at H
   have c4b0 : decide (64 ≤ a0) = false := decide_eq_false c4
   clear c4
   replace H := Option.bind_eq_some_iff.mp H
   obtain ⟨t106, A100, H⟩ := H
   try dsimp only at H
   have A10 := aZ A100
   clear A100
   rcases bindX_some H with ⟨er_, A110, H⟩ | ⟨_, A110, H⟩
   ·obtain rfl := H
    have A11 := aZ A110
    clear A110
    go_enter Tryd.func52, Tryd.ntmps52
    go_wp2_with (first | ((with_reducible refine gC 43 rfl ?_); refine goL (some 9) Tryd.func43 #[.bool ((Go.bits .and .u8 a0 31) != 31), .int .i64 11, .int .i64 a1] ?_; (with_reducible refine (nodes_must.calls ((Go.bits .and .u8 a0 31) != 31) 11 a1 (.ok ()) _ A3.out).mono ?_); rintro e w' ⟨rfl, ⟨nd, rfl⟩⟩; refine ⟨_, rfl, ?_⟩) | ((with_reducible refine gD 10 rfl ?_); refine Kd.R_lit (Kd.int .u8) _ 5 ?hg (N := 10) ?hd (xs := ([1, 2, 3, 4, 5, 6, 12, 19, 22, 23, 24, 27, 48, 49] : List Int)) (inner := [.int .u8 1, .int .u8 2, .int .u8 3, .int .u8 4, .int .u8 5, .int .u8 6, .int .u8 12, .int .u8 19, .int .u8 22, .int .u8 23, .int .u8 24, .int .u8 27, .int .u8 48, .int .u8 49]) (ok := fun _ => True) (okp := fun _ => True) ?hr ?hp (fun _ hk => hk) trivial (Below.refl _ _) (Nat.le_refl _) (by simp) ?_; (case hd => rfl); (case hg => rfl); (case hr => exact gS); (case hp => exact (Reps.one (show Kd.M (Kd.int .u8) _ _ _ 1 [.int .u8 1] from rfl) (Reps.one (show Kd.M (Kd.int .u8) _ _ _ 2 [.int .u8 2] from rfl) (Reps.one (show Kd.M (Kd.int .u8) _ _ _ 3 [.int .u8 3] from rfl) (Reps.one (show Kd.M (Kd.int .u8) _ _ _ 4 [.int .u8 4] from rfl) (Reps.one (show Kd.M (Kd.int .u8) _ _ _ 5 [.int .u8 5] from rfl) (Reps.one (show Kd.M (Kd.int .u8) _ _ _ 6 [.int .u8 6] from rfl) (Reps.one (show Kd.M (Kd.int .u8) _ _ _ 12 [.int .u8 12] from rfl) (Reps.one (show Kd.M (Kd.int .u8) _ _ _ 19 [.int .u8 19] from rfl) (Reps.one (show Kd.M (Kd.int .u8) _ _ _ 22 [.int .u8 22] from rfl) (Reps.one (show Kd.M (Kd.int .u8) _ _ _ 23 [.int .u8 23] from rfl) (Reps.one (show Kd.M (Kd.int .u8) _ _ _ 24 [.int .u8 24] from rfl) (Reps.one (show Kd.M (Kd.int .u8) _ _ _ 27 [.int .u8 27] from rfl) (Reps.one (show Kd.M (Kd.int .u8) _ _ _ 48 [.int .u8 48] from rfl) (Reps.one (show Kd.M (Kd.int .u8) _ _ _ 49 [.int .u8 49] from rfl) (Reps.none _ _)))))))))))))))); intro v104 w12 ho13 hb hg_ hnew_; clear hg_ hnew_; (first | rw [← Ny103.out] at ho13 | (simp only [Int.reduceToNat] at ho13; rw [← Ny103.out] at ho13)); have HO105 := aZ (Kd.R_lower ho13 (below_size bB)); replace HB := aZ (below_step bB hb); clear hb ho13; obtain ⟨Ao14, co14, eo14⟩ := Kd.R_slice HO105.out; subst eo14) | (go_at_call 66; (with_reducible refine (slices_Contains_byte_byte.calls k _ _ y103 a0 t106 _ ?side1 ?side2 A10.out).mono ?_); (case side1 => exact kC (Kd.R_reads' HO105.out).2.2); (case side2 => exact (Kd.R_reads' HO105.out).2.1); rintro e w' ⟨rfl, ⟨nd, rfl⟩⟩) | ((with_reducible refine gC 43 rfl ?_); refine goP (some 19) Tryd.func43 #[.bool t106, .int .i64 43, .int .i64 a1] ?_; (with_reducible refine (nodes_must.calls t106 43 a1 (.error er_) _ A11.out).mono ?_); rintro e w' ⟨rfl, hbP⟩; refine ⟨_, rfl, ?_⟩; have HBP := below_step bB hbP))
    exact bodyPostX rfl ⟨rfl, HBP⟩
   ·try dsimp only at H
    have A11 := aZ A110
    clear A110
    obtain rfl := Option.some.inj H
    go_enter Tryd.func52, Tryd.ntmps52
    go_wp2_with (first | ((with_reducible refine gC 43 rfl ?_); refine goL (some 9) Tryd.func43 #[.bool ((Go.bits .and .u8 a0 31) != 31), .int .i64 11, .int .i64 a1] ?_; (with_reducible refine (nodes_must.calls ((Go.bits .and .u8 a0 31) != 31) 11 a1 (.ok ()) _ A3.out).mono ?_); rintro e w' ⟨rfl, ⟨nd, rfl⟩⟩; refine ⟨_, rfl, ?_⟩) | ((with_reducible refine gD 10 rfl ?_); refine Kd.R_lit (Kd.int .u8) _ 5 ?hg (N := 10) ?hd (xs := ([1, 2, 3, 4, 5, 6, 12, 19, 22, 23, 24, 27, 48, 49] : List Int)) (inner := [.int .u8 1, .int .u8 2, .int .u8 3, .int .u8 4, .int .u8 5, .int .u8 6, .int .u8 12, .int .u8 19, .int .u8 22, .int .u8 23, .int .u8 24, .int .u8 27, .int .u8 48, .int .u8 49]) (ok := fun _ => True) (okp := fun _ => True) ?hr ?hp (fun _ hk => hk) trivial (Below.refl _ _) (Nat.le_refl _) (by simp) ?_; (case hd => rfl); (case hg => rfl); (case hr => exact gS); (case hp => exact (Reps.one (show Kd.M (Kd.int .u8) _ _ _ 1 [.int .u8 1] from rfl) (Reps.one (show Kd.M (Kd.int .u8) _ _ _ 2 [.int .u8 2] from rfl) (Reps.one (show Kd.M (Kd.int .u8) _ _ _ 3 [.int .u8 3] from rfl) (Reps.one (show Kd.M (Kd.int .u8) _ _ _ 4 [.int .u8 4] from rfl) (Reps.one (show Kd.M (Kd.int .u8) _ _ _ 5 [.int .u8 5] from rfl) (Reps.one (show Kd.M (Kd.int .u8) _ _ _ 6 [.int .u8 6] from rfl) (Reps.one (show Kd.M (Kd.int .u8) _ _ _ 12 [.int .u8 12] from rfl) (Reps.one (show Kd.M (Kd.int .u8) _ _ _ 19 [.int .u8 19] from rfl) (Reps.one (show Kd.M (Kd.int .u8) _ _ _ 22 [.int .u8 22] from rfl) (Reps.one (show Kd.M (Kd.int .u8) _ _ _ 23 [.int .u8 23] from rfl) (Reps.one (show Kd.M (Kd.int .u8) _ _ _ 24 [.int .u8 24] from rfl) (Reps.one (show Kd.M (Kd.int .u8) _ _ _ 27 [.int .u8 27] from rfl) (Reps.one (show Kd.M (Kd.int .u8) _ _ _ 48 [.int .u8 48] from rfl) (Reps.one (show Kd.M (Kd.int .u8) _ _ _ 49 [.int .u8 49] from rfl) (Reps.none _ _)))))))))))))))); intro v104 w15 ho16 hb hg_ hnew_; clear hg_ hnew_; (first | rw [← Ny103.out] at ho16 | (simp only [Int.reduceToNat] at ho16; rw [← Ny103.out] at ho16)); have HO105 := aZ (Kd.R_lower ho16 (below_size bB)); replace HB := aZ (below_step bB hb); clear hb ho16; obtain ⟨Ao17, co17, eo17⟩ := Kd.R_slice HO105.out; subst eo17) | (go_at_call 66; (with_reducible refine (slices_Contains_byte_byte.calls k _ _ y103 a0 t106 _ ?side1 ?side2 A10.out).mono ?_); (case side1 => exact kC (Kd.R_reads' HO105.out).2.2); (case side2 => exact (Kd.R_reads' HO105.out).2.1); rintro e w' ⟨rfl, ⟨nd, rfl⟩⟩) | ((with_reducible refine gC 43 rfl ?_); refine goL (some 19) Tryd.func43 #[.bool t106, .int .i64 43, .int .i64 a1] ?_; (with_reducible refine (nodes_must.calls t106 43 a1 (.ok ()) _ A11.out).mono ?_); rintro e w' ⟨rfl, ⟨nd, rfl⟩⟩; refine ⟨_, rfl, ?_⟩))
    first | go_end0 | ((try simp only [Exit.inBlock, Exit.then]); refine bodyPost_ret (results_none rfl _ _ _) rfl ?_)
    refine XR.post_ok ?_
    exact ⟨rF, bB⟩
end Go.Proofs.YtkceebgncfggjaaDoor.PQ

