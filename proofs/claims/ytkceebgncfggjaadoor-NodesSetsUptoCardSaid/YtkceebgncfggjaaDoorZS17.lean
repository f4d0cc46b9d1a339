/- NodesSets: words, printed functions and plain laws that the claim uses, laid by a program of this session's. No condition beside those in each theorem's own line. -/
import Derived.Test.YtkceebgncfggjaaDoorZS16
import Derived.Test.YtkceebgncfggjaaDoorZS9
set_option linter.unusedVariables false
set_option linter.unusedSimpArgs false
namespace Go.Proofs.YtkceebgncfggjaaDoor.PQ
open Go.RowKit Go.Proofs.YtkceebgncfggjaaDoorW.PrintWords Go.Proofs.YtkceebgncfggjaaDoorW.PrintLast Go.Proofs.YtkceebgncfggjaaDoorW.PrintMore Go.Proofs.YtkceebgncfggjaaDoorX
set_option maxHeartbeats 8000000
set_option maxRecDepth 100000
attribute [local go_sem] max2_int min2_int max_two min_two
def nodes_rise.f (k : Nat) (a0 : Int) (l1 : List (List Int)) (a2 : Int) : Option (XR (Unit)) := if a0 = 49 then ((slices_IsSortedFunc_byte_byte.f k l1).bind fun t241 => (bindX (nodes_must.f t241 42 a2) fun _ => (some (.ok (()))))) else (bindX (nodes_must.f true 42 a2) fun _ => (some (.ok (()))))
theorem nodes_rise.mono : ∀ a0 a1 a2 k, LeO (nodes_rise.f k a0 a1 a2) (nodes_rise.f (k + 1) a0 a1 a2) := by
 intro a0 a1 a2 k
 unfold nodes_rise.f
 repeat' first
   | (with_reducible exact slices_IsSortedFunc_byte_byte.mono _ _)
   | (with_reducible exact LeO.refl _)
   | (with_reducible exact LeO.none _)
   | (with_reducible refine LeO.ite ?_ ?_)
   | (with_reducible refine LeO.bind ?_ (fun _ => ?_))
   | (with_reducible refine LeO_bindX ?_ (fun _ => ?_))
   | exact slices_IsSortedFunc_byte_byte.mono _ _
   | exact LeO.none _
   | refine LeO.ite ?_ ?_
   | refine LeO.bind ?_ (fun _ => ?_)
theorem nodes_rise.calls (k : Nat) (a0 : Int) (A1 : Option Addr) (c1 : Nat) (l1 : List (List Int)) (a2 : Int) (rr : XR (Unit)) (w : World) (hr1 : Kd.C (Kd.slice 5 (Kd.int .u8)) w A1 l1.length l1) (hc1 : l1.length ≤ c1) (h : nodes_rise.f k a0 l1 a2 = some rr) :
  Calls Tryd.prog 56 #[.int .u8 a0, .slice A1 l1.length c1, .int .i64 a2] w fun e w' => XR.post rr (fun _ => e = .returned (.tuple #[]) ∧ Below w.heap.size w w') (fun er_ => ErrX w er_ e w') := by
 have HR1 := aZ hr1
 have HC1 := aZ hc1
 clear hr1 hc1
 have HB := aZ (Below.refl w.heap.size w)
 have H := h
 clear h
 unfold nodes_rise.f at H
 by_cases c4 : a0 = 49
 ·rw [if_pos c4] at H
  have c4b0 : (a0 == 49) = true := beq_iff_eq.mpr c4
  have c4b1 : (a0 != 49) = false := bne_eq_false_iff_eq.mpr c4
  clear c4
  replace H := Option.bind_eq_some_iff.mp H
  obtain ⟨t241, A50, H⟩ := H
  try dsimp only at H
  have A5 := aZ A50
  clear A50
  rcases bindX_some H with ⟨er_, A60, H⟩ | ⟨_, A60, H⟩
  ·obtain rfl := H
   have A6 := aZ A60
   clear A60
   go_enter Tryd.func56, Tryd.ntmps56
   go_wp2_with (first | (go_at_call 70; (with_reducible refine (slices_IsSortedFunc_byte_byte.calls k _ _ l1  t241 _ ?side1 ?side2 A5.out).mono ?_); (case side1 => exact kC HR1.out); (case side2 => exact HC1.out); rintro e w' ⟨rfl, ⟨nd, rfl⟩⟩) | ((with_reducible refine gC 43 rfl ?_); refine goP (some 13) Tryd.func43 #[.bool t241, .int .i64 42, .int .i64 a2] ?_; (with_reducible refine (nodes_must.calls t241 42 a2 (.error er_) _ A6.out).mono ?_); rintro e w' ⟨rfl, hbP⟩; refine ⟨_, rfl, ?_⟩; have HBP := below_step bB hbP))
   exact bodyPostX rfl ⟨rfl, HBP⟩
  ·try dsimp only at H
   have A6 := aZ A60
   clear A60
   obtain rfl := Option.some.inj H
   go_enter Tryd.func56, Tryd.ntmps56
   go_wp2_with (first | (go_at_call 70; (with_reducible refine (slices_IsSortedFunc_byte_byte.calls k _ _ l1  t241 _ ?side1 ?side2 A5.out).mono ?_); (case side1 => exact kC HR1.out); (case side2 => exact HC1.out); rintro e w' ⟨rfl, ⟨nd, rfl⟩⟩) | ((with_reducible refine gC 43 rfl ?_); refine goL (some 13) Tryd.func43 #[.bool t241, .int .i64 42, .int .i64 a2] ?_; (with_reducible refine (nodes_must.calls t241 42 a2 (.ok ()) _ A6.out).mono ?_); rintro e w' ⟨rfl, ⟨nd, rfl⟩⟩; refine ⟨_, rfl, ?_⟩))
   first | go_end0 | ((try simp only [Exit.inBlock, Exit.then]); refine bodyPost_ret (results_none rfl _ _ _) rfl ?_)
   refine XR.post_ok ?_
   exact ⟨rF, bB⟩
 ·rw [if_neg c4] at H
  have c4b0 : (a0 == 49) = false := beq_eq_false_iff_ne.mpr c4
  have c4b1 : (a0 != 49) = true := bne_iff_ne.mpr c4
  rcases bindX_some H with ⟨er_, A70, H⟩ | ⟨_, A70, H⟩
  ·obtain rfl := H
   have A7 := aZ A70
   clear A70
   go_enter Tryd.func56, Tryd.ntmps56
   go_wp2_with (first | ((with_reducible refine gC 43 rfl ?_); refine goP (some 13) Tryd.func43 #[.bool true, .int .i64 42, .int .i64 a2] ?_; (with_reducible refine (nodes_must.calls true 42 a2 (.error er_) _ A7.out).mono ?_); rintro e w' ⟨rfl, hbP⟩; refine ⟨_, rfl, ?_⟩; have HBP := below_step bB hbP))
   exact bodyPostX rfl ⟨rfl, HBP⟩
  ·try dsimp only at H
   have A7 := aZ A70
   clear A70
   obtain rfl := Option.some.inj H
   go_enter Tryd.func56, Tryd.ntmps56
   go_wp2_with (first | ((with_reducible refine gC 43 rfl ?_); refine goL (some 13) Tryd.func43 #[.bool true, .int .i64 42, .int .i64 a2] ?_; (with_reducible refine (nodes_must.calls true 42 a2 (.ok ()) _ A7.out).mono ?_); rintro e w' ⟨rfl, ⟨nd, rfl⟩⟩; refine ⟨_, rfl, ?_⟩))
   first | go_end0 | ((try simp only [Exit.inBlock, Exit.then]); refine bodyPost_ret (results_none rfl _ _ _) rfl ?_)
   refine XR.post_ok ?_
   exact ⟨rF, bB⟩
end Go.Proofs.YtkceebgncfggjaaDoor.PQ

