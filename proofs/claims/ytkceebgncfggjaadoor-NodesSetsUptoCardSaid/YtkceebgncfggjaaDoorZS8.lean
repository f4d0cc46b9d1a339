/- NodesSets: words, printed functions and plain laws that the claim uses, laid by a program of this session's. No condition beside those in each theorem's own line. -/
import Derived.Defers
import Derived.Recover
import Derived.Test.YtkceebgncfggjaaDoorZS4
import Derived.Test.YtkceebgncfggjaaDoorZS7
set_option linter.unusedVariables false
set_option linter.unusedSimpArgs false
namespace Go.Proofs.YtkceebgncfggjaaDoor.H
open Go.Proofs.YtkceebgncfggjaaDoorX
open Go.RowKit Go.Proofs.YtkceebgncfggjaaDoorW.PrintWords Go.Proofs.YtkceebgncfggjaaDoorW.PrintLast Go.Proofs.YtkceebgncfggjaaDoorW.PrintMore
set_option maxHeartbeats 8000000
set_option maxRecDepth 100000
theorem parse1_idle (p q r : Addr) (w : World) :
    CallsD Tryd.prog 40 #[.pointer (some p), .pointer (some q), .pointer (some r)] .returning w fun e u' w' => e = .returned (.tuple #[]) ∧ u' = .returning ∧ Below w.heap.size w w' := by
  refine callsD_of_wpS Tryd.func40 rfl fun c₀ cs hu => ?_
  apply wpS_seq
  apply wpS_region
  simp [wpOpsS, go_sem, recoverD, hu, Tryd.ntmps40, Exit.thenS]
  refine (caught_nil w).mono ?_
  rintro e w1 ⟨rfl, hb⟩
  simp [go_sem]
  refine wpS_of_wp ?_
  go_wp2
  cases c₀
  simp_all [bodyPostS, results, Tryd.results40, go_sem]
  exact below_alloc hb _
end Go.Proofs.YtkceebgncfggjaaDoor.H

namespace Go.Proofs.YtkceebgncfggjaaDoor.H
open Go.Proofs.YtkceebgncfggjaaDoorX
open Go.RowKit Go.Proofs.YtkceebgncfggjaaDoorW.PrintWords Go.Proofs.YtkceebgncfggjaaDoorW.PrintLast Go.Proofs.YtkceebgncfggjaaDoorW.PrintMore
set_option maxHeartbeats 8000000
set_option maxRecDepth 100000
def T40 : Bool × List (List Nat × List Nat) := (true, [([], []), ([], []), ([1], [1]), ([], []), ([3], [3]), ([0, 0], [0]), ([2, 5, 0, 1, 2, 5], [2]), ([4, 6, 0, 1, 2, 3, 4, 5, 6], [4])])
def B40 : List Nat := [0, 0, 2, 0, 8, 1, 39, 127]
theorem tab40 : rtab .any (opsOf Tryd.f40 2) = T40 := by kernel_rfl
theorem bits40 : waitsOk T40.2 B40 = true := by kernel_rfl
theorem parse1_caught (bP bQ bR : Nat) (e at_ : Int) (he : e ≠ 0) (older : List PanicEntry) (w : World) (x0 x1 x2 y0 z0 : Value) (base : Nat)
    (QP : w.heap[bP]? = some (.cells #[x0, x1, x2] 43 (0, 0))) (QQ : w.heap[bQ]? = some (.cells #[y0] 3 (0, 0))) (QR : w.heap[bR]? = some (.cells #[z0] 27 (0, 0)))
    (hlP : base ≤ bP) (hlQ : base ≤ bQ) (hlR : base ≤ bR) :
    CallsD Tryd.prog 40 #[.pointer (some ⟨bP, 0, none⟩), .pointer (some ⟨bQ, 0, none⟩), .pointer (some ⟨bR, 0, none⟩)] (.panicking ({ v := wrong e at_, recovered := false } :: older)) w fun x u' w' =>
      x = .returned (.tuple #[]) ∧ u' = .panicking ({ v := wrong e at_, recovered := true } :: older) ∧ w'.heap[bP]? = some (.cells #[.int .u8 0, .slice none 0 0, .slice none 0 0] 43 (0, 0)) ∧ w'.heap[bQ]? = some (.cells #[.int .i64 at_] 3 (0, 0)) ∧ w'.heap[bR]? = some (.cells #[.int .i64 e] 27 (0, 0)) ∧ Below base w w' := by
  have FP := aZ QP
  have FQ := aZ QQ
  have FR := aZ QR
  clear QP QQ QR
  refine callsD_of_wpS Tryd.func40 rfl fun c₀ cs hu => ?_
  have heb : (e != 0) = true := by simpa using he
  apply wpS_seq
  apply wpS_region
  simp [wpOpsS, go_sem, recoverD, hu, Tryd.ntmps40, Exit.thenS]
  refine (caught_wrong e at_ w).mono ?_
  rintro x w1 ⟨rfl, hb1⟩
  have hb := aZ hb1
  clear hb1
  simp [go_sem]
  refine wpS_of_wp ?_
  have G0 := aZ (blk_new w1 (.cells #[.int .i64 e, .int .i64 at_] 69 (0, 0)))
  have P0 := aZ (blk_alloc (blk_below FP.out hb.out) (.cells #[.int .i64 e, .int .i64 at_] 69 (0, 0)))
  have Q0 := aZ (blk_alloc (blk_below FQ.out hb.out) (.cells #[.int .i64 e, .int .i64 at_] 69 (0, 0)))
  have R0 := aZ (blk_alloc (blk_below FR.out hb.out) (.cells #[.int .i64 e, .int .i64 at_] 69 (0, 0)))
  have HB0 := aZ ((below_alloc hb.out (.cells #[.int .i64 e, .int .i64 at_] 69 (0, 0))).mono (Nat.le_of_lt (Nat.lt_of_le_of_lt hlP (blk_lt FP.out))))
  clear hb FP FQ FR
  generalize w1.alloc (Obj.cells #[Value.int IntKind.i64 e, Value.int IntKind.i64 at_] 69) = w2 at P0 Q0 R0 G0 HB0 ⊢
  generalize w1.heap.size = g at G0 ⊢
  have hg0 : w2.cell? ⟨g, 0, none⟩ = some (.int .i64 e) := (blk_cell G0.out 0).trans rfl
  have hg1 : w2.cell? ⟨g, 1, none⟩ = some (.int .i64 at_) := (blk_cell G0.out 1).trans rfl
  change Code.wp _ _ _ { tmps := #[Value.pointer (some ⟨bP, 0, none⟩), Value.pointer (some ⟨bQ, 0, none⟩), Value.pointer (some ⟨bR, 0, none⟩), Value.pointer (some ⟨g, 0, none⟩), wrong e at_, .agg #[.int .i64 e, .int .i64 at_], undef, undef, undef, undef, undef, undef, undef, undef], defers := [] } _
  go_upto_region 2 with (fail)
  change Code.wp _ _ _ { tmps := #[Value.pointer (some ⟨bP, 0, none⟩), Value.pointer (some ⟨bQ, 0, none⟩), Value.pointer (some ⟨bR, 0, none⟩), Value.pointer (some ⟨g, 0, none⟩), wrong e at_, .agg #[.int .i64 e, .int .i64 at_], Value.pointer (some ⟨g, 0, none⟩), .int .i64 e, .bool true, undef, undef, undef, undef, undef], defers := [] } _
  have nQ_P := blk_ne Q0.out P0.out (by decide)
  have nR_P := blk_ne R0.out P0.out (by decide)
  have nR_Q := blk_ne R0.out Q0.out (by decide)
  have nG_P := blk_ne G0.out P0.out (by decide)
  have nG_Q := blk_ne G0.out Q0.out (by decide)
  have nG_R := blk_ne G0.out R0.out (by decide)
  refine start_ (n := 8) (S := fun w' => w'.cell? ⟨g, 0, none⟩ = some (.int .i64 e) ∧ w'.cell? ⟨g, 1, none⟩ = some (.int .i64 at_)) (ds := [7]) #[false, false, false, false, false, false, false, false] (by kernel_rfl) rfl rfl ⟨hg0, hg1⟩ (fun hHeld => ?_); refine with_tabW tab40 bits40 (fun HT_ HW_ => ?_)
  clear hg0 hg1 hHeld heb he
  have P1 := aZ (blk_drew P0.out)
  have Q1 := aZ (blk_drew Q0.out)
  have R1 := aZ (blk_drew R0.out)
  have G1 := aZ (blk_drew G0.out)
  have HB1 := aZ (below_drew1 HB0.out)
  clear HB0 P0 Q0 R0 G0
  generalize w2.drew = w3 at HB1 P1 Q1 R1 G1 ⊢
  have hHeld : w3.cell? ⟨g, 0, none⟩ = some (.int .i64 e) ∧ w3.cell? ⟨g, 1, none⟩ = some (.int .i64 at_) := ⟨(blk_cell G1.out 0).trans rfl, (blk_cell G1.out 1).trans rfl⟩
  refine pure_ (i := 0) (N := some 9) (v := ?_) (a' := ?_) #[true, false, false, false, false, false, false, false] rfl rfl (any_of HT_.out (by kernel_rfl)) (fun _ _ _ h => h) (Or.inl ⟨by rfl, ?_⟩) ?_ ?_
  rotate_left
  · intro w'
    go_simp
    with_reducible rfl
  rotate_left
  · simp only [Act.put, List.setIfInBounds_toArray, List.set_cons_zero, List.set_cons_succ, i64_w, i32_w]
    rfl
  refine pure_ (i := 1) (N := some 10) (v := ?_) (a' := ?_) #[true, true, false, false, false, false, false, false] rfl rfl (any_of HT_.out (by kernel_rfl)) (fun _ _ _ h => h) (Or.inl ⟨by rfl, ?_⟩) ?_ ?_
  rotate_left
  · intro w'
    go_simp
    with_reducible rfl
  rotate_left
  · simp only [Act.put, List.setIfInBounds_toArray, List.set_cons_zero, List.set_cons_succ, i64_w, i32_w]
    rfl
  refine pure_ (i := 3) (N := some 12) (v := ?_) (a' := ?_) #[true, true, false, true, false, false, false, false] rfl rfl (any_of HT_.out (by kernel_rfl)) (fun _ _ _ h => h) (Or.inl ⟨by rfl, ?_⟩) ?_ ?_
  rotate_left
  · intro w'
    go_simp
    with_reducible rfl
  rotate_left
  · simp only [Act.put, List.setIfInBounds_toArray, List.set_cons_zero, List.set_cons_succ, i64_w, i32_w]
    rfl
  refine take_ (i := 2) (N := some 11) (v := ?_) (a' := ?_) #[true, true, true, true, false, false, false, false] rfl rfl (take_ofW HT_.out HW_.out (by kernel_rfl)) (fun _ _ _ h => h) (Or.inl ⟨by rfl, ?_⟩) hHeld ?_ ?_
  rotate_left
  · intro w' s0
    obtain ⟨s1, s2⟩ := s0
    go_simp
    with_reducible rfl
  rotate_left
  · simp only [Act.put, List.setIfInBounds_toArray, List.set_cons_zero, List.set_cons_succ, i64_w, i32_w]
    rfl
  refine take_ (i := 4) (N := some 13) (v := ?_) (a' := ?_) #[true, true, true, true, true, false, false, false] rfl rfl (take_ofW HT_.out HW_.out (by kernel_rfl)) (fun _ _ _ h => h) (Or.inl ⟨by rfl, ?_⟩) hHeld ?_ ?_
  rotate_left
  · intro w' s0
    obtain ⟨s1, s2⟩ := s0
    go_simp
    with_reducible rfl
  rotate_left
  · simp only [Act.put, List.setIfInBounds_toArray, List.set_cons_zero, List.set_cons_succ, i64_w, i32_w]
    rfl
  have hc0 := (blk_cell P1.out 0).trans rfl
  have hf0 := blk_frozen P1.out 0
  have hc1 := (blk_cell P1.out 1).trans rfl
  have hf1 := blk_frozen P1.out 1
  have hc2 := (blk_cell P1.out 2).trans rfl
  have hf2 := blk_frozen P1.out 2
  refine one_ (i := 5) (N := none) #[true, true, true, true, true, true, false, false] rfl rfl (one_of HT_.out (by kernel_rfl)) (by decide) (fun K hK => ?_)
  refine skip_ (w1 := ((w3.setCell ⟨bP, 0, none⟩ (.int .u8 0)).setCell ⟨bP, 1, none⟩ (.slice none 0 0)).setCell ⟨bP, 2, none⟩ (.slice none 0 0)) (by rfl) rfl ?_ ?_
  · go_simp
  clear hc0 hf0 hc1 hf1 hc2 hf2
  have P2 := aZ (blk_put (blk_put (blk_put P1.out 0 (.int .u8 0) rfl) 1 (.slice none 0 0) rfl) 2 (.slice none 0 0) rfl)
  have Q2 := aZ (blk_far (p := ⟨bP, 2, none⟩) (blk_far (p := ⟨bP, 1, none⟩) (blk_far (p := ⟨bP, 0, none⟩) Q1.out nQ_P (.int .u8 0)) nQ_P (.slice none 0 0)) nQ_P (.slice none 0 0))
  have R2 := aZ (blk_far (p := ⟨bP, 2, none⟩) (blk_far (p := ⟨bP, 1, none⟩) (blk_far (p := ⟨bP, 0, none⟩) R1.out nR_P (.int .u8 0)) nR_P (.slice none 0 0)) nR_P (.slice none 0 0))
  have G2 := aZ (blk_far (p := ⟨bP, 2, none⟩) (blk_far (p := ⟨bP, 1, none⟩) (blk_far (p := ⟨bP, 0, none⟩) G1.out nG_P (.int .u8 0)) nG_P (.slice none 0 0)) nG_P (.slice none 0 0))
  have HB2 := aZ (Below.setCell (Below.setCell (Below.setCell HB1.out (p := ⟨bP, 0, none⟩) hlP (.int .u8 0)) (p := ⟨bP, 1, none⟩) hlP (.slice none 0 0)) (p := ⟨bP, 2, none⟩) hlP (.slice none 0 0))
  clear HB1 P1 Q1 R1 G1
  generalize ((w3.setCell ⟨bP, 0, none⟩ (.int .u8 0)).setCell ⟨bP, 1, none⟩ (.slice none 0 0)).setCell ⟨bP, 2, none⟩ (.slice none 0 0) = w4 at HB2 P2 Q2 R2 G2 ⊢
  refine hK.out _ _ ⟨(blk_cell G2.out 0).trans rfl, (blk_cell G2.out 1).trans rfl⟩ (fun hHeld => ?_)
  clear hK K
  have hc0 := (blk_cell Q2.out 0).trans rfl
  have hf0 := blk_frozen Q2.out 0
  refine one_ (i := 6) (N := none) #[true, true, true, true, true, true, true, false] rfl rfl (one_of HT_.out (by kernel_rfl)) (by decide) (fun K hK => ?_)
  refine skip_ (w1 := w4.setCell ⟨bQ, 0, none⟩ (.int .i64 at_)) (by rfl) rfl ?_ ?_
  · go_simp
  clear hc0 hf0
  have P3 := aZ (blk_far (p := ⟨bQ, 0, none⟩) P2.out (Ne.symm nQ_P) (.int .i64 at_))
  have Q3 := aZ (blk_put Q2.out 0 (.int .i64 at_) rfl)
  have R3 := aZ (blk_far (p := ⟨bQ, 0, none⟩) R2.out nR_Q (.int .i64 at_))
  have G3 := aZ (blk_far (p := ⟨bQ, 0, none⟩) G2.out nG_Q (.int .i64 at_))
  have HB3 := aZ (Below.setCell HB2.out (p := ⟨bQ, 0, none⟩) hlQ (.int .i64 at_))
  clear HB2 P2 Q2 R2 G2
  generalize w4.setCell ⟨bQ, 0, none⟩ (.int .i64 at_) = w5 at HB3 P3 Q3 R3 G3 ⊢
  refine hK.out _ _ ⟨(blk_cell G3.out 0).trans rfl, (blk_cell G3.out 1).trans rfl⟩ (fun hHeld => ?_)
  clear hK K
  have hc0 := (blk_cell R3.out 0).trans rfl
  have hf0 := blk_frozen R3.out 0
  refine last_ (i := 7) (N := none) #[true, true, true, true, true, true, true, true] rfl rfl (one_of HT_.out (by kernel_rfl)) (by decide) (fun K hK => ?_)
  refine skip_ (w1 := w5.setCell ⟨bR, 0, none⟩ (.int .i64 e)) (by rfl) rfl ?_ ?_
  · go_simp
  clear hc0 hf0
  have P4 := aZ (blk_far (p := ⟨bR, 0, none⟩) P3.out (Ne.symm nR_P) (.int .i64 e))
  have Q4 := aZ (blk_far (p := ⟨bR, 0, none⟩) Q3.out (Ne.symm nR_Q) (.int .i64 e))
  have R4 := aZ (blk_put R3.out 0 (.int .i64 e) rfl)
  have G4 := aZ (blk_far (p := ⟨bR, 0, none⟩) G3.out nG_R (.int .i64 e))
  have HB4 := aZ (Below.setCell HB3.out (p := ⟨bR, 0, none⟩) hlR (.int .i64 e))
  clear HB3 P3 Q3 R3 G3
  generalize w5.setCell ⟨bR, 0, none⟩ (.int .i64 e) = w6 at HB4 P4 Q4 R4 G4 ⊢
  refine hK.out _ _ ?_
  clear hK K
  refine done_ (done_of HT_.out (by kernel_rfl)) ?_
  change bodyPostS _ _ _ _ _ _ _ _ _
  cases c₀
  simp_all [bodyPostS, results, Tryd.results40, go_sem]
  exact ⟨P4.out, Q4.out, R4.out, HB4.out⟩
def T45 : Bool × List (List Nat × List Nat) := (true, [([], []), ([0], [0]), ([], []), ([1, 2, 0, 1, 2], [1])])
def B45 : List Nat := [0, 1, 0, 7]
theorem tab45 : rtab .any (opsOf Tryd.f45 2) = T45 := by kernel_rfl
theorem bits45 : waitsOk T45.2 B45 = true := by kernel_rfl
theorem print1_caught (bP bR : Nat) (e at_ : Int) (he : e ≠ 0) (older : List PanicEntry) (w : World) (x0 z0 : Value) (base : Nat)
    (QP : w.heap[bP]? = some (.cells #[x0] 24 (0, 0))) (QR : w.heap[bR]? = some (.cells #[z0] 27 (0, 0)))
    (hlP : base ≤ bP) (hlR : base ≤ bR) :
    CallsD Tryd.prog 45 #[.pointer (some ⟨bP, 0, none⟩), .pointer (some ⟨bR, 0, none⟩)] (.panicking ({ v := wrong e at_, recovered := false } :: older)) w fun x u' w' =>
      x = .returned (.tuple #[]) ∧ u' = .panicking ({ v := wrong e at_, recovered := true } :: older) ∧ w'.heap[bP]? = some (.cells #[.slice none 0 0] 24 (0, 0)) ∧ w'.heap[bR]? = some (.cells #[.int .i64 e] 27 (0, 0)) ∧ Below base w w' := by
  have FP := aZ QP
  have FR := aZ QR
  clear QP QR
  refine callsD_of_wpS Tryd.func45 rfl fun c₀ cs hu => ?_
  have heb : (e != 0) = true := by simpa using he
  apply wpS_seq
  apply wpS_region
  simp [wpOpsS, go_sem, recoverD, hu, Tryd.ntmps45, Exit.thenS]
  refine (caught_wrong e at_ w).mono ?_
  rintro x w1 ⟨rfl, hb1⟩
  have hb := aZ hb1
  clear hb1
  simp [go_sem]
  refine wpS_of_wp ?_
  have G0 := aZ (blk_new w1 (.cells #[.int .i64 e, .int .i64 at_] 69 (0, 0)))
  have P0 := aZ (blk_alloc (blk_below FP.out hb.out) (.cells #[.int .i64 e, .int .i64 at_] 69 (0, 0)))
  have R0 := aZ (blk_alloc (blk_below FR.out hb.out) (.cells #[.int .i64 e, .int .i64 at_] 69 (0, 0)))
  have HB0 := aZ ((below_alloc hb.out (.cells #[.int .i64 e, .int .i64 at_] 69 (0, 0))).mono (Nat.le_of_lt (Nat.lt_of_le_of_lt hlP (blk_lt FP.out))))
  clear hb FP FR
  generalize w1.alloc (Obj.cells #[Value.int IntKind.i64 e, Value.int IntKind.i64 at_] 69) = w2 at P0 R0 G0 HB0 ⊢
  generalize w1.heap.size = g at G0 ⊢
  have hg0 : w2.cell? ⟨g, 0, none⟩ = some (.int .i64 e) := (blk_cell G0.out 0).trans rfl
  have hg1 : w2.cell? ⟨g, 1, none⟩ = some (.int .i64 at_) := (blk_cell G0.out 1).trans rfl
  change Code.wp _ _ _ { tmps := #[Value.pointer (some ⟨bP, 0, none⟩), Value.pointer (some ⟨bR, 0, none⟩), Value.pointer (some ⟨g, 0, none⟩), wrong e at_, .agg #[.int .i64 e, .int .i64 at_], undef, undef, undef, undef, undef], defers := [] } _
  go_upto_region 2 with (fail)
  change Code.wp _ _ _ { tmps := #[Value.pointer (some ⟨bP, 0, none⟩), Value.pointer (some ⟨bR, 0, none⟩), Value.pointer (some ⟨g, 0, none⟩), wrong e at_, .agg #[.int .i64 e, .int .i64 at_], Value.pointer (some ⟨g, 0, none⟩), .int .i64 e, .bool true, undef, undef], defers := [] } _
  have nR_P := blk_ne R0.out P0.out (by decide)
  have nG_P := blk_ne G0.out P0.out (by decide)
  have nG_R := blk_ne G0.out R0.out (by decide)
  refine start_ (n := 4) (S := fun w' => w'.cell? ⟨g, 0, none⟩ = some (.int .i64 e) ∧ w'.cell? ⟨g, 1, none⟩ = some (.int .i64 at_)) (ds := [3]) #[false, false, false, false] (by kernel_rfl) rfl rfl ⟨hg0, hg1⟩ (fun hHeld => ?_); refine with_tabW tab45 bits45 (fun HT_ HW_ => ?_)
  clear hg0 hg1 hHeld heb he
  have P1 := aZ (blk_drew P0.out)
  have R1 := aZ (blk_drew R0.out)
  have G1 := aZ (blk_drew G0.out)
  have HB1 := aZ (below_drew1 HB0.out)
  clear HB0 P0 R0 G0
  generalize w2.drew = w3 at HB1 P1 R1 G1 ⊢
  have hHeld : w3.cell? ⟨g, 0, none⟩ = some (.int .i64 e) ∧ w3.cell? ⟨g, 1, none⟩ = some (.int .i64 at_) := ⟨(blk_cell G1.out 0).trans rfl, (blk_cell G1.out 1).trans rfl⟩
  refine pure_ (i := 0) (N := some 8) (v := ?_) (a' := ?_) #[true, false, false, false] rfl rfl (any_of HT_.out (by kernel_rfl)) (fun _ _ _ h => h) (Or.inl ⟨by rfl, ?_⟩) ?_ ?_
  rotate_left
  · intro w'
    go_simp
    with_reducible rfl
  rotate_left
  · simp only [Act.put, List.setIfInBounds_toArray, List.set_cons_zero, List.set_cons_succ, i64_w, i32_w]
    rfl
  refine take_ (i := 1) (N := some 9) (v := ?_) (a' := ?_) #[true, true, false, false] rfl rfl (take_ofW HT_.out HW_.out (by kernel_rfl)) (fun _ _ _ h => h) (Or.inl ⟨by rfl, ?_⟩) hHeld ?_ ?_
  rotate_left
  · intro w' s0
    obtain ⟨s1, s2⟩ := s0
    go_simp
    with_reducible rfl
  rotate_left
  · simp only [Act.put, List.setIfInBounds_toArray, List.set_cons_zero, List.set_cons_succ, i64_w, i32_w]
    rfl
  have hc0 := (blk_cell P1.out 0).trans rfl
  have hf0 := blk_frozen P1.out 0
  refine one_ (i := 2) (N := none) #[true, true, true, false] rfl rfl (one_of HT_.out (by kernel_rfl)) (by decide) (fun K hK => ?_)
  refine skip_ (w1 := w3.setCell ⟨bP, 0, none⟩ (.slice none 0 0)) (by rfl) rfl ?_ ?_
  · go_simp
  clear hc0 hf0
  have P2 := aZ (blk_put P1.out 0 (.slice none 0 0) rfl)
  have R2 := aZ (blk_far (p := ⟨bP, 0, none⟩) R1.out nR_P (.slice none 0 0))
  have G2 := aZ (blk_far (p := ⟨bP, 0, none⟩) G1.out nG_P (.slice none 0 0))
  have HB2 := aZ (Below.setCell HB1.out (p := ⟨bP, 0, none⟩) hlP (.slice none 0 0))
  clear HB1 P1 R1 G1
  generalize w3.setCell ⟨bP, 0, none⟩ (.slice none 0 0) = w4 at HB2 P2 R2 G2 ⊢
  refine hK.out _ _ ⟨(blk_cell G2.out 0).trans rfl, (blk_cell G2.out 1).trans rfl⟩ (fun hHeld => ?_)
  clear hK K
  have hc0 := (blk_cell R2.out 0).trans rfl
  have hf0 := blk_frozen R2.out 0
  refine last_ (i := 3) (N := none) #[true, true, true, true] rfl rfl (one_of HT_.out (by kernel_rfl)) (by decide) (fun K hK => ?_)
  refine skip_ (w1 := w4.setCell ⟨bR, 0, none⟩ (.int .i64 e)) (by rfl) rfl ?_ ?_
  · go_simp
  clear hc0 hf0
  have P3 := aZ (blk_far (p := ⟨bR, 0, none⟩) P2.out (Ne.symm nR_P) (.int .i64 e))
  have R3 := aZ (blk_put R2.out 0 (.int .i64 e) rfl)
  have G3 := aZ (blk_far (p := ⟨bR, 0, none⟩) G2.out nG_R (.int .i64 e))
  have HB3 := aZ (Below.setCell HB2.out (p := ⟨bR, 0, none⟩) hlR (.int .i64 e))
  clear HB2 P2 R2 G2
  generalize w4.setCell ⟨bR, 0, none⟩ (.int .i64 e) = w5 at HB3 P3 R3 G3 ⊢
  refine hK.out _ _ ?_
  clear hK K
  refine done_ (done_of HT_.out (by kernel_rfl)) ?_
  change bodyPostS _ _ _ _ _ _ _ _ _
  cases c₀
  simp_all [bodyPostS, results, Tryd.results45, go_sem]
  exact ⟨P3.out, R3.out, HB3.out⟩
theorem print1_idle (p r : Addr) (w : World) :
    CallsD Tryd.prog 45 #[.pointer (some p), .pointer (some r)] .returning w fun e u' w' => e = .returned (.tuple #[]) ∧ u' = .returning ∧ Below w.heap.size w w' := by
  refine callsD_of_wpS Tryd.func45 rfl fun c₀ cs hu => ?_
  apply wpS_seq
  apply wpS_region
  simp [wpOpsS, go_sem, recoverD, hu, Tryd.ntmps45, Exit.thenS]
  refine (caught_nil w).mono ?_
  rintro e w1 ⟨rfl, hb⟩
  simp [go_sem]
  refine wpS_of_wp ?_
  go_wp2
  cases c₀
  simp_all [bodyPostS, results, Tryd.results45, go_sem]
  exact below_alloc hb _
end Go.Proofs.YtkceebgncfggjaaDoor.H

