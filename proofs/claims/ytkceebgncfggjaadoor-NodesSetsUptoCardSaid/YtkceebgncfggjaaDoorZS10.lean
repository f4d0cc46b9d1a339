/- NodesSets: words, printed functions and plain laws that the claim uses, laid by a program of this session's. No condition beside those in each theorem's own line. -/
import Derived.Lib.Hide
import Derived.Test.YtkceebgncfggjaaDoorZS6
set_option linter.unusedVariables false
set_option linter.unusedSimpArgs false
namespace Go.Proofs.YtkceebgncfggjaaDoor.PQ
open Go.RowKit Go.Proofs.YtkceebgncfggjaaDoorW.PrintWords Go.Proofs.YtkceebgncfggjaaDoorW.PrintLast Go.Proofs.YtkceebgncfggjaaDoorW.PrintMore Go.Proofs.YtkceebgncfggjaaDoorX
set_option maxHeartbeats 8000000
set_option maxRecDepth 100000
attribute [local go_sem] max2_int min2_int max_two min_two
def ints_OID_1.f (k : Nat) (l0 : List Int) (l1 : List Int) : Option (List Int) := (ints_PutOID.f k l0).bind fun bt132 => (if bt132.2 = 0 then (some bt132.1) else ((some (([0] : List Int) : List Int)).bind fun y136 => (if y136.length + l1.length < 140737488355328 then (some (y136 ++ l1)) else (none))))
theorem ints_OID_1.mono : ∀ a0 a1 k, LeO (ints_OID_1.f k a0 a1) (ints_OID_1.f (k + 1) a0 a1) := by
  intro a0 a1 k
  unfold ints_OID_1.f
  repeat' first
      | (with_reducible exact ints_PutOID.mono _ _)
      | (with_reducible exact LeO.refl _)
      | (with_reducible exact LeO.none _)
      | (with_reducible refine LeO.ite ?_ ?_)
      | (with_reducible refine LeO.bind ?_ (fun _ => ?_))
      | (with_reducible refine LeO_bindX ?_ (fun _ => ?_))
      | exact ints_PutOID.mono _ _
      | exact LeO.none _
      | refine LeO.ite ?_ ?_
      | refine LeO.bind ?_ (fun _ => ?_)
theorem ints_OID_1.calls (k : Nat) (A0 : Option Addr) (c0 : Nat) (l0 : List Int) (A1 : Option Addr) (c1 : Nat) (l1 : List Int) (r : List Int) (w : World) (hr0 : Kd.C (Kd.int .i64) w A0 l0.length l0) (hc0 : l0.length ≤ c0) (hr1 : Kd.C (Kd.int .u8) w A1 l1.length l1) (hc1 : l1.length ≤ c1) (g : Nat) (hg : w.cell? ⟨g, 0, none⟩ = some (.slice A1 l1.length c1)) (h : ints_OID_1.f k l0 l1 = some r) :
    Calls Tryd.prog 39 #[.slice A0 l0.length c0, .pointer (some ⟨g, 0, none⟩)] w fun e w' => ∃ v0_ : Value, e = .returned (v0_) ∧ Kd.R (Kd.int .u8) 5 w' w.heap.size (fun _ => True) v0_ r ∧ Below w.heap.size w w' := by
  have HR0 := aZ hr0
  have HC0 := aZ hc0
  clear hr0 hc0
  have HR1 := aZ hr1
  have HC1 := aZ hc1
  clear hr1 hc1
  have HG := Lib.hid hg
  clear hg
  have HB := aZ (Below.refl w.heap.size w)
  have H := h
  clear h
  unfold ints_OID_1.f at H
  replace H := Option.bind_eq_some_iff.mp H
  obtain ⟨⟨t132, t133⟩, A30, H⟩ := H
  try dsimp only at H
  have A3 := aZ A30
  clear A30
  by_cases c4 : t133 = 0
  · rw [if_pos c4] at H
    have c4b0 : (t133 == 0) = true := beq_iff_eq.mpr c4
    have c4b1 : (t133 != 0) = false := bne_eq_false_iff_eq.mpr c4
    clear c4
    obtain rfl := Option.some.inj H
    go_enter Tryd.func39, Tryd.ntmps39
    go_wp2_with (first | ((with_reducible refine gC 19 rfl ?_); refine goL (some 8) Tryd.func19 #[.slice A0 l0.length c0] ?_; (with_reducible refine (ints_PutOID.calls k _ _ l0 t132 t133 _ ?side1 ?side2 A3.out).mono ?_); (case side1 => exact kC HR0.out); (case side2 => exact HC0.out); rintro e w5 ⟨v134, rfl, ho0, hb⟩; refine ⟨_, rfl, ?_⟩; have HO135 := aZ (Kd.R_lower ho0 (below_size bB)); replace HB := aZ (below_step bB hb); (try clear hb); (try clear hb2); (try clear hk); (try clear hi); (try clear ho0)))
    go_ret
    exact ⟨_, rF, by refine kR ?_; exact HO135.out, bB⟩
  · rw [if_neg c4] at H
    have c4b0 : (t133 == 0) = false := beq_eq_false_iff_ne.mpr c4
    have c4b1 : (t133 != 0) = true := bne_iff_ne.mpr c4
    obtain ⟨y136, hy136⟩ : ∃ y_ : List Int, y_ = (([0] : List Int)) := ⟨_, rfl⟩
    replace H : (if y136.length + l1.length < 140737488355328 then (some (y136 ++ l1)) else (none)) = some r := by first | (rw [hy136]; with_reducible exact H) | (have H2_ := (Option.bind_some _ _).symm.trans H; rw [hy136]; with_reducible exact H2_) | (have H2_ := (Option.bind_some _ _).symm.trans H; with_reducible exact H2_) | with_reducible exact H | (rw [hy136]; exact H) | exact H
    have Ny136 := aZ hy136
    clear hy136
    by_cases c6 : y136.length + l1.length < 140737488355328
    · rw [if_pos c6] at H
      have LMc6 := aZ c6
      clear c6
      obtain ⟨y139, hy139⟩ : ∃ y_ : List Int, y_ = (y136 ++ l1) := ⟨_, rfl⟩
      replace H : (some y139) = some r := by first | (rw [hy139]; with_reducible exact H) | (have H2_ := (Option.bind_some _ _).symm.trans H; rw [hy139]; with_reducible exact H2_) | (have H2_ := (Option.bind_some _ _).symm.trans H; with_reducible exact H2_) | with_reducible exact H | (rw [hy139]; exact H) | exact H
      have Ny139 := aZ hy139
      clear hy139
      obtain rfl := Option.some.inj H
      go_enter Tryd.func39, Tryd.ntmps39
      go_wp2_with (first | ((with_reducible refine gC 19 rfl ?_); refine goL (some 8) Tryd.func19 #[.slice A0 l0.length c0] ?_; (with_reducible refine (ints_PutOID.calls k _ _ l0 t132 t133 _ ?side1 ?side2 A3.out).mono ?_); (case side1 => exact kC HR0.out); (case side2 => exact HC0.out); rintro e w7 ⟨v134, rfl, ho0, hb⟩; refine ⟨_, rfl, ?_⟩; have HO135 := aZ (Kd.R_lower ho0 (below_size bB)); replace HB := aZ (below_step bB hb); (try clear hb); (try clear hb2); (try clear hk); (try clear hi); (try clear ho0)) | ((with_reducible refine gD 14 rfl ?_); refine Kd.R_lit (Kd.int .u8) _ 5 ?hg (N := 14) ?hd (xs := ([0] : List Int)) (inner := [.int .u8 0]) (ok := fun _ => True) (okp := fun _ => True) ?hr ?hp (fun _ hk => hk) trivial (Below.refl _ _) (Nat.le_refl _) (by simp) ?_; (case hd => rfl); (case hg => rfl); (case hr => exact gS); (case hp => exact (Reps.one (show Kd.M (Kd.int .u8) _ _ _ 0 [.int .u8 0] from rfl) (Reps.none _ _))); intro v137 w8 ho9 hb hg_ hnew_; clear hg_ hnew_; (first | rw [← Ny136.out] at ho9 | (simp only [Int.reduceToNat] at ho9; rw [← Ny136.out] at ho9)); have HO138 := aZ (Kd.R_lower (Kd.R_new' ho9 (Kd.R_lt (kR HO135.out))) (below_size bB)); replace HO135 := aZ (Kd.R_elder' (kR HO135.out) (Kd.R_base ho9) hb); replace HB := aZ (below_step bB hb); clear hb ho9; have hgl_ := (HB.out.cell (World.block_lt_of_cell? w _ HG.out)).trans HG.out) | ((with_reducible refine gate_builtin (b := .append) (xs := #[.tmp 14, .tmp 15]) rfl ?_); at_builtin; refine Kd.R_append_rows (Kd.int .u8) (w0 := w) w.heap.size rfl (.tmp 14) (.tmp 15) 24 5 (.int .u8 0) 1 rfl Tryd.underlying24 info5 rfl (by decide) (by omega) v137 y136 l1 _ _ _ (fun k_ => some k_ ≠ (v134 : Value).ownBlock) (fun _ => False) rfl rfl ?aO ?aR (fun _ _ h => h) (fun _ h => h.elim) ?aF ?aB ?aS ?aL ?_; (case aR => exact kC (Kd.C_below HR1.out HB.out)); (case aB => exact bB); (case aF => exact (fun k_ hk => Kd.fresh' (Kd.R_lt (kR HO135.out)) k_ hk)); (case aO => exact (by refine kR ?_; exact Kd.R_mono HO138.out (fun _ hk => hk.2))); (case aS => exact (below_size bB)); (case aL => have := LMc6.out; omega); intro v140 w10 ho hb hg hat; rw [← Ny139.out] at ho; replace HO135 := aZ (Kd.R_after (ok := (fun _ => True)) (kR HO135.out) hg hat); replace HB := aZ (hb); have HO141 := aZ (ho); clear HO138; clear ho hb hg hat))
      go_ret
      exact ⟨_, rF, by refine kR ?_; exact Kd.R_mono HO141.out (fun _ hk => trivial), bB⟩
    · rw [if_neg c6] at H
      exact absurd H (by simp)
def ints_strict_int.f (k : Nat) (l0 : List Int) (l1 : List Int) (a2 : Int)  : Option (List Int × Int) := (ints_OID_1.f k l1 l0).bind fun t142 => ((bytes_Equal.f t142 l0).bind fun t145 => (if t145 = true then (some (l1, 0)) else (some (([] : List Int), a2))))
theorem ints_strict_int.mono : ∀ a0 a1 a2 k, LeO (ints_strict_int.f k a0 a1 a2) (ints_strict_int.f (k + 1) a0 a1 a2) := by
  intro a0 a1 a2 k
  unfold ints_strict_int.f
  repeat' first
      | (with_reducible exact ints_OID_1.mono _ _ _)
      | (with_reducible exact LeO.refl _)
      | (with_reducible exact LeO.none _)
      | (with_reducible refine LeO.ite ?_ ?_)
      | (with_reducible refine LeO.bind ?_ (fun _ => ?_))
      | (with_reducible refine LeO_bindX ?_ (fun _ => ?_))
      | exact ints_OID_1.mono _ _ _
      | exact LeO.none _
      | refine LeO.ite ?_ ?_
      | refine LeO.bind ?_ (fun _ => ?_)
theorem ints_strict_int.calls (k : Nat) (A0 : Option Addr) (c0 : Nat) (l0 : List Int) (P1_ : Nat → Prop) (u9000_ : Value) (l1 : List Int) (a2 : Int)  (r1 : List Int) (r2 : Int) (w0 w : World) (hB : Below w0.heap.size w0 w) (hr0 : ∀ W_, Kept w W_ (fun k_ => P1_ k_) → Kd.C (Kd.int .u8) W_ A0 l0.length l0) (hc0 : l0.length ≤ c0) (ho1 : Kd.R (Kd.int .i64) 3 w w0.heap.size P1_ u9000_ l1) (g : Nat) (hg : ∀ W_, Kept w W_ (fun k_ => P1_ k_) → W_.cell? ⟨g, 0, none⟩ = some (.slice A0 l0.length c0)) (h : ints_strict_int.f k l0 l1 a2 = some (r1, r2)) :
    Calls Tryd.prog 38 #[.slice A0 l0.length c0, u9000_, .int .i64 a2, .func (.func 39) #[] #[.pointer (some ⟨g, 0, none⟩)]] w fun e w' => ∃ v0_ : Value, e = .returned (.tuple #[v0_, .int .i64 r2]) ∧ Kd.R (Kd.int .i64) 3 w' w0.heap.size (fun k_ => (P1_ k_ ∨ w.heap.size ≤ k_)) v0_ r1 ∧ Below w0.heap.size w0 w' ∧ Kept w w' (fun k_ => P1_ k_) := by
  have HR0 := aZ hr0
  have HC0 := aZ hc0
  clear hr0 hc0
  have HG := Lib.hid hg
  clear hg
  have HO1 := aZ (show Kd.R (Kd.int .i64) 3 w w0.heap.size (fun k_ => (P1_ k_ ∨ w.heap.size ≤ k_)) u9000_ l1 from Kd.R_mono ho1 (fun k_ hk => (.inl hk)))
  have HK := aZ (Kept.refl w (fun k_ => P1_ k_))
  have HW0 := aZ hB.size
  have HB := aZ hB
  clear hB
  have H := h
  clear h
  unfold ints_strict_int.f at H
  replace H := Option.bind_eq_some_iff.mp H
  obtain ⟨t142, A50, H⟩ := H
  try dsimp only at H
  have A5 := aZ A50
  clear A50
  replace H := Option.bind_eq_some_iff.mp H
  obtain ⟨t145, A60, H⟩ := H
  try dsimp only at H
  have A6 := aZ A60
  clear A60
  by_cases c7 : t145 = true
  · subst c7
    rw [if_pos rfl] at H
    simp only [Option.some.injEq, Prod.mk.injEq] at H
    obtain ⟨rfl, rfl⟩ := H
    obtain ⟨Ao8, co8, eo8⟩ := Kd.R_slice HO1.out
    subst eo8
    go_enter Tryd.func38, Tryd.ntmps38
    go_wp2_with (first | ((with_reducible refine gate_calleeV (t := 11) rfl ?_); refine goesC_ (some 13) rfl rfl Tryd.func39 (by kernel_rfl) rfl #[.slice Ao8 l1.length co8] #[.pointer (some ⟨g, 0, none⟩)] #[.slice Ao8 l1.length co8, .pointer (some ⟨g, 0, none⟩)] rfl rfl aA rfl ?_; (with_reducible refine (ints_OID_1.calls k _ _ l1 A0 c0 l0 t142 _ ?side1 ?side2 ?side3 ?side4 g ?sideG A5.out).mono ?_); (case side1 => exact kC (Kd.R_reads' HO1.out).2.2); (case side2 => exact (Kd.R_reads' HO1.out).2.1); (case side3 => exact Kd.C_kept_now HR0.out (by repeat (first | (with_reducible first | exact HK.out | apply Kept.alloc | apply Kept.drewN | apply Kept.drew) | exact HK.out))); (case side4 => exact HC0.out); (case sideG => exact HG.out _ HK.out); rintro e w9 ⟨v143, rfl, ho0, hb⟩; refine ⟨_, rfl, ?_⟩; replace HO1 := aZ (Kd.R_below (kR HO1.out) hb); have HO144 := aZ (Kd.R_lower (Kd.R_newM (M := fun k_ => (P1_ k_ ∨ w.heap.size ≤ k_)) ho0 (by first | exact HK.out.1 | exact (show Kept w _ (fun k_ => P1_ k_) from by repeat (first | (with_reducible first | exact HK.out | apply Kept.alloc | apply Kept.drewN | apply Kept.drew) | exact HK.out)).1) (fun k_ h_ => .inr h_)) (below_size bB)); replace HK := aZ (Kept.below (S := (fun k_ => P1_ k_)) (by repeat (first | (with_reducible first | exact HK.out | apply Kept.alloc | apply Kept.drewN | apply Kept.drew) | exact HK.out)) hb); replace HB := aZ (below_step bB hb); (try clear hb); (try clear hb2); (try clear hk); (try clear hi); (try clear ho0); obtain ⟨Ao10, co10, eo10⟩ := Kd.R_slice HO144.out; subst eo10) | ((with_reducible refine gC 48 rfl ?_); refine goL (some 15) Tryd.func48 #[.slice Ao10 t142.length co10, .slice A0 l0.length c0] ?_; (with_reducible refine (bytes_Equal.calls _ _ t142 _ _ l0 true _ ?side1 ?side2 ?side3 ?side4 A6.out).mono ?_); (case side1 => exact kC (Kd.R_reads' HO144.out).2.2); (case side2 => exact (Kd.R_reads' HO144.out).2.1); (case side3 => exact Kd.C_kept_now HR0.out (by repeat (first | (with_reducible first | exact HK.out | apply Kept.alloc | apply Kept.drewN | apply Kept.drew) | exact HK.out))); (case side4 => exact HC0.out); rintro e w' ⟨rfl, ⟨nd, rfl⟩⟩; refine ⟨_, rfl, ?_⟩))
    go_ret2
    exact ⟨_, rF, by refine kR ?_; exact HO1.out, bB, by repeat (first | (with_reducible first | exact HK.out | apply Kept.alloc | apply Kept.drewN | apply Kept.drew) | exact HK.out)⟩
  · replace c7 := Bool.eq_false_iff.mpr c7
    subst c7
    rw [if_neg (show ¬ (false = true) by decide)] at H
    simp only [Option.some.injEq, Prod.mk.injEq] at H
    obtain ⟨rfl, rfl⟩ := H
    obtain ⟨Ao11, co11, eo11⟩ := Kd.R_slice HO1.out
    subst eo11
    go_enter Tryd.func38, Tryd.ntmps38
    go_wp2_with (first | ((with_reducible refine gate_calleeV (t := 11) rfl ?_); refine goesC_ (some 13) rfl rfl Tryd.func39 (by kernel_rfl) rfl #[.slice Ao11 l1.length co11] #[.pointer (some ⟨g, 0, none⟩)] #[.slice Ao11 l1.length co11, .pointer (some ⟨g, 0, none⟩)] rfl rfl aA rfl ?_; (with_reducible refine (ints_OID_1.calls k _ _ l1 A0 c0 l0 t142 _ ?side1 ?side2 ?side3 ?side4 g ?sideG A5.out).mono ?_); (case side1 => exact kC (Kd.R_reads' HO1.out).2.2); (case side2 => exact (Kd.R_reads' HO1.out).2.1); (case side3 => exact Kd.C_kept_now HR0.out (by repeat (first | (with_reducible first | exact HK.out | apply Kept.alloc | apply Kept.drewN | apply Kept.drew) | exact HK.out))); (case side4 => exact HC0.out); (case sideG => exact HG.out _ HK.out); rintro e w12 ⟨v143, rfl, ho0, hb⟩; refine ⟨_, rfl, ?_⟩; replace HO1 := aZ (Kd.R_below (kR HO1.out) hb); have HO144 := aZ (Kd.R_lower (Kd.R_newM (M := fun k_ => (P1_ k_ ∨ w.heap.size ≤ k_)) ho0 (by first | exact HK.out.1 | exact (show Kept w _ (fun k_ => P1_ k_) from by repeat (first | (with_reducible first | exact HK.out | apply Kept.alloc | apply Kept.drewN | apply Kept.drew) | exact HK.out)).1) (fun k_ h_ => .inr h_)) (below_size bB)); replace HK := aZ (Kept.below (S := (fun k_ => P1_ k_)) (by repeat (first | (with_reducible first | exact HK.out | apply Kept.alloc | apply Kept.drewN | apply Kept.drew) | exact HK.out)) hb); replace HB := aZ (below_step bB hb); (try clear hb); (try clear hb2); (try clear hk); (try clear hi); (try clear ho0); obtain ⟨Ao13, co13, eo13⟩ := Kd.R_slice HO144.out; subst eo13) | ((with_reducible refine gC 48 rfl ?_); refine goL (some 15) Tryd.func48 #[.slice Ao13 t142.length co13, .slice A0 l0.length c0] ?_; (with_reducible refine (bytes_Equal.calls _ _ t142 _ _ l0 false _ ?side1 ?side2 ?side3 ?side4 A6.out).mono ?_); (case side1 => exact kC (Kd.R_reads' HO144.out).2.2); (case side2 => exact (Kd.R_reads' HO144.out).2.1); (case side3 => exact Kd.C_kept_now HR0.out (by repeat (first | (with_reducible first | exact HK.out | apply Kept.alloc | apply Kept.drewN | apply Kept.drew) | exact HK.out))); (case side4 => exact HC0.out); rintro e w' ⟨rfl, ⟨nd, rfl⟩⟩; refine ⟨_, rfl, ?_⟩))
    go_ret2
    exact ⟨_, rF, nN, bB, by repeat (first | (with_reducible first | exact HK.out | apply Kept.alloc | apply Kept.drewN | apply Kept.drew) | exact HK.out)⟩
def ints_OID.l0 : Nat → List Int → List Int → Int → List Int → Int → Int → Option (List Int × Int)
  | 0, _, _, _, _, _, _ => none
  | k + 1, x1, x4, x5, x9, x10, x11 => if x11 < x10 then (if 0 ≤ x11 then (if x11 < (x9.length : Int) then (if (wrap64 ((wrap64 (x5 * 128)) + (wrap64 (Go.bits .and .u8 (rd x9 x11) 127)))) > 268435455 then (some (([] : List Int), 22)) else (if (rd x9 x11) > 127 then (ints_OID.l0 k x1 x4 (wrap64 ((wrap64 (x5 * 128)) + (wrap64 (Go.bits .and .u8 (rd x9 x11) 127)))) x9 x10 (wrap64 (x11 + 1))) else (if (x4.length : Int) = 0 then ((some (([mn (wrap64 (Int.tdiv (wrap64 ((wrap64 (x5 * 128)) + (wrap64 (Go.bits .and .u8 (rd x9 x11) 127)))) 40)) 2, wrap64 ((wrap64 ((wrap64 (x5 * 128)) + (wrap64 (Go.bits .and .u8 (rd x9 x11) 127)))) - (wrap64 (40 * (mn (wrap64 (Int.tdiv (wrap64 ((wrap64 (x5 * 128)) + (wrap64 (Go.bits .and .u8 (rd x9 x11) 127)))) 40)) 2))))] : List Int) : List Int)).bind fun y151 => (if x4.length + y151.length < 17592186044416 then (ints_OID.l0 k x1 (x4 ++ y151) 0 x9 x10 (wrap64 (x11 + 1))) else (none))) else (if x4.length < 17592186044416 then (ints_OID.l0 k x1 (x4 ++ [wrap64 ((wrap64 (x5 * 128)) + (wrap64 (Go.bits .and .u8 (rd x9 x11) 127)))]) 0 x9 x10 (wrap64 (x11 + 1))) else (none))))) else (none)) else (none)) else ((ints_strict_int.f k x1 x4 22).bind fun bt146 => (some (bt146.1, bt146.2)))
def ints_OID.f (k : Nat) (l0 : List Int) : Option (List Int × Int) := ints_OID.l0 k l0 ([] : List Int) 0 l0 (l0.length : Int) 0
theorem ints_OID.mono_l : ∀ k, (∀ y0 y1 y2 y3 y4 y5, LeO (ints_OID.l0 k y0 y1 y2 y3 y4 y5) (ints_OID.l0 (k + 1) y0 y1 y2 y3 y4 y5))
  | 0 => fun _ _ _ _ _ _ r h => by simp [ints_OID.l0] at h
  | k + 1 => by
    have ih0 := ints_OID.mono_l k
    · intro y0 y1 y2 y3 y4 y5
      unfold ints_OID.l0
      repeat' first
      | (with_reducible exact ih0 _ _ _ _ _ _)
      | (with_reducible exact ints_strict_int.mono _ _ _ _)
      | (with_reducible exact LeO.refl _)
      | (with_reducible exact LeO.none _)
      | (with_reducible refine LeO.ite ?_ ?_)
      | (with_reducible refine LeO.bind ?_ (fun _ => ?_))
      | (with_reducible refine LeO_bindX ?_ (fun _ => ?_))
      | exact ih0 _ _ _ _ _ _
      | exact ints_strict_int.mono _ _ _ _
      | exact LeO.none _
      | refine LeO.ite ?_ ?_
      | refine LeO.bind ?_ (fun _ => ?_)
theorem ints_OID.mono : ∀ a0 k, LeO (ints_OID.f k a0) (ints_OID.f (k + 1) a0) := by
  intro a0 k
  have ih0 := ints_OID.mono_l k
  unfold ints_OID.f
  repeat' first
      | (with_reducible exact ih0 _ _ _ _ _ _)
      | (with_reducible exact ints_strict_int.mono _ _ _ _)
      | (with_reducible exact LeO.refl _)
      | (with_reducible exact LeO.none _)
      | (with_reducible refine LeO.ite ?_ ?_)
      | (with_reducible refine LeO.bind ?_ (fun _ => ?_))
      | (with_reducible refine LeO_bindX ?_ (fun _ => ?_))
      | exact ih0 _ _ _ _ _ _
      | exact ints_strict_int.mono _ _ _ _
      | exact LeO.none _
      | refine LeO.ite ?_ ?_
      | refine LeO.bind ?_ (fun _ => ?_)
theorem ints_OID.calls (k : Nat) (A0 : Option Addr) (c0 : Nat) (l0 : List Int) (r1 : List Int) (r2 : Int) (w : World) (hr0 : Kd.C (Kd.int .u8) w A0 l0.length l0) (hc0 : l0.length ≤ c0) (h : ints_OID.f k l0 = some (r1, r2)) :
    Calls Tryd.prog 20 #[.slice A0 l0.length c0] w fun e w' => ∃ v0_ : Value, e = .returned (.tuple #[v0_, .int .i64 r2]) ∧ Kd.R (Kd.int .i64) 3 w' w.heap.size (fun _ => True) v0_ r1 ∧ Below w.heap.size w w' := by
  have HR0 := aZ hr0
  have HC0 := aZ hc0
  clear hr0 hc0
  have HB := aZ (Below.refl w.heap.size w)
  have H := h
  clear h
  unfold ints_OID.f at H
  have H' := aZ H
  clear H
  go_enter Tryd.func20, Tryd.ntmps20
  go_wp2
  obtain ⟨w1, hw1⟩ : ∃ w1, w1 = w.alloc (.cells #[.slice A0 l0.length c0] 24) := ⟨_, rfl⟩
  rw [← hw1]
  have n0_ := aZ (show Below w.heap.size w w1 by rw [hw1]; exact below_alloc (Below.refl _ _) _)
  have n1_ := aZ (show Kd.C (Kd.int .u8) w1 A0 l0.length l0 by rw [hw1]; exact Kd.C_alloc HR0.out _)
  have HG := aZ (show w1.cell? ⟨w.heap.size, 0, none⟩ = some (.slice A0 l0.length c0) by rw [hw1]; go_simp)
  clear hw1 HB HR0
  have HBW := n0_
  have HR0 := n1_
  clear n0_ n1_
  have HB := aZ (Below.refl w1.heap.size w1)
  go_loopg [4, 5, 11] k (fun kq v4 v5 v11 w' => ∃ (x4_1 : List Int) (x5_1 : Int) (x11_1 : Int), v5 = .int .i64 x5_1 ∧ v11 = .int .i64 x11_1 ∧ Aside0 (ints_OID.l0 kq l0 x4_1 x5_1 l0 (l0.length : Int) x11_1 = some (r1, r2)) ∧ Aside0 (kq ≤ k) ∧ Aside0 (Kd.R (Kd.int .i64) 3 w' w1.heap.size (fun _ => True) v4 x4_1) ∧ Aside0 (Below w1.heap.size w1 w'))
  case atStart => exact ⟨(([] : List Int)), (0), (0), rS, rS, H', ⟨Nat.le_refl _⟩, ⟨nN⟩, ⟨bB⟩⟩
  case round =>
    clear H'
    obtain ⟨x4_1, x5_1, x11_1, rfl, rfl, HA, HK1, HO_4, HB⟩ := hrel
    cases gk with
    | zero => exact absurd HA.out (by simp [ints_OID.l0])
    | succ k1 =>
      have H := HA.out
      clear HA
      simp only [ints_OID.l0] at H
      by_cases c2 : x11_1 < (l0.length : Int)
      · rw [if_pos c2] at H
        have c2b0 : decide (x11_1 < (l0.length : Int)) = true := decide_eq_true c2
        clear c2
        by_cases c3 : 0 ≤ x11_1
        · rw [if_pos c3] at H
          have c3b0 : decide (0 ≤ x11_1) = true := decide_eq_true c3
          clear c3
          by_cases c4 : x11_1 < (l0.length : Int)
          · rw [if_pos c4] at H
            have c4b0 : decide (x11_1 < (l0.length : Int)) = true := decide_eq_true c4
            clear c4
            by_cases c5 : (wrap64 ((wrap64 (x5_1 * 128)) + (wrap64 (Go.bits .and .u8 (rd l0 x11_1) 127)))) > 268435455
            · rw [if_pos c5] at H
              have c5b0 : decide (268435455 < (wrap64 ((wrap64 (x5_1 * 128)) + (wrap64 (Go.bits .and .u8 (rd l0 x11_1) 127))))) = true := decide_eq_true c5
              clear c5
              simp only [Option.some.injEq, Prod.mk.injEq] at H
              obtain ⟨rfl, rfl⟩ := H
              have p150 : 0 ≤ (x11_1 : Int) := oD
              have q150 : x11_1 < (l0.length : Int) := oD
              obtain ⟨ad150, e150, hx150_0⟩ := Kd.at_int HR0.out x11_1 p150 q150
              cases e150
              replace hx150_0 := (HB.out.cell (World.block_lt_of_cell? w1 _ hx150_0)).trans hx150_0
              replace p150 := eq_true p150
              replace q150 := eq_true q150
              go_wp2
              go_ret2
              exact ⟨_, rF, Kd.R_lower (nN) (below_size HBW.out), below_step HBW.out bB⟩
            · rw [if_neg c5] at H
              have c5b0 : decide (268435455 < (wrap64 ((wrap64 (x5_1 * 128)) + (wrap64 (Go.bits .and .u8 (rd l0 x11_1) 127))))) = false := decide_eq_false c5
              clear c5
              by_cases c6 : (rd l0 x11_1) > 127
              · rw [if_pos c6] at H
                have c6b0 : decide (127 < (rd l0 x11_1)) = true := decide_eq_true c6
                clear c6
                have H' := aZ H
                clear H
                have p150 : 0 ≤ (x11_1 : Int) := oD
                have q150 : x11_1 < (l0.length : Int) := oD
                obtain ⟨ad150, e150, hx150_0⟩ := Kd.at_int HR0.out x11_1 p150 q150
                cases e150
                replace hx150_0 := (HB.out.cell (World.block_lt_of_cell? w1 _ hx150_0)).trans hx150_0
                replace p150 := eq_true p150
                replace q150 := eq_true q150
                go_wp2
                go_roundg k1
                case measure => have := HK1.out; omega
                case rel => exact ⟨(x4_1), (wrap64 ((wrap64 (x5_1 * 128)) + (wrap64 (Go.bits .and .u8 (rd l0 x11_1) 127)))), (wrap64 (x11_1 + 1)), rS, rS, H', ⟨by have := HK1.out; omega⟩, ⟨by refine kR ?_; exact HO_4.out⟩, ⟨bB⟩⟩
              · rw [if_neg c6] at H
                have c6b0 : decide (127 < (rd l0 x11_1)) = false := decide_eq_false c6
                clear c6
                by_cases c7 : (x4_1.length : Int) = 0
                · rw [if_pos c7] at H
                  have c7b0 : ((x4_1.length : Int) == 0) = true := beq_iff_eq.mpr c7
                  have c7b1 : ((x4_1.length : Int) != 0) = false := bne_eq_false_iff_eq.mpr c7
                  clear c7
                  obtain ⟨ji8, hji8⟩ : ∃ j_ : Int, (mn (wrap64 (Int.tdiv (wrap64 ((wrap64 (x5_1 * 128)) + (wrap64 (Go.bits .and .u8 (rd l0 x11_1) 127)))) 40)) 2) = j_ := ⟨_, rfl⟩
                  replace H : ((some (([ji8, wrap64 ((wrap64 ((wrap64 (x5_1 * 128)) + (wrap64 (Go.bits .and .u8 (rd l0 x11_1) 127)))) - (wrap64 (40 * (ji8))))] : List Int) : List Int)).bind fun y151 => (if x4_1.length + y151.length < 17592186044416 then (ints_OID.l0 k1 l0 (x4_1 ++ y151) 0 l0 (l0.length : Int) (wrap64 (x11_1 + 1))) else (none))) = some (r1, r2) := by first | (rw [hji8] at H; exact H) | (simp only [hji8] at H ⊢; exact H)
                  have hji8_ : (if 2 < (wrap64 (Int.tdiv (wrap64 ((wrap64 (x5_1 * 128)) + (wrap64 (Go.bits .and .u8 (rd l0 x11_1) 127)))) 40)) then 2 else (wrap64 (Int.tdiv (wrap64 ((wrap64 (x5_1 * 128)) + (wrap64 (Go.bits .and .u8 (rd l0 x11_1) 127)))) 40))) = ji8 := hji8
                  obtain ⟨y151, hy151⟩ : ∃ y_ : List Int, y_ = (([ji8, wrap64 ((wrap64 ((wrap64 (x5_1 * 128)) + (wrap64 (Go.bits .and .u8 (rd l0 x11_1) 127)))) - (wrap64 (40 * (ji8))))] : List Int)) := ⟨_, rfl⟩
                  replace H : (if x4_1.length + y151.length < 17592186044416 then (ints_OID.l0 k1 l0 (x4_1 ++ y151) 0 l0 (l0.length : Int) (wrap64 (x11_1 + 1))) else (none)) = some (r1, r2) := by first | (rw [hy151]; with_reducible exact H) | (have H2_ := (Option.bind_some _ _).symm.trans H; rw [hy151]; with_reducible exact H2_) | (have H2_ := (Option.bind_some _ _).symm.trans H; with_reducible exact H2_) | with_reducible exact H | (rw [hy151]; exact H) | exact H
                  have Ny151 := aZ hy151
                  clear hy151
                  by_cases c9 : x4_1.length + y151.length < 17592186044416
                  · rw [if_pos c9] at H
                    have LMc9 := aZ c9
                    clear c9
                    obtain ⟨y154, hy154⟩ : ∃ y_ : List Int, y_ = (x4_1 ++ y151) := ⟨_, rfl⟩
                    replace H : (ints_OID.l0 k1 l0 y154 0 l0 (l0.length : Int) (wrap64 (x11_1 + 1))) = some (r1, r2) := by first | (rw [hy154]; with_reducible exact H) | (have H2_ := (Option.bind_some _ _).symm.trans H; rw [hy154]; with_reducible exact H2_) | (have H2_ := (Option.bind_some _ _).symm.trans H; with_reducible exact H2_) | with_reducible exact H | (rw [hy154]; exact H) | exact H
                    have Ny154 := aZ hy154
                    clear hy154
                    have H' := aZ H
                    clear H
                    have p150 : 0 ≤ (x11_1 : Int) := oD
                    have q150 : x11_1 < (l0.length : Int) := oD
                    obtain ⟨ad150, e150, hx150_0⟩ := Kd.at_int HR0.out x11_1 p150 q150
                    cases e150
                    replace hx150_0 := (HB.out.cell (World.block_lt_of_cell? w1 _ hx150_0)).trans hx150_0
                    replace p150 := eq_true p150
                    replace q150 := eq_true q150
                    obtain ⟨Ao10, co10, eo10⟩ := Kd.R_slice HO_4.out
                    subst eo10
                    go_wp2_with (first | ((with_reducible refine gD 43 rfl ?_); refine Kd.R_lit (Kd.int .i64) _ 3 ?hg (N := 43) ?hd (xs := ([ji8, wrap64 ((wrap64 ((wrap64 (x5_1 * 128)) + (wrap64 (Go.bits .and .u8 (rd l0 x11_1) 127)))) - (wrap64 (40 * (ji8))))] : List Int)) (inner := [.int .i64 ji8, .int .i64 (wrap64 ((wrap64 ((wrap64 (x5_1 * 128)) + (wrap64 (Go.bits .and .u8 (rd l0 x11_1) 127)))) - (wrap64 (40 * (ji8)))))]) (ok := fun _ => True) (okp := fun _ => True) ?hr ?hp (fun _ hk => hk) trivial (Below.refl _ _) (Nat.le_refl _) (by simp) ?_; (case hd => rfl); (case hg => rfl); (case hr => exact gS); (case hp => exact (Reps.one (show Kd.M (Kd.int .i64) _ _ _ ji8 [.int .i64 ji8] from rfl) (Reps.one (show Kd.M (Kd.int .i64) _ _ _ (wrap64 ((wrap64 ((wrap64 (x5_1 * 128)) + (wrap64 (Go.bits .and .u8 (rd l0 x11_1) 127)))) - (wrap64 (40 * (ji8))))) [.int .i64 (wrap64 ((wrap64 ((wrap64 (x5_1 * 128)) + (wrap64 (Go.bits .and .u8 (rd l0 x11_1) 127)))) - (wrap64 (40 * (ji8)))))] from rfl) (Reps.none _ _)))); intro v152 w11 ho12 hb hg_ hnew_; clear hg_ hnew_; (first | rw [← Ny151.out] at ho12 | (simp only [Int.reduceToNat] at ho12; rw [← Ny151.out] at ho12)); have HO153 := aZ (Kd.R_lower (Kd.R_new' ho12 (Kd.R_lt (kR HO_4.out))) (below_size bB)); replace HO_4 := aZ (Kd.R_elder' (kR HO_4.out) (Kd.R_base ho12) hb); replace HB := aZ (below_step bB hb); clear hb ho12; obtain ⟨Ao14, co14, eo14⟩ := Kd.R_slice HO153.out; subst eo14) | ((with_reducible refine gate_builtin (b := .append) (xs := #[.tmp 37, .tmp 43]) rfl ?_); at_builtin; refine Kd.R_append_rows (Kd.int .i64) (w0 := w1) w1.heap.size rfl (.tmp 37) (.tmp 43) 31 3 (.int .i64 0) 8 rfl Tryd.underlying31 info3 rfl (by decide) (by omega) (.slice Ao10 x4_1.length co10) x4_1 y151 _ _ _ (fun k_ => some k_ ≠ (.slice Ao14 y151.length co14 : Value).ownBlock) (fun _ => False) rfl rfl ?aO ?aR (fun _ _ h => h) (fun _ h => h.elim) ?aF ?aB ?aS ?aL ?_; (case aR => exact kC (Kd.R_reads' HO153.out).2.2); (case aB => exact bB); (case aF => exact (fun k_ hk => Kd.fresh' (Kd.R_lt (kR HO153.out)) k_ hk)); (case aO => exact (by refine kR ?_; exact Kd.R_mono HO_4.out (fun _ hk => hk.2))); (case aS => exact (below_size bB)); (case aL => have := LMc9.out; omega); intro v155 w13 ho hb hg hat; rw [← Ny154.out] at ho; replace HO153 := aZ (Kd.R_after (ok := (fun _ => True)) (kR HO153.out) hg hat); replace HB := aZ (hb); have HO156 := aZ (ho); clear HO_4; clear ho hb hg hat))
                    go_roundg k1
                    case measure => have := HK1.out; omega
                    case rel => exact ⟨(y154), (0), (wrap64 (x11_1 + 1)), rS, rS, H', ⟨by have := HK1.out; omega⟩, ⟨by refine kR ?_; exact Kd.R_mono HO156.out (fun _ hk => trivial)⟩, ⟨bB⟩⟩
                  · rw [if_neg c9] at H
                    exact absurd H (by simp)
                · rw [if_neg c7] at H
                  have c7b0 : ((x4_1.length : Int) == 0) = false := beq_eq_false_iff_ne.mpr c7
                  have c7b1 : ((x4_1.length : Int) != 0) = true := bne_iff_ne.mpr c7
                  have c7b2 : ¬ (x4_1 = []) := fun h_ => c7 (by rw [h_]; rfl)
                  by_cases c15 : x4_1.length < 17592186044416
                  · rw [if_pos c15] at H
                    have LMc15 := aZ c15
                    clear c15
                    obtain ⟨y157, hy157⟩ : ∃ y_ : List Int, y_ = (x4_1 ++ [wrap64 ((wrap64 (x5_1 * 128)) + (wrap64 (Go.bits .and .u8 (rd l0 x11_1) 127)))]) := ⟨_, rfl⟩
                    replace H : (ints_OID.l0 k1 l0 y157 0 l0 (l0.length : Int) (wrap64 (x11_1 + 1))) = some (r1, r2) := by first | (rw [hy157]; with_reducible exact H) | (have H2_ := (Option.bind_some _ _).symm.trans H; rw [hy157]; with_reducible exact H2_) | (have H2_ := (Option.bind_some _ _).symm.trans H; with_reducible exact H2_) | with_reducible exact H | (rw [hy157]; exact H) | exact H
                    have Ny157 := aZ hy157
                    clear hy157
                    have H' := aZ H
                    clear H
                    have p150 : 0 ≤ (x11_1 : Int) := oD
                    have q150 : x11_1 < (l0.length : Int) := oD
                    obtain ⟨ad150, e150, hx150_0⟩ := Kd.at_int HR0.out x11_1 p150 q150
                    cases e150
                    replace hx150_0 := (HB.out.cell (World.block_lt_of_cell? w1 _ hx150_0)).trans hx150_0
                    replace p150 := eq_true p150
                    replace q150 := eq_true q150
                    obtain ⟨Ao16, co16, eo16⟩ := Kd.R_slice HO_4.out
                    subst eo16
                    go_wp2_with (first | ((with_reducible refine gate_builtin (b := .append) (xs := #[.tmp 23, .tmp 25]) rfl ?_); at_builtin; refine Kd.R_append (Kd.int .i64) (w0 := w1) w1.heap.size rfl (.tmp 23) (.tmp 25) 31 3 (.int .i64 0) 8 rfl Tryd.underlying31 info3 rfl (by decide) (by omega) (.slice Ao16 x4_1.length co16) x4_1 (wrap64 ((wrap64 (x5_1 * 128)) + (wrap64 (Go.bits .and .u8 (rd l0 x11_1) 127)))) [.int .i64 (wrap64 ((wrap64 (x5_1 * 128)) + (wrap64 (Go.bits .and .u8 (rd l0 x11_1) 127))))] (fun _ => True) (fun _ => False) rfl rfl ?aP (fun _ hk => hk.elim) ?aF ?aO ?aB ?aS ?aL ?_; (case aP => exact rfl); (case aB => exact bB); (case aF => exact (fun _ _ => trivial)); (case aO => exact (kR HO_4.out)); (case aS => exact (below_size bB)); (case aL => have := LMc15.out; omega); intro v158 w17 ho hb hg hat; rw [← Ny157.out] at ho; replace HB := aZ (hb); have HO159 := aZ (ho); clear HO_4; clear ho hb hg hat))
                    go_roundg k1
                    case measure => have := HK1.out; omega
                    case rel => exact ⟨(y157), (0), (wrap64 (x11_1 + 1)), rS, rS, H', ⟨by have := HK1.out; omega⟩, ⟨by refine kR ?_; exact HO159.out⟩, ⟨bB⟩⟩
                  · rw [if_neg c15] at H
                    exact absurd H (by simp)
          · rw [if_neg c4] at H
            exact absurd H (by simp)
        · rw [if_neg c3] at H
          exact absurd H (by simp)
      · rw [if_neg c2] at H
        have c2b0 : decide (x11_1 < (l0.length : Int)) = false := decide_eq_false c2
        clear c2
        replace H := Option.bind_eq_some_iff.mp H
        obtain ⟨⟨t146, t149⟩, A180, H⟩ := H
        try dsimp only at H
        have A18 := aZ A180
        clear A180
        simp only [Option.some.injEq, Prod.mk.injEq] at H
        obtain ⟨rfl, rfl⟩ := H
        obtain ⟨Ao19, co19, eo19⟩ := Kd.R_slice HO_4.out
        subst eo19
        have hgr_ := (HB.out.cell (World.block_lt_of_cell? w1 _ HG.out)).trans HG.out
        go_wp2_with (first | ((with_reducible refine gC 38 rfl ?_); refine goL (some 49) Tryd.func38 #[.slice A0 l0.length c0, .slice Ao19 x4_1.length co19, .int .i64 22, .func (.func 39) #[] #[.pointer (some ⟨w.heap.size, 0, none⟩)]] ?_; (with_reducible refine (ints_strict_int.calls k1 _ _ l0 (fun k_ => some k_ = (.slice Ao19 x4_1.length co19 : Value).ownBlock) (.slice Ao19 x4_1.length co19) x4_1 22  t146 t149 w1 _ ?side1 ?side2 ?side3 ?side4 w.heap.size ?sideG A18.out).mono ?_); (case side1 => repeat (first | (with_reducible first | exact HB.out | apply below_alloc | apply pw_below_drewN | apply below_drew1) | exact HB.out)); (case side2 => exact Kd.C_kept_came (Kd.heap_int .u8) HR0.out bB (fun k_ hs_ => (fun e_ => Kd.R_base HO_4.out k_ e_.symm) hs_)); (case side3 => exact HC0.out); (case side4 => exact Kd.R_tight rfl HO_4.out); (case sideG => exact fun W_ hk_ => cell_kept ((HB.out.cell (World.block_lt_of_cell? w1 _ HG.out)).trans HG.out) hk_ (fun e_ => absurd (Kd.R_base HO_4.out _ e_.symm) (Nat.not_le.mpr (World.block_lt_of_cell? w1 _ HG.out)))); rintro e w20 ⟨v147, rfl, ho0, hb, hkp⟩; refine ⟨_, rfl, ?_⟩; have HO148 := aZ (Kd.R_mono (ok' := fun k_ => True) ho0 (fun k_ hk_ => trivial)); replace HB := aZ (hb); clear HO_4; (try clear hb); (try clear hkp); (try clear ho0)))
        go_ret2
        exact ⟨_, rF, Kd.R_lower (kR HO148.out) (below_size HBW.out), below_step HBW.out bB⟩
end Go.Proofs.YtkceebgncfggjaaDoor.PQ

