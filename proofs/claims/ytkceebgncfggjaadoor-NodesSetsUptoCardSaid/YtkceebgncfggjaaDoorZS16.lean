/- NodesSets: words, printed functions and plain laws that the claim uses, laid by a program of this session's. No condition beside those in each theorem's own line. -/
import Derived.Laws.Externs
import Derived.Lib.BytesEntry
import Derived.Test.YtkceebgncfggjaaDoorZS6
set_option linter.unusedVariables false
set_option linter.unusedSimpArgs false
namespace Go.Proofs.YtkceebgncfggjaaDoor.PQ
open Go.RowKit Go.Proofs.YtkceebgncfggjaaDoorW.PrintWords Go.Proofs.YtkceebgncfggjaaDoorW.PrintLast Go.Proofs.YtkceebgncfggjaaDoorW.PrintMore Go.Proofs.YtkceebgncfggjaaDoorX
set_option maxHeartbeats 8000000
set_option maxRecDepth 100000
def arrOf (l : List Int) : ByteArray := ⟨(Lib.bytesOf l).toArray⟩
def bytes_Compare.f (l0 l1 : List Int) : Option Int := some (Extern.BytealgCompare.cmp (arrOf l0) (arrOf l1))
theorem bytes_in {w : World} {A : Option Addr} {l : List Int} {c : Nat} (h : Kd.C (Kd.int .u8) w A l.length l) : (Extern.Bytes.bytesOf (.slice A l.length c)).run Tryd.prog w = .ok (arrOf l) w := by
  have hr := Kd.reads_of_C (d := (0 : Int)) (h1 := fun _ => rfl) h
  cases l with
  | nil =>
    cases A with
    | none => rfl
    | some a => simp [Extern.Bytes.bytesOf, Extern.Bytes.loadBytes, arrOf, Lib.bytesOf]; rfl
  | cons x l =>
    obtain ⟨ad, rfl, hc⟩ := hr.2.2 (by simp)
    have hl := Lib.run_loadBytesX (P := Tryd.prog) (w := w) (x :: l) ad .empty (fun j y hy => by
      have hj : j < (x :: l).length := (List.getElem?_eq_some_iff.1 hy).1
      have h2 := hc j hj
      rw [List.getD_eq_getElem?_getD, hy] at h2
      exact h2)
    show (Extern.Bytes.loadBytes ad (x :: l).length .empty).run Tryd.prog w = _
    rw [hl]
    simp [arrOf]
theorem run_cmp {w : World} {A0 A1 : Option Addr} {l0 l1 : List Int} {c0 c1 : Nat} (h0 : Kd.C (Kd.int .u8) w A0 l0.length l0) (h1 : Kd.C (Kd.int .u8) w A1 l1.length l1) :
    (callFunc 90 #[.slice A0 l0.length c0, .slice A1 l1.length c1]).run Tryd.prog w = .ok (.value (.int .i64 (Extern.BytealgCompare.cmp (arrOf l0) (arrOf l1)))) w := by
  rw [run_callFunc_extern (e := Extern.BytealgCompare.compare) Tryd.func90 (by kernel_rfl) (by kernel_rfl) (by kernel_rfl) (by kernel_rfl)]
  show ((do pure (goInt (Extern.BytealgCompare.cmp (← Extern.Bytes.bytesOf (.slice A0 l0.length c0)) (← Extern.Bytes.bytesOf (.slice A1 l1.length c1)))) : Sem Value).run Tryd.prog w).andThen _ = _
  simp [bytes_in h0, bytes_in h1]
  rfl
theorem bytes_Compare.calls (A0 : Option Addr) (c0 : Nat) (l0 : List Int) (A1 : Option Addr) (c1 : Nat) (l1 : List Int) (r : Int) (w : World) (hr0 : Kd.C (Kd.int .u8) w A0 l0.length l0) (hc0 : l0.length ≤ c0) (hr1 : Kd.C (Kd.int .u8) w A1 l1.length l1) (hc1 : l1.length ≤ c1) (h : bytes_Compare.f l0 l1 = some r) :
    Calls Tryd.prog 71 #[.slice A0 l0.length c0, .slice A1 l1.length c1] w fun e w' => e = .returned (.int .i64 r) ∧ Drawn0 w w' := by
  obtain rfl := Option.some.inj h
  have hrun := run_cmp (c0 := c0) (c1 := c1) hr0 hr1
  clear hr0 hr1 hc0 hc1 h
  go_enter Tryd.func71, Tryd.ntmps71
  go_wp2
  go_ret
  exact ⟨rfl, Drawn0.refl _⟩
end Go.Proofs.YtkceebgncfggjaaDoor.PQ

namespace Go.Proofs.YtkceebgncfggjaaDoor.PQ
open Go.RowKit Go.Proofs.YtkceebgncfggjaaDoorW.PrintWords Go.Proofs.YtkceebgncfggjaaDoorW.PrintLast Go.Proofs.YtkceebgncfggjaaDoorW.PrintMore Go.Proofs.YtkceebgncfggjaaDoorX
set_option maxHeartbeats 8000000
set_option maxRecDepth 100000
attribute [local go_sem] max2_int min2_int max_two min_two
def slices_IsSortedFunc_byte_byte.l0 : Nat → List (List Int) → Int → Option (Bool)
 | 0, _, _ => none
 | k + 1, x0, x5 => if x5 > 0 then (if 0 ≤ x5 then (if x5 < (x0.length : Int) then (if 0 ≤ (wrap64 (x5 - 1)) then (if (wrap64 (x5 - 1)) < (x0.length : Int) then ((bytes_Compare.f (rd_L2 x0 x5) (rd_L2 x0 (wrap64 (x5 - 1)))).bind fun t240 => (if t240 < 0 then (some false) else (slices_IsSortedFunc_byte_byte.l0 k x0 (wrap64 (x5 - 1))))) else (none)) else (none)) else (none)) else (none)) else (some true)
def slices_IsSortedFunc_byte_byte.f (k : Nat) (l0 : List (List Int))  : Option (Bool) := slices_IsSortedFunc_byte_byte.l0 k l0 (wrap64 ((l0.length : Int) - 1))
theorem slices_IsSortedFunc_byte_byte.mono_l : ∀ k, (∀ y0 y1, LeO (slices_IsSortedFunc_byte_byte.l0 k y0 y1) (slices_IsSortedFunc_byte_byte.l0 (k + 1) y0 y1))
 | 0 => fun _ _ r h => by simp [slices_IsSortedFunc_byte_byte.l0] at h
 | k + 1 => by
  have ih0 := slices_IsSortedFunc_byte_byte.mono_l k
  ·intro y0 y1
   unfold slices_IsSortedFunc_byte_byte.l0
   repeat' first
   | (with_reducible exact ih0 _ _)
   | (with_reducible exact LeO.refl _)
   | (with_reducible exact LeO.none _)
   | (with_reducible refine LeO.ite ?_ ?_)
   | (with_reducible refine LeO.bind ?_ (fun _ => ?_))
   | (with_reducible refine LeO_bindX ?_ (fun _ => ?_))
   | exact ih0 _ _
   | exact LeO.none _
   | refine LeO.ite ?_ ?_
   | refine LeO.bind ?_ (fun _ => ?_)
theorem slices_IsSortedFunc_byte_byte.mono : ∀ a0 k, LeO (slices_IsSortedFunc_byte_byte.f k a0) (slices_IsSortedFunc_byte_byte.f (k + 1) a0) := by
 intro a0 k
 have ih0 := slices_IsSortedFunc_byte_byte.mono_l k
 unfold slices_IsSortedFunc_byte_byte.f
 repeat' first
   | (with_reducible exact ih0 _ _)
   | (with_reducible exact LeO.refl _)
   | (with_reducible exact LeO.none _)
   | (with_reducible refine LeO.ite ?_ ?_)
   | (with_reducible refine LeO.bind ?_ (fun _ => ?_))
   | (with_reducible refine LeO_bindX ?_ (fun _ => ?_))
   | exact ih0 _ _
   | exact LeO.none _
   | refine LeO.ite ?_ ?_
   | refine LeO.bind ?_ (fun _ => ?_)
theorem slices_IsSortedFunc_byte_byte.calls (k : Nat) (A0 : Option Addr) (c0 : Nat) (l0 : List (List Int))  (r : Bool) (w : World) (hr0 : Kd.C (Kd.slice 5 (Kd.int .u8)) w A0 l0.length l0) (hc0 : l0.length ≤ c0) (h : slices_IsSortedFunc_byte_byte.f k l0 = some r) :
  Calls Tryd.prog 70 #[.slice A0 l0.length c0, .func (.func 71) #[] #[]] w fun e w' => e = .returned (.bool r) ∧ Drawn0 w w' := by
 have HR0 := aZ hr0
 have HC0 := aZ hc0
 clear hr0 hc0
 have H := h
 clear h
 unfold slices_IsSortedFunc_byte_byte.f at H
 have H' := aZ H
 clear H
 go_enter Tryd.func70, Tryd.ntmps70
 go_wp2
 repeat (go_quiet (fail); try go_wp2)
 go_loopg [5] k (fun kq v5 w' => ∃ (x5_1 : Int), v5 = .int .i64 x5_1 ∧ Aside0 (slices_IsSortedFunc_byte_byte.l0 kq l0 x5_1 = some r) ∧ Aside0 (kq ≤ k) ∧ Drawn0 w w')
 case atStart => exact ⟨(wrap64 ((l0.length : Int) - 1)), rS, H', ⟨Nat.le_refl _⟩, d0⟩
 case round =>
  clear H'
  try clear p2
  obtain ⟨x5_1, rfl, HA, HK1, ⟨m1, rfl⟩⟩ := hrel
  cases gk with
  | zero => exact absurd HA.out (by simp [slices_IsSortedFunc_byte_byte.l0])
  | succ k1 =>
   have H := HA.out
   clear HA
   simp only [slices_IsSortedFunc_byte_byte.l0] at H
   by_cases c3 : x5_1 > 0
   ·rw [if_pos c3] at H
    have c3b0 : decide (0 < x5_1) = true := decide_eq_true c3
    clear c3
    by_cases c4 : 0 ≤ x5_1
    ·rw [if_pos c4] at H
     have c4b0 : decide (0 ≤ x5_1) = true := decide_eq_true c4
     clear c4
     by_cases c5 : x5_1 < (l0.length : Int)
     ·rw [if_pos c5] at H
      have c5b0 : decide (x5_1 < (l0.length : Int)) = true := decide_eq_true c5
      clear c5
      obtain ⟨ji6, hji6⟩ : ∃ j_ : Int, (wrap64 (x5_1 - 1)) = j_ := ⟨_, rfl⟩
      replace H : (if 0 ≤ (ji6) then (if (ji6) < (l0.length : Int) then ((bytes_Compare.f (rd_L2 l0 x5_1) (rd_L2 l0 (ji6))).bind fun t240 => (if t240 < 0 then (some false) else (slices_IsSortedFunc_byte_byte.l0 k1 l0 ji6))) else (none)) else (none)) = some r := by first | (rw [hji6] at H; exact H) | (simp only [hji6] at H ⊢; exact H)
      have hji6w : (IntKind.i64.wrap (x5_1 - 1)) = ji6 := (i64_w _).trans hji6
      by_cases c7 : 0 ≤ (ji6)
      ·rw [if_pos c7] at H
       have c7b0 : decide (0 ≤ (ji6)) = true := decide_eq_true c7
       clear c7
       by_cases c8 : (ji6) < (l0.length : Int)
       ·rw [if_pos c8] at H
        have c8b0 : decide ((ji6) < (l0.length : Int)) = true := decide_eq_true c8
        clear c8
        replace H := Option.bind_eq_some_iff.mp H
        obtain ⟨t240, A90, H⟩ := H
        try dsimp only at H
        have A9 := aZ A90
        clear A90
        by_cases c10 : t240 < 0
        ·rw [if_pos c10] at H
         have c10b0 : decide (t240 < 0) = true := decide_eq_true c10
         clear c10
         obtain rfl := Option.some.inj H
         have p238 : 0 ≤ (x5_1 : Int) := oD
         have q238 : x5_1 < (l0.length : Int) := oD
         obtain ⟨ad238, A238_0, c238_0, e238, hx238_0, hl238_0, hi238_0⟩ := at_L2 HR0.out x5_1 p238 q238
         cases e238
         have HR238_0 := aZ hi238_0
         have HC238_0 := aZ hl238_0
         clear hi238_0 hl238_0
         replace p238 := eq_true p238
         replace q238 := eq_true q238
         have p239 : 0 ≤ ((ji6) : Int) := oD
         have q239 : (ji6) < (l0.length : Int) := oD
         obtain ⟨ad239, A239_0, c239_0, e239, hx239_0, hl239_0, hi239_0⟩ := at_L2 HR0.out (ji6) p239 q239
         obtain rfl : ad238 = ad239 := (by injection e239)
         have HR239_0 := aZ hi239_0
         have HC239_0 := aZ hl239_0
         clear hi239_0 hl239_0
         replace p239 := eq_true p239
         replace q239 := eq_true q239
         go_wp2_with (first | (go_at_call 71; (with_reducible refine (bytes_Compare.calls _ _ (rd_L2 l0 x5_1) _ _ (rd_L2 l0 (ji6)) t240 _ ?side1 ?side2 ?side3 ?side4 A9.out).mono ?_); (case side1 => exact kC HR238_0.out); (case side2 => exact HC238_0.out); (case side3 => exact kC HR239_0.out); (case side4 => exact HC239_0.out); rintro e w' ⟨rfl, ⟨nd, rfl⟩⟩; (try first | exact ⟨rfl, _, World.drewN_drewN _ _ _⟩ | exact ⟨rfl, _, Eq.trans (World.drewN_drewN _ _ _) (congrArg (World.drewN _) (Nat.add_assoc _ _ _))⟩)))
         repeat (go_quiet (first | (go_at_call 71; (with_reducible refine (bytes_Compare.calls _ _ (rd_L2 l0 x5_1) _ _ (rd_L2 l0 (ji6)) t240 _ ?side1 ?side2 ?side3 ?side4 A9.out).mono ?_); (case side1 => exact kC HR238_0.out); (case side2 => exact HC238_0.out); (case side3 => exact kC HR239_0.out); (case side4 => exact HC239_0.out); rintro e w' ⟨rfl, ⟨nd, rfl⟩⟩; (try first | exact ⟨rfl, _, World.drewN_drewN _ _ _⟩ | exact ⟨rfl, _, Eq.trans (World.drewN_drewN _ _ _) (congrArg (World.drewN _) (Nat.add_assoc _ _ _))⟩))); try go_wp2_with (first | (go_at_call 71; (with_reducible refine (bytes_Compare.calls _ _ (rd_L2 l0 x5_1) _ _ (rd_L2 l0 (ji6)) t240 _ ?side1 ?side2 ?side3 ?side4 A9.out).mono ?_); (case side1 => exact kC HR238_0.out); (case side2 => exact HC238_0.out); (case side3 => exact kC HR239_0.out); (case side4 => exact HC239_0.out); rintro e w' ⟨rfl, ⟨nd, rfl⟩⟩; (try first | exact ⟨rfl, _, World.drewN_drewN _ _ _⟩ | exact ⟨rfl, _, Eq.trans (World.drewN_drewN _ _ _) (congrArg (World.drewN _) (Nat.add_assoc _ _ _))⟩))))
         go_ret
         exact ⟨by first | rfl | (simp; done) | (simp only [← hji6] <;> (first | rfl | simp)) | (simp [*]; done), d0⟩
        ·rw [if_neg c10] at H
         have c10b0 : decide (t240 < 0) = false := decide_eq_false c10
         clear c10
         have H' := aZ H
         clear H
         have p238 : 0 ≤ (x5_1 : Int) := oD
         have q238 : x5_1 < (l0.length : Int) := oD
         obtain ⟨ad238, A238_0, c238_0, e238, hx238_0, hl238_0, hi238_0⟩ := at_L2 HR0.out x5_1 p238 q238
         cases e238
         have HR238_0 := aZ hi238_0
         have HC238_0 := aZ hl238_0
         clear hi238_0 hl238_0
         replace p238 := eq_true p238
         replace q238 := eq_true q238
         have p239 : 0 ≤ ((ji6) : Int) := oD
         have q239 : (ji6) < (l0.length : Int) := oD
         obtain ⟨ad239, A239_0, c239_0, e239, hx239_0, hl239_0, hi239_0⟩ := at_L2 HR0.out (ji6) p239 q239
         obtain rfl : ad238 = ad239 := (by injection e239)
         have HR239_0 := aZ hi239_0
         have HC239_0 := aZ hl239_0
         clear hi239_0 hl239_0
         replace p239 := eq_true p239
         replace q239 := eq_true q239
         go_wp2_with (first | (go_at_call 71; (with_reducible refine (bytes_Compare.calls _ _ (rd_L2 l0 x5_1) _ _ (rd_L2 l0 (ji6)) t240 _ ?side1 ?side2 ?side3 ?side4 A9.out).mono ?_); (case side1 => exact kC HR238_0.out); (case side2 => exact HC238_0.out); (case side3 => exact kC HR239_0.out); (case side4 => exact HC239_0.out); rintro e w' ⟨rfl, ⟨nd, rfl⟩⟩; (try first | exact ⟨rfl, _, World.drewN_drewN _ _ _⟩ | exact ⟨rfl, _, Eq.trans (World.drewN_drewN _ _ _) (congrArg (World.drewN _) (Nat.add_assoc _ _ _))⟩)))
         repeat (go_quiet (first | (go_at_call 71; (with_reducible refine (bytes_Compare.calls _ _ (rd_L2 l0 x5_1) _ _ (rd_L2 l0 (ji6)) t240 _ ?side1 ?side2 ?side3 ?side4 A9.out).mono ?_); (case side1 => exact kC HR238_0.out); (case side2 => exact HC238_0.out); (case side3 => exact kC HR239_0.out); (case side4 => exact HC239_0.out); rintro e w' ⟨rfl, ⟨nd, rfl⟩⟩; (try first | exact ⟨rfl, _, World.drewN_drewN _ _ _⟩ | exact ⟨rfl, _, Eq.trans (World.drewN_drewN _ _ _) (congrArg (World.drewN _) (Nat.add_assoc _ _ _))⟩))); try go_wp2_with (first | (go_at_call 71; (with_reducible refine (bytes_Compare.calls _ _ (rd_L2 l0 x5_1) _ _ (rd_L2 l0 (ji6)) t240 _ ?side1 ?side2 ?side3 ?side4 A9.out).mono ?_); (case side1 => exact kC HR238_0.out); (case side2 => exact HC238_0.out); (case side3 => exact kC HR239_0.out); (case side4 => exact HC239_0.out); rintro e w' ⟨rfl, ⟨nd, rfl⟩⟩; (try first | exact ⟨rfl, _, World.drewN_drewN _ _ _⟩ | exact ⟨rfl, _, Eq.trans (World.drewN_drewN _ _ _) (congrArg (World.drewN _) (Nat.add_assoc _ _ _))⟩))))
         go_roundg k1
         case measure => have := HK1.out; omega
         case rel => exact ⟨(ji6), (by first | rfl | (simp; done) | (simp only [← hji6] <;> (first | rfl | simp)) | (simp [*]; done)), H', ⟨by have := HK1.out; omega⟩, d0⟩
       ·rw [if_neg c8] at H
        exact absurd H (by simp)
      ·rw [if_neg c7] at H
       exact absurd H (by simp)
     ·rw [if_neg c5] at H
      exact absurd H (by simp)
    ·rw [if_neg c4] at H
     exact absurd H (by simp)
   ·rw [if_neg c3] at H
    have c3b0 : decide (0 < x5_1) = false := decide_eq_false c3
    clear c3
    obtain rfl := Option.some.inj H
    go_wp2
    repeat (go_quiet (fail); try go_wp2)
    go_ret
    exact ⟨rS, d0⟩
end Go.Proofs.YtkceebgncfggjaaDoor.PQ

